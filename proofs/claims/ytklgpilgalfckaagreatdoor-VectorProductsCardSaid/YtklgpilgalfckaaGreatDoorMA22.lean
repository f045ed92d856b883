/-
 Texts laid together.
-/
import Derived.Test.YtklgpilgalfckaaGreatDoorMA21
import Derived.Test.YtklgpilgalfckaaGreatDoorMA15
import Derived.Test.YtklgpilgalfckaaGreatDoorMA16
import Derived.Lib.MinMax
set_option maxRecDepth 100000
set_option maxHeartbeats 16000000
namespace Go.Proofs.YtklgpilgalfckaaGreatDoor
open Go.RowKit Go.KP Go.KI Go.Shelf
attribute [local go_sem] Oper.semAt_some

theorem ycH (n : Nat) (hn : n < 1000000000000000000) (w : World) :
 Calls Tryz.prog 159 #[.int .i64 n] w (fun e w' => e = .returned (.int .i64 (rootN n)) ∧ w' = w) := by
 have HN := hide hn
 have hn1 : (n : Int) < 1000000000000000000 := by omega
 clear hn
 go_enter Tryz.func159, Tryz.ntmps159
 go_wp2_with fail
 go_loopw [3, 4] (fun r b wr => ∃ R j V : Nat, j ≤ 30 ∧ r = .int .i64 R ∧ b = .int .i64 V ∧ Hid (V = 2 ^ j / 2) ∧ Hid (R + 2 ^ j ≤ 1073741824 ∧ R * R ≤ n ∧ n < (R + 2 ^ j) * (R + 2 ^ j)) ∧ wr = w) (fun _ b _ => (intOf b).toNat)
 case atStart =>
  refine ⟨0, 30, 536870912, by omega, rfl, rfl, hide (by decide), ⟨by decide, Nat.zero_le _, ?_⟩, rfl⟩
  have := HN.out
  exact Nat.lt_of_lt_of_le this (by decide)
 case round =>
  obtain ⟨R, j, b, hj, rfl, rfl, hb, hin, rfl⟩ := hrel
  have HB := hide hb.out
  have IN := hide hin.out
  clear hb hin
  cases j with
  |zero =>
   have hb0 : b = 0 := HB.out
   have hr : rootN n = R := kR IN.out.2.1 IN.out.2.2
   have HR := hide hr
   subst hb0
   have g : ((0 : Int) < ((0 : Nat) : Int)) = False := eq_false (by omega)
   clear hr hj
   go_wp2_with fail
   go_ret
   exact ⟨by rw [HR.out]; rfl, rfl⟩
  |succ i =>
   have e1 : b = 2 ^ i := by rw [HB.out, Nat.pow_succ]; omega
   have e2 : 2 ^ (i + 1) = b + b := by rw [Nat.pow_succ, ← e1]; omega
   have hbp : 0 < b := by rw [e1]; exact Nat.pow_pos (by omega)
   have I2 := IN.out
   rw [e2] at I2
   obtain ⟨c, hc⟩ := xe (R + b)
   have hci : (R : Int) + (b : Int) = (c : Int) := by omega
   obtain ⟨Q, hQ⟩ := xe (c * c)
   have hQi : (c : Int) * (c : Int) = (Q : Int) := by rw [hQ, Int.natCast_mul]
   have hcl : c ≤ 1073741824 := by omega
   have hQl : Q ≤ 1152921504606846976 := by rw [hQ]; exact Nat.le_trans (Nat.mul_le_mul hcl hcl) (by decide)
   have hbl : b ≤ 1073741824 := by omega
   have hRl : R ≤ 1073741824 := by omega
   have hdi : (b : Int) / 2 = ((b / 2 : Nat) : Int) := by omega
   obtain ⟨h, hh⟩ := xe (b / 2)
   rw [← hh] at hdi
   have hlt : h < b := by omega
   have g0 : (0 : Int) < (b : Int) := by omega
   by_cases hle : Q ≤ n
   ·have g1 : (Q : Int) ≤ (n : Int) := by omega
    have HX := hide (show h = 2 ^ i / 2 ∧ (c + 2 ^ i ≤ 1073741824 ∧ c * c ≤ n ∧ n < (c + 2 ^ i) * (c + 2 ^ i)) from ⟨by rw [hh, e1], by rw [← e1]; omega, by rw [← hQ]; exact hle, by rw [← e1, hc, show R + b + b = R + (b + b) by omega]; exact I2.2.2⟩)
    clear e1 e2 I2 hc hQ hh hle IN HB
    go_wp2_with fail
    go_roundw
    case rel => exact ⟨c, i, h, by omega, rfl, rfl, hide HX.out.1, hide HX.out.2, trivial⟩
    case measure => simp only [intOf]; omega
   ·have g1 : ((Q : Int) ≤ (n : Int)) = False := eq_false (by omega)
    have HX := hide (show h = 2 ^ i / 2 ∧ (R + 2 ^ i ≤ 1073741824 ∧ R * R ≤ n ∧ n < (R + 2 ^ i) * (R + 2 ^ i)) from ⟨by rw [hh, e1], by rw [← e1]; omega, I2.2.1, by rw [← e1, ← hc, ← hQ]; omega⟩)
    clear e1 e2 I2 hc hQ hh hle IN HB
    go_wp2_with fail
    go_roundw
    case rel => exact ⟨R, i, h, by omega, rfl, rfl, hide HX.out.1, hide HX.out.2, trivial⟩
    case measure => simp only [intOf]; omega
theorem yeH {n : Nat} (f : fits (n : Int)) (B : Nat) (w : World) (hB : B ≤ w.heap.size) (hT : P10 B w) :
 Calls Tryz.prog 107 #[.string (iB (n : Int))] w (Ret w (.tuple #[.string (iB ((rootN n : Nat) : Int)), .bool (sqI n)])) := by
 have HT := hide hT
 obtain ⟨r1, r2⟩ := yX n
 have hsz : (iB (n : Int)).size = (Lib.decDigits n).length := by rw [← yg, zx (by omega), Int.natAbs_natCast]
 have c1 : chkI (iB (n : Int)).data.toList = 0 := by rw [yv]; exact yM f
 have v1 : valI (iB (n : Int)).data.toList = (n : Int) := by rw [yv, ym]
 by_cases hs : (iB (n : Int)).size ≤ 17
 ·have hn : n < 100000000000000000 := (yn (n := 17) (by omega)).1 (by omega)
  have HA := hide (fun w => jo (iB (n : Int)) c1 (by omega) w)
  rw [v1] at HA
  have HR := hide (fun w => ycH n (by omega) w)
  have hr : rootN n < 1000000000 := by
   refine Nat.lt_of_not_le fun h => ?_
   have := Nat.mul_le_mul h h
   omega
  have HI : Hid (∀ w, B ≤ w.heap.size → P10 B w → Calls Tryz.prog 123 #[.int .i64 ((rootN n : Nat) : Int)] w (Ret w (.string (iB ((rootN n : Nat) : Int))))) := hide (fun w _ hT => yl ((rootN n : Nat) : Int) (by omega) (by omega) B w hT)
  have e : sqI n = (((rootN n : Nat) : Int) * ((rootN n : Nat) : Int) == (n : Int)) := by
   unfold sqI
   rw [Bool.eq_iff_iff]
   simp only [decide_eq_true_iff, beq_iff_eq]
   constructor
   ·intro h; exact_mod_cast h
   ·intro h; exact_mod_cast h
  rw [e]
  have hm : (rootN n) * (rootN n) < 1000000000000000000 := by omega
  have hmi : ((rootN n : Nat) : Int) * ((rootN n : Nat) : Int) < 1000000000000000000 := by
   have h : ((rootN n * rootN n : Nat) : Int) < 1000000000000000000 := by omega
   rw [Int.natCast_mul] at h
   exact h
  have hm0 : (0 : Int) ≤ ((rootN n : Nat) : Int) * ((rootN n : Nat) : Int) := Int.mul_nonneg (by omega) (by omega)
  have g17 : ((iB (n : Int)).size : Int) ≤ 17 := by omega
  generalize iB ((rootN n : Nat) : Int) = R at HI ⊢
  generalize ((rootN n : Nat) : Int) = r at HR HI hmi hm0 ⊢
  have vv : IntKind.i64.wrap (r * r) = r * r := IntWalk.i64_in _ (by omega)
  obtain ⟨b, hb⟩ := xe ((r * r == (n : Int)))
  rw [← hb]
  have HB := hide hb
  generalize iB (n : Int) = X at HA g17 ⊢
  clear hmi hm0 hr hn hs hsz e r1 r2 f hT hb c1 v1 hm
  go_enter Tryz.func107, Tryz.ntmps107
  go_wp2_with fail
  refine (HA.out _).mono ?_
  rintro e w1 ⟨rfl, hb1⟩
  have HB1 := hide hb1
  clear hb1
  go_wp2_with fail
  refine (HR.out _).mono ?_
  rintro e w2 ⟨rfl, rfl⟩
  go_wp2_with fail
  refine (HI.out _ (Nat.le_trans hB HB1.out.size) (HT.out.on HB1.out hB)).mono ?_
  rintro e w3 ⟨rfl, hb3⟩
  have HB3 := bt HB1 hb3
  clear hb3
  go_wp2_with fail
  refine bodyPost_ret (results_tmp2 rfl _ _ _) rfl ?_
  exact ⟨by rw [HB.out]; rfl, HB3.out⟩
 ·have h0 : 0 < n := Nat.pos_of_ne_zero fun e => hs (by rw [e] at hsz; rw [show (Lib.decDigits 0).length = 1 by rw [zP]; rfl] at hsz; rw [e]; omega)
  have fr : fits ((rootN n : Nat) : Int) := yb6 f
  have frr : fits (((rootN n : Nat) : Int) * ((rootN n : Nat) : Int)) := yi f (by rw [Int.natAbs_mul, Int.natAbs_natCast, Int.natAbs_natCast]; exact r1)
  have HR : Hid (∀ w, Calls Tryz.prog 160 #[.string (iB (n : Int))] w (Ret w (pairT (iB ((rootN n : Nat) : Int))))) := hide (fun w => ye2 (iB (n : Int)) n w c1 v1)
  have HM := hide (fun w hB hT => xi fr fr frr B w hB hT)
  have e : ((iB (((rootN n : Nat) : Int) * ((rootN n : Nat) : Int))).toList == (iB (n : Int)).toList) = sqI n := by
   rw [ByteArray.toList_eq, ByteArray.toList_eq, yv, yv]
   unfold sqI
   rw [Bool.eq_iff_iff]
   simp only [decide_eq_true_iff, beq_iff_eq]
   constructor
   ·intro h; have := vg h; exact_mod_cast this
   ·intro h; congr 1; exact_mod_cast h
  have g17 : (((iB (n : Int)).size : Int) ≤ 17) = False := eq_false (by omega)
  clear hs hsz h0 fr frr r1 r2 f hT c1 v1
  generalize iB (((rootN n : Nat) : Int) * ((rootN n : Nat) : Int)) = Q at HM e
  generalize iB ((rootN n : Nat) : Int) = R at HR HM ⊢
  generalize iB (n : Int) = X at HR e g17 ⊢
  generalize sqI n = b at e ⊢
  go_enter Tryz.func107, Tryz.ntmps107
  go_wp2_with fail
  refine (HR.out _).mono ?_
  rintro e w1 ⟨rfl, hb1⟩
  have HB1 := hide hb1
  clear hb1
  go_wp2_with fail
  refine (HM.out _ (Nat.le_trans hB HB1.out.size) (HT.out.on HB1.out hB)).mono ?_
  rintro e w2 ⟨rfl, hb2⟩
  have HB2 := bt HB1 hb2
  clear hb2
  go_wp2_with fail
  refine bodyPost_ret (results_tmp2 rfl _ _ _) rfl ?_
  exact ⟨rfl, HB2.out⟩
abbrev prRow : Obj := .cells #[.int .i64 2, .int .i64 3, .int .i64 5, .int .i64 7, .int .i64 11, .int .i64 13, .int .i64 17, .int .i64 19, .int .i64 23, .int .i64 29, .int .i64 31, .int .i64 37, .int .i64 41, .int .i64 43, .int .i64 47, .int .i64 53, .int .i64 59, .int .i64 61, .int .i64 67, .int .i64 71, .int .i64 73, .int .i64 79, .int .i64 83, .int .i64 89, .int .i64 97] 3
theorem yaX {w : World} {b k : Nat} (h : w.heap[b]? = some prRow) (hk : k < 25) : w.cell? ⟨b, k, none⟩ = some (.int .i64 (primes25.getD k 0)) := by
 rw [ya h k]
 have key : ∀ k : Fin 25, (#[.int .i64 2, .int .i64 3, .int .i64 5, .int .i64 7, .int .i64 11, .int .i64 13, .int .i64 17, .int .i64 19, .int .i64 23, .int .i64 29, .int .i64 31, .int .i64 37, .int .i64 41, .int .i64 43, .int .i64 47, .int .i64 53, .int .i64 59, .int .i64 61, .int .i64 67, .int .i64 71, .int .i64 73, .int .i64 79, .int .i64 83, .int .i64 89, .int .i64 97] : Array Value)[k.val]? = some (.int .i64 ((primes25.getD k.val 0 : Nat) : Int)) := by
  intro k
  have hk : k.val = 0 ∨ k.val = 1 ∨ k.val = 2 ∨ k.val = 3 ∨ k.val = 4 ∨ k.val = 5 ∨ k.val = 6 ∨ k.val = 7 ∨ k.val = 8 ∨ k.val = 9 ∨ k.val = 10 ∨ k.val = 11 ∨ k.val = 12 ∨ k.val = 13 ∨ k.val = 14 ∨ k.val = 15 ∨ k.val = 16 ∨ k.val = 17 ∨ k.val = 18 ∨ k.val = 19 ∨ k.val = 20 ∨ k.val = 21 ∨ k.val = 22 ∨ k.val = 23 ∨ k.val = 24 := by omega
  rcases hk with h | h | h | h | h | h | h | h | h | h | h | h | h | h | h | h | h | h | h | h | h | h | h | h | h
  all_goals (simp only [h]; rfl)
 exact key ⟨k, hk⟩
theorem yaq (w : World) : Calls Tryz.prog 156 #[] w (fun e w' => e = .returned (.slice (some ⟨w.heap.size, 0, none⟩) 25 25) ∧ w' = w.alloc prRow) := by
 go_enter Tryz.func156, Tryz.ntmps156
 go_wp2_with fail
 go_ret
 exact ⟨rfl, rfl⟩

def strOf : Value → ByteArray
 | .string s => s
 | _ => ⟨#[]⟩
theorem wc {m : Nat} (h0 : 0 < m) (f : fits (m : Int)) (hs : (iB (m : Int)).size ≤ 17) (B : Nat) (w : World) (hB : B ≤ w.heap.size) (hT : P10 B w) :
 Calls Tryz.prog 105 #[.string (iB (m : Int))] w (Ret w (.tuple #[.string (iB ((strips primes25 1 m).2 : Int)), .string (iB ((strips primes25 1 m).1 : Int))])) := by
 have HT := hide hT
 have hsz : (iB (m : Int)).size = (Lib.decDigits m).length := by rw [← yg, zx (by omega), Int.natAbs_natCast]
 have hm : m < 100000000000000000 := (yn (n := 17) (by omega)).1 (by omega)
 have HA := hide (fun w => jo (iB (m : Int)) (by rw [yv]; exact yM f) (by omega) w)
 rw [yv, ym] at HA
 have HI := hide (fun (z : Nat) (hz : z ≤ m) w (hT : P10 B w) => yl (z : Int) (by omega) (by omega) B w hT)
 have HP := hide (fun w => yaq w)
 have g17 : ((iB (m : Int)).size : Int) ≤ 17 := by omega
 have hm0 : 0 < m := h0
 obtain ⟨V2, hV2⟩ := xe (iB ((strips primes25 1 m).2 : Int))
 obtain ⟨V1, hV1⟩ := xe (iB ((strips primes25 1 m).1 : Int))
 rw [← hV1, ← hV2]
 have E1 := hide hV1
 have E2 := hide hV2
 generalize iB (m : Int) = X at *
 clear hs hsz f hT hV1 hV2 h0
 have XP := hide (heap1 w prRow)
 go_enter Tryz.func105, Tryz.ntmps105
 go_wp2_with fail
 refine (HP.out _).mono ?_
 rintro e wS ⟨rfl, rfl⟩
 obtain ⟨wS, hwS⟩ := xe (w.alloc prRow)
 rw [← hwS] at XP ⊢
 have GS := hide XP.out.1
 have HB0 := hide XP.out.2.2
 clear hwS XP
 go_wp2_with fail
 refine (HA.out _).mono ?_
 rintro e wA ⟨rfl, hbA⟩
 have GS := hide (yc hbA GS.out (yd GS.out))
 have HB1 := hide (HB0.out.trans (hbA.mono HB0.out.size))
 clear hbA HA
 go_wp2_with fail
 go_loopw [5, 7, 8] (fun ll cc i wr => ∃ c left k : Nat, k ≤ 25 ∧ cc = .int .i64 c ∧ ll = .int .i64 left ∧ i = .int .i64 k ∧ c ≤ m ∧ left ≤ m ∧ 0 < left ∧ 0 < c ∧ Hid (strips (primes25.drop k) c left = strips primes25 1 m ∧ c * c * left = m ∧ Below wA.heap.size wA wr)) (fun _ _ i _ => 25 - (intOf i).toNat)
 case atStart => exact ⟨1, m, 0, by omega, rfl, rfl, rfl, by omega, Nat.le_refl _, hm0, by omega, ⟨rfl, by omega, Below.refl _ _⟩⟩
 case round =>
  obtain ⟨c, left, k, hk, rfl, rfl, rfl, hc, hl, hl0, hc0, hin⟩ := hrel
  have IN := hide hin.out
  clear hin
  obtain ⟨wo, hwo⟩ := xe wr
  subst hwo
  by_cases hlt : k < 25
  ·have hki : (k : Int) < 25 := by omega
   have hk0 : (0 : Int) ≤ (k : Int) := by omega
   have hcellA : Hid (∀ W, Below wA.heap.size wA W → W.cell? ⟨w.heap.size, k, none⟩ = some (.int .i64 (primes25.getD k 0))) := hide (fun W hb => yaX (yc hb GS.out (yd GS.out)) hlt)
   obtain ⟨b1, b2⟩ := qi hlt
   have HD := hide (xf hlt)
   obtain ⟨q, hq⟩ := xe (primes25.getD k 0)
   rw [← hq] at b1 b2 HD hcellA
   clear hq hlt
   go_wp2_with fail
   go_loopw [5, 7] (fun ll cc wr2 => ∃ c2 l2 : Nat, cc = .int .i64 c2 ∧ ll = .int .i64 l2 ∧ c2 ≤ m ∧ l2 ≤ m ∧ 0 < l2 ∧ 0 < c2 ∧ Hid (stripD q c2 l2 = stripD q c left ∧ c2 * c2 * l2 = m ∧ Below wA.heap.size wA wr2)) (fun ll _ _ => (intOf ll).toNat)
   case atStart => exact ⟨c, left, rfl, rfl, hc, hl, hl0, hc0, ⟨rfl, IN.out.2.1, IN.out.2.2⟩⟩
   clear hc hl hl0 hc0
   case round =>
    obtain ⟨c2, l2, rfl, rfl, hc2, hl2, hl20, hc20, hin2⟩ := hrel
    have I2 := hide hin2.out
    clear hin2
    have hcell := hcellA.out _ I2.out.2.2
    have hcell2 : ∀ n, (wr.drewN n).cell? ⟨w.heap.size, k, none⟩ = some (.int .i64 (q : Int)) := fun n => hcellA.out _ (below_drewN I2.out.2.2 n)
    obtain ⟨Q, hQ⟩ := xe (q * q)
    have hQi : (q : Int) * (q : Int) = (Q : Int) := by rw [hQ, Int.natCast_mul]
    have hQ1 : 4 ≤ Q ∧ Q ≤ 9409 := by rw [hQ]; exact ⟨Nat.mul_le_mul b1 b1, Nat.mul_le_mul b2 b2⟩
    have hQ0 : ((Q : Int) == 0) = false := by simp only [beq_eq_false_iff_ne, ne_eq]; omega
    obtain ⟨r, hr⟩ := xe (l2 % Q)
    have hri : (l2 : Int) % (Q : Int) = (r : Int) := by rw [hr, Int.natCast_emod]
    by_cases h0 : r = 0
    ·have hr0 : ((r : Int) == 0) = true := by simp [h0]
     obtain ⟨l3, hl3⟩ := xe (l2 / Q)
     have hdi : (l2 : Int) / (Q : Int) = (l3 : Int) := by rw [hl3, Int.natCast_ediv]
     have hst := jz (c := c2) b1 hl20 (by rw [← hQ, ← hr]; exact h0)
     obtain ⟨q1, q2⟩ := zh b1 hl20 (by rw [← hQ, ← hr]; exact h0)
     rw [← hQ, ← hl3] at hst q1 q2
     obtain ⟨c3, hc3⟩ := xe (c2 * q)
     have hci : (c2 : Int) * (q : Int) = (c3 : Int) := by rw [hc3, Int.natCast_mul]
     rw [← hc3] at hst
     have hm3 : c3 * c3 * l3 = m := by
      have hdm := Nat.div_add_mod l2 Q
      rw [← hr, h0, ← hl3, Nat.add_zero] at hdm
      rw [← I2.out.2.1, ← hdm, hc3, hQ]
      grind
     have hc30 : 0 < c3 := by rw [hc3]; exact Nat.mul_pos hc20 (by omega)
     have hc3m : c3 ≤ m := by
      have h1 : c3 * 1 ≤ c3 * (c3 * l3) := Nat.mul_le_mul (Nat.le_refl _) (Nat.mul_pos hc30 q1)
      rw [← Nat.mul_assoc, hm3] at h1
      omega
     have H3 := hide (⟨hst.symm.trans I2.out.1, hm3⟩ : stripD q c3 l3 = stripD q c left ∧ c3 * c3 * l3 = m)
     have hq2 : l3 < l2 := q2
     clear hst hm3 hc3 hl3 hr hQ h0 q2
     go_wp2_with fail
     go_quiet (fail)
     go_wp2_with fail
     go_quiet (fail)
     go_wp2_with fail
     go_roundw
     case rel => exact ⟨c3, l3, rfl, rfl, hc3m, by omega, q1, hc30, ⟨H3.out.1, H3.out.2, below_drewN (below_drewN I2.out.2.2 _) _⟩⟩
     case measure => simp [intOf]; omega
    ·have hr0 : ((r : Int) == 0) = false := by simp only [beq_eq_false_iff_ne, ne_eq]; omega
     have hst := qA (q := q) (c := c2) hl20 (by rw [← hQ, ← hr]; exact h0)
     have hst2 := HD.out c left
     rw [← I2.out.1, hst] at hst2
     have H3 := hide (hst2.symm.trans IN.out.1)
     clear hst hst2 hr hQ h0
     go_wp2_with fail
     go_quiet (fail)
     go_wp2_with fail
     go_roundw
     case rel => exact ⟨c2, l2, k + 1, by omega, rfl, rfl, by simp, hc2, hl2, hl20, hc20, ⟨H3.out, I2.out.2.1, below_drewN I2.out.2.2 _⟩⟩
     case measure => simp [intOf]; omega
  ·obtain rfl : k = 25 := by omega
   have hki : (((25 : Nat) : Int) < 25) = False := eq_false (by omega)
   have HE : Hid ((c, left) = strips primes25 1 m) := hide IN.out.1
   have HI1 := hide (HI.out left hl)
   have HI2 := hide (HI.out c hc)
   rw [show strB (Lib.itoa (left : Int)) = V2 by rw [E2.out, ← HE.out]; rfl] at HI1
   rw [show strB (Lib.itoa (c : Int)) = V1 by rw [E1.out, ← HE.out]; rfl] at HI2
   have HB2 := hide (HB1.out.trans (IN.out.2.2.mono HB1.out.size))
   clear hlt HI HE IN
   go_wp2_with fail
   refine (HI1.out _ (HT.out.on HB2.out hB)).mono ?_
   rintro e w3 ⟨rfl, hb3⟩
   have HB3 := bt HB2 hb3
   clear hb3
   go_wp2_with fail
   refine (HI2.out _ (HT.out.on HB3.out hB)).mono ?_
   rintro e w4 ⟨rfl, hb4⟩
   have HB4 := bt HB3 hb4
   clear hb4
   go_wp2_with fail
   refine bodyPost_ret (results_tmp2 rfl _ _ _) rfl ?_
   exact ⟨rfl, HB4.out⟩
theorem yat {m : Nat} (hm0 : 0 < m) (f : fits (m : Int)) (hs : 17 < (iB (m : Int)).size) (B : Nat) (w : World) (hB : B ≤ w.heap.size) (hT : P10 B w) :
 Calls Tryz.prog 105 #[.string (iB (m : Int))] w (Ret w (.tuple #[.string (iB ((strips primes25 1 m).2 : Int)), .string (iB ((strips primes25 1 m).1 : Int))])) := by
 have HT := hide hT
 have FM : Hid (∀ z : Nat, z ≤ m → fits (z : Int)) := hide (fun z hz => yi f (by rw [Int.natAbs_natCast, Int.natAbs_natCast]; exact hz))
 have HP := hide (fun w => yaq w)
 have g17 : ((((iB (m : Int)).size : Nat) : Int) ≤ 17) = False := eq_false (by omega)
 obtain ⟨V2, hV2⟩ := xe (iB ((strips primes25 1 m).2 : Int))
 obtain ⟨V1, hV1⟩ := xe (iB ((strips primes25 1 m).1 : Int))
 rw [← hV1, ← hV2]
 have E1 := hide hV1
 have E2 := hide hV2
 have HX := hide (show iB (m : Int) = iB (m : Int) from rfl)
 obtain ⟨X, hX⟩ := xe (iB (m : Int))
 have HXX := hide hX
 rw [← hX] at g17 ⊢
 have L1 := hide lit1
 clear hs f hT hV1 hV2 hX HX
 have XP := hide (heap1 w prRow)
 go_enter Tryz.func105, Tryz.ntmps105
 go_wp2_with fail
 refine (HP.out _).mono ?_
 rintro e wS ⟨rfl, rfl⟩
 obtain ⟨wS, hwS⟩ := xe (w.alloc prRow)
 rw [← hwS] at XP ⊢
 have GS := hide XP.out.1
 have HB0 := hide XP.out.2.2
 clear hwS XP
 go_wp2_with fail
 go_loopw [0, 9, 10] (fun ll cc i wr => ∃ c left k : Nat, k ≤ 25 ∧ ll = .string (iB (left : Int)) ∧ cc = .string (iB (c : Int)) ∧ i = .int .i64 k ∧ c ≤ m ∧ left ≤ m ∧ 0 < left ∧ 0 < c ∧ Hid (strips (primes25.drop k) c left = strips primes25 1 m ∧ c * c * left = m ∧ Below wS.heap.size wS wr)) (fun _ _ i _ => 25 - (intOf i).toNat)
 case atStart => exact ⟨1, m, 0, by omega, by rw [HXX.out], by rw [L1.out], rfl, by omega, Nat.le_refl _, hm0, by omega, ⟨rfl, by omega, Below.refl _ _⟩⟩
 case round =>
  obtain ⟨c, left, k, hk, rfl, rfl, rfl, hc, hl, hl0, hc0, hin⟩ := hrel
  have IN := hide hin.out
  clear hin
  obtain ⟨wo, hwo⟩ := xe wr
  subst hwo
  by_cases hlt : k < 25
  ·have hki : (k : Int) < 25 := by omega
   have hk0 : (0 : Int) ≤ (k : Int) := by omega
   have hcellA : Hid (∀ W, Below wS.heap.size wS W → W.cell? ⟨w.heap.size, k, none⟩ = some (.int .i64 (primes25.getD k 0))) := hide (fun W hb => yaX (yc hb GS.out (yd GS.out)) hlt)
   obtain ⟨b1, b2⟩ := qi hlt
   have HD := hide (xf hlt)
   obtain ⟨q, hq⟩ := xe (primes25.getD k 0)
   rw [← hq] at b1 b2 HD hcellA
   clear hq hlt
   obtain ⟨Q, hQ⟩ := xe (q * q)
   have hQi : (q : Int) * (q : Int) = (Q : Int) := by rw [hQ, Int.natCast_mul]
   have hQ1 : 4 ≤ Q ∧ Q ≤ 9409 := by rw [hQ]; exact ⟨Nat.mul_le_mul b1 b1, Nat.mul_le_mul b2 b2⟩
   have HBW := hide (HB0.out.trans (IN.out.2.2.mono HB0.out.size))
   have HQ := hide hQ
   have fQ : Hid (fits (Q : Int)) := hide (yq (n := 4) (by rw [yC]; omega) (kd (by omega)))
   have fq : Hid (fits (q : Int)) := hide (yq (n := 4) (by rw [yC]; omega) (kd (by omega)))
   have HIQ : Hid (∀ w, B ≤ w.heap.size → P10 B w → Calls Tryz.prog 123 #[.int .i64 (Q : Int)] w (Ret w (.string (iB (Q : Int))))) := hide (fun w _ hT => yl (Q : Int) (by omega) (by omega) B w hT)
   have HIq : Hid (∀ w, B ≤ w.heap.size → P10 B w → Calls Tryz.prog 123 #[.int .i64 (q : Int)] w (Ret w (.string (iB (q : Int))))) := hide (fun w _ hT => yl (q : Int) (by omega) (by omega) B w hT)
   have N1 := hide (fun (o : Of (Below wo.heap.size wo)) => yg1 (HT.out.on HBW.out hB) (Nat.le_trans hB HBW.out.size) HIQ.out o o.h.size)
   have hx1 : ∀ x : Of (Below wo.heap.size wo), x.w.cell? ⟨w.heap.size, k, none⟩ = some (.int .i64 (q : Int)) := fun x => hcellA.out _ (IN.out.2.2.trans (x.h.mono IN.out.2.2.size))
   have kn : Nonempty (Of (Below wo.heap.size wo)) := ⟨⟨_, Below.refl _ _⟩⟩
   clear hQ
   obtain ⟨TL, hTL⟩ := xe (iB (left : Int))
   obtain ⟨TC, hTC⟩ := xe (iB (c : Int))
   obtain ⟨TQ, hTQ⟩ := xe (iB (Q : Int))
   rw [← hTL, ← hTC]
   rw [← hTQ] at N1
   have HTL := hide hTL
   have HTC := hide hTC
   have HTQ := hide hTQ
   clear hTL hTC hTQ
   go_wp2_with fail
   refine zL (C := Cls (Below wo.heap.size wo)) (by kernel_rfl) (by kernel_rfl) (by kernel_rfl) (Cls.mk (Below.refl _ _).drew) ?_
   repeat (go_big_quiet_step (first | rfl | with_reducible exact N1.out _))
   refine wpQuiet_nil ?_
   intro w5 hcl
   have HBS := hide (IN.out.2.2.trans (hcl.out.mono IN.out.2.2.size))
   clear hcl N1 hx1 kn HBW hQi
   go_wp2_with fail
   go_loopw [0, 9] (fun ll cc wr2 => ∃ c2 l2 : Nat, ll = .string (iB (l2 : Int)) ∧ cc = .string (iB (c2 : Int)) ∧ c2 ≤ m ∧ l2 ≤ m ∧ 0 < l2 ∧ 0 < c2 ∧ Hid (stripD q c2 l2 = stripD q c left ∧ c2 * c2 * l2 = m ∧ Below wS.heap.size wS wr2)) (fun ll _ _ => (valI (strOf ll).data.toList).toNat)
   case atStart => exact ⟨c, left, by rw [HTL.out], by rw [HTC.out], hc, hl, hl0, hc0, ⟨rfl, IN.out.2.1, HBS.out⟩⟩
   clear hc hl hl0 hc0
   case round =>
    obtain ⟨c2, l2, rfl, rfl, hc2, hl2, hl20, hc20, hin2⟩ := hrel
    have I2 := hide hin2.out
    clear hin2
    obtain ⟨wi, hwi⟩ := xe wr
    subst hwi
    have HB2 := hide (HB0.out.trans (I2.out.2.2.mono HB0.out.size))
    have HDV := hide (fun w hB hT => wP (FM.out l2 hl2) fQ.out (by omega) B w hB hT)
    have HZ := qe ((l2 : Int) % (Q : Int))
    rw [← Int.natCast_emod, ← Int.natCast_ediv] at HDV
    rw [← Int.natCast_emod] at HZ
    obtain ⟨r, hr⟩ := xe (l2 % Q)
    obtain ⟨l3, hl3⟩ := xe (l2 / Q)
    rw [← hr, ← hl3] at HDV
    rw [← hr] at HZ
    obtain ⟨TM, hTM⟩ := xe (iB (l2 : Int))
    obtain ⟨TD, hTD⟩ := xe (iB (c2 : Int))
    obtain ⟨TN, hTN⟩ := xe (iB (l3 : Int))
    rw [← hTM, ← HTQ.out, ← hTN] at HDV
    have HTM := hide hTM
    have HTD := hide hTD
    have HTN := hide hTN
    rw [← hTM, ← hTD]
    by_cases h0 : r = 0
    ·rw [decide_eq_true (show ((r : Nat) : Int) = 0 by omega)] at HZ
     have hst := jz (c := c2) b1 hl20 (by rw [← HQ.out, ← hr]; exact h0)
     obtain ⟨q1, q2⟩ := zh b1 hl20 (by rw [← HQ.out, ← hr]; exact h0)
     rw [← HQ.out, ← hl3] at hst q1 q2
     obtain ⟨c3, hc3⟩ := xe (c2 * q)
     have hci : (c2 : Int) * (q : Int) = (c3 : Int) := by rw [hc3, Int.natCast_mul]
     rw [← hc3] at hst
     have hm3 : c3 * c3 * l3 = m := by
      have hdm := Nat.div_add_mod l2 Q
      rw [← hr, h0, ← hl3, Nat.add_zero] at hdm
      rw [← I2.out.2.1, ← hdm, hc3, HQ.out]
      grind
     have hc30 : 0 < c3 := by rw [hc3]; exact Nat.mul_pos hc20 (by omega)
     have hc3m : c3 ≤ m := by
      have h1 : c3 * 1 ≤ c3 * (c3 * l3) := Nat.mul_le_mul (Nat.le_refl _) (Nat.mul_pos hc30 q1)
      rw [← Nat.mul_assoc, hm3] at h1
      omega
     have H3 := hide (⟨hst.symm.trans I2.out.1, hm3⟩ : stripD q c3 l3 = stripD q c left ∧ c3 * c3 * l3 = m)
     have HMU := hide (fun w hB hT => xi (FM.out c2 hc2) fq.out (by rw [hci]; exact FM.out c3 hc3m) B w hB hT)
     rw [hci, ← hTD] at HMU
     obtain ⟨TE, hTE⟩ := xe (iB (c3 : Int))
     rw [← hTE] at HMU
     have HTE := hide hTE
     have hlast : Hid ((valI (iB (l3 : Int)).data.toList).toNat < (valI (iB (l2 : Int)).data.toList).toNat) := hide (by rw [yv, yv, ym, ym]; omega)
     generalize iB ((r : Nat) : Int) = TR at HDV HZ
     clear hst hm3 hc3 hl3 hr h0 hTM hTD hTN hTE hci
     go_wp2_with fail
     refine (HDV.out _ (Nat.le_trans hB HB2.out.size) (HT.out.on HB2.out hB)).mono ?_
     rintro e w6 ⟨rfl, hb6⟩
     have HI6 := hide (I2.out.2.2.trans (hb6.mono I2.out.2.2.size))
     have HB6 := bt HB2 hb6
     have hcell := hcellA.out _ HI6.out
     clear hb6
     go_wp2_with fail
     refine (HIq.out _ (Nat.le_trans hB HB6.out.size) (HT.out.on HB6.out hB)).mono ?_
     rintro e w7 ⟨rfl, hb7⟩
     have HI7 := hide (HI6.out.trans (hb7.mono HI6.out.size))
     have HB7 := bt HB6 hb7
     clear hb7 hcell
     go_wp2_with fail
     refine (HMU.out _ (Nat.le_trans hB HB7.out.size) (HT.out.on HB7.out hB)).mono ?_
     rintro e w8 ⟨rfl, hb8⟩
     have HI8 := hide (HI7.out.trans (hb8.mono HI7.out.size))
     clear hb8
     go_wp2_with fail
     go_roundw
     case rel => exact ⟨c3, l3, by rw [HTN.out], by rw [HTE.out], hc3m, by omega, q1, hc30, ⟨H3.out.1, H3.out.2, HI8.out⟩⟩
     case measure =>
      show (valI TN.data.toList).toNat < (valI TM.data.toList).toNat
      rw [HTN.out, HTM.out]
      exact hlast.out
    ·rw [decide_eq_false (show ¬ ((r : Nat) : Int) = 0 by omega)] at HZ
     have hst := qA (q := q) (c := c2) hl20 (by rw [← HQ.out, ← hr]; exact h0)
     have hst2 := HD.out c left
     rw [← I2.out.1, hst] at hst2
     have H3 := hide (hst2.symm.trans IN.out.1)
     generalize iB ((r : Nat) : Int) = TR at HDV HZ
     have hZne : (TR.toList != [48]) = true := by simp only [bne, HZ]; rfl
     clear hst hst2 hr h0 hTM hTD hTN hl3
     go_wp2_with fail
     refine (HDV.out _ (Nat.le_trans hB HB2.out.size) (HT.out.on HB2.out hB)).mono ?_
     rintro e w6 ⟨rfl, hb6⟩
     have HI6 := hide (I2.out.2.2.trans (hb6.mono I2.out.2.2.size))
     clear hb6
     go_wp2_with fail
     go_roundw
     case rel => exact ⟨c2, l2, k + 1, by omega, by rw [HTM.out], by rw [HTD.out], by simp, hc2, hl2, hl20, hc20, ⟨H3.out, I2.out.2.1, HI6.out⟩⟩
     case measure => simp [intOf]; omega
  ·obtain rfl : k = 25 := by omega
   have hki : (((25 : Nat) : Int) < 25) = False := eq_false (by omega)
   have HE : Hid ((c, left) = strips primes25 1 m) := hide IN.out.1
   have HB2 := hide (HB0.out.trans (IN.out.2.2.mono HB0.out.size))
   have e2 : iB (left : Int) = V2 := by rw [E2.out, ← HE.out]
   have e1 : iB (c : Int) = V1 := by rw [E1.out, ← HE.out]
   rw [e1, e2]
   clear hlt HE IN e1 e2
   go_wp2_with fail
   refine bodyPost_ret (results_tmp2 rfl _ _ _) rfl ?_
   exact ⟨rfl, HB2.out⟩
theorem ydt {m : Nat} (h0 : 0 < m) (f : fits (m : Int)) (B : Nat) (w : World) (hB : B ≤ w.heap.size) (hT : P10 B w) :
 Calls Tryz.prog 105 #[.string (iB (m : Int))] w (Ret w (.tuple #[.string (iB ((strips primes25 1 m).2 : Int)), .string (iB ((strips primes25 1 m).1 : Int))])) := by
 by_cases hs : (iB (m : Int)).size ≤ 17
 ·exact wc h0 f hs B w hB hT
 ·exact yat h0 f (by omega) B w hB hT

abbrev e12 : Rat := ⟨1, 2, by decide, by decide⟩

theorem ycM (q : ByteArray) : (firstE [q] ≠ 0 ∧ checkE [q] [q] = firstE [q]) ∨ (∃ x, roomy x ∧ q = T x ∧ x.num < 0 ∧ firstE [q] = 0 ∧ checkE [q] [q] = 2) ∨ (∃ x, roomy x ∧ q = T x ∧ 0 ≤ x.num ∧ firstE [q] = 0) := by
 by_cases h : firstE [q] = 0
 ·have h9 : chk90 q.data.toList = 0 := by
   by_cases h2 : chk90 q.data.toList = 0
   ·exact h2
   ·have h3 : firstE [q] = chk90 q.data.toList := if_pos h2
    rw [h3] at h
    exact absurd h h2
  obtain ⟨x, rx, rfl⟩ := yc0 h9
  by_cases hx : x.num < 0
  ·exact .inr (.inl ⟨x, rx, rfl, hx, h, ye8 rx hx⟩)
  ·exact .inr (.inr ⟨x, rx, rfl, by omega, h⟩)
 ·exact .inl ⟨h, if_pos h⟩
theorem ydI {q : ByteArray} (hs : q.size ≤ 1000000) (h : checkE [q] [q] ≠ 0) (B : Nat) (w : World) (hB : B ≤ w.heap.size) (hT : PQ B w) :
 Calls Tryz.prog 55 #[.string q] w (Ret w (.tuple #[.string ⟨#[]⟩, .string ⟨#[]⟩, .int .i64 (checkE [q] [q])])) := by
 have X0 := hide (heap2 w (.cells #[.string q] 26) (.cells #[.string q] 26))
 have HC := hide (yeq w.heap.size (w.heap.size + 1) [q] [q] (by simp) (by simp) (fun x hx => by simp at hx; subst hx; exact hs) B _ (strs1 X0.out.1) (strs1 X0.out.2.1) (Nat.le_trans hB X0.out.2.2.2.size) (hT.on X0.out.2.2.2 hB))
 have hE : (checkE [q] [q] == 0) = false := by simpa using h
 generalize checkE [q] [q] = E at *
 clear h hs hT
 go_enter Tryz.func55, Tryz.ntmps55
 go_wp2_with fail
 refine HC.out.mono ?_
 rintro e w1 ⟨rfl, hb1⟩
 have HB1 := hide (X0.out.2.2.2.trans (hb1.mono X0.out.2.2.2.size))
 clear hb1
 go_wp2_with fail
 refine bodyPost_ret (results_tmp3 rfl _ _ _) rfl ?_
 exact ⟨rfl, HB1.out⟩
theorem yaw {q : ByteArray} (hs : q.size ≤ 1000000) (h : firstE [q] ≠ 0) (B : Nat) (w : World) (hB : B ≤ w.heap.size) (hT : PQ B w) :
 Calls Tryz.prog 57 #[.string q] w (Ret w (.tuple #[.string ⟨#[]⟩, .string ⟨#[]⟩, .int .i64 (firstE [q])])) := by
 have X0 := hide (heap1 w (.cells #[.string q] 26))
 have HC := hide (vN w.heap.size [q] (by simp) (fun x hx => by simp at hx; subst hx; omega) B _ (strs1 X0.out.1) (Nat.le_trans hB X0.out.2.2.size) (hT.on X0.out.2.2 hB))
 have hE : (firstE [q] == 0) = false := by simpa using h
 generalize firstE [q] = E at *
 clear h hs hT
 go_enter Tryz.func57, Tryz.ntmps57
 go_wp2_with fail
 refine HC.out.mono ?_
 rintro e w1 ⟨rfl, hb1⟩
 have HB1 := hide (X0.out.2.2.trans (hb1.mono X0.out.2.2.size))
 clear hb1
 go_wp2_with fail
 refine bodyPost_ret (results_tmp3 rfl _ _ _) rfl ?_
 exact ⟨rfl, HB1.out⟩
theorem yhG {x : Rat} (rx : roomy x) : (T x).size ≤ 9223372036854775807 := by have := (yW rx.1).1; omega
theorem ybr (B : Nat) (w : World) (hB : B ≤ w.heap.size) (hT : PQ B w) :
 Calls Tryz.prog 57 #[.string (T 0)] w (Ret w (.tuple #[.string ⟨#[48]⟩, .string ⟨#[49]⟩, .int .i64 0])) := by
 have X0 := hide (heap1 w (.cells #[.string (T 0)] 26))
 have HC := hide (vN w.heap.size [T 0] (by simp) (fun y hy => by simp at hy; subst hy; exact yhG vp) B _ (strs1 X0.out.1) (Nat.le_trans hB X0.out.2.2.size) (hT.on X0.out.2.2 hB))
 rw [qD (fun y hy => by simp at hy; subst hy; exact xa vp)] at HC
 have HS := hide (fun w => ydT 0 w)
 rw [show sgnR 0 = 0 from rfl] at HS
 generalize T 0 = X at *
 clear hT
 go_enter Tryz.func57, Tryz.ntmps57
 go_wp2_with fail
 refine HC.out.mono ?_
 rintro e w1 ⟨rfl, hb1⟩
 have HB1 := hide (X0.out.2.2.trans (hb1.mono X0.out.2.2.size))
 clear hb1
 go_wp2_with fail
 refine (HS.out _).mono ?_
 rintro e w2 ⟨rfl, rfl⟩
 go_wp2_with fail
 refine (HS.out _).mono ?_
 rintro e w2 ⟨rfl, rfl⟩
 go_wp2_with fail
 refine bodyPost_ret (results_tmp3 rfl _ _ _) rfl ?_
 exact ⟨rfl, HB1.out⟩
theorem yhe (k : Nat) (x : Rat) : ((((k : Nat) : Int) : Rat) / (((x.den : Nat) : Int) : Rat)) = Rat.divInt (k : Int) (x.den : Int) := by rw [Rat.divInt_eq_div]
theorem yco {x : Rat} (rx : roomy x) (hx : 0 < x.num) (B : Nat) (w : World) (hB : B ≤ w.heap.size) (hT : PQ B w) :
 Calls Tryz.prog 57 #[.string (T x)] w (Ret w (.tuple #[.string (T (normC x)), .string (iB ((normL x : Nat) : Int)), .int .i64 0])) := by
 have HT := hide hT
 have X0 := hide (heap1 w (.cells #[.string (T x)] 26))
 have HC := hide (vN w.heap.size [T x] (by simp) (fun y hy => by simp at hy; subst hy; exact yhG rx) B _ (strs1 X0.out.1) (Nat.le_trans hB X0.out.2.2.size) (hT.on X0.out.2.2 hB))
 rw [qD (fun y hy => by simp at hy; subst hy; exact xa rx)] at HC
 have HS := hide (fun w => ydT x w)
 rw [yht hx] at HS
 have sx := ygK rx
 have HPA := hide (fun w hB hT => xC rx.1 B w hB hT)
 have b1 := yg4 sx.1 (kd sx.2) (by omega)
 have HTI := hide (fun w hB hT => xi rx.1.1 rx.1.2 b1.1 B w hB hT)
 have em : x.num * (x.den : Int) = ((x.num.toNat * x.den : Nat) : Int) := by rw [Int.natCast_mul, Int.toNat_of_nonneg (Int.le_of_lt hx)]
 obtain ⟨m, hm⟩ := xe (x.num.toNat * x.den)
 rw [← hm] at em
 have fm : fits (m : Int) := by rw [← em]; exact b1.1
 have hm0 : 0 < m := by rw [hm]; exact Nat.mul_pos (by omega) x.den_pos
 rw [em] at HTI
 have HRE := hide (fun w hB hT => ydt hm0 fm B w hB hT)
 obtain ⟨i1, i2, _, _, i5⟩ := wq primes25 1 m (by decide) hm0 (by omega)
 have eC : normC x = Rat.divInt ((normN m).1 : Int) (x.den : Int) := by unfold normC; rw [← hm]
 have eL : normL x = (normN m).2 := by unfold normL; rw [← hm]
 rw [eC, eL]
 have hn : normN m = if sqI (strips primes25 1 m).2 = true then ((strips primes25 1 m).1 * rootN (strips primes25 1 m).2, 1) else strips primes25 1 m := by
  unfold normN closeN sqI
  simp only [decide_eq_true_eq]
 have n1 := (jd hm0).1
 have n2 := (jd hm0).2.1
 generalize strips primes25 1 m = s at *
 have l2 : s.2 ≤ m := by
  have h1 := Nat.le_mul_of_pos_left s.2 (Nat.mul_pos i5 i5)
  omega
 have l1 : s.1 ≤ m := by
  have h1 : s.1 * 1 ≤ s.1 * (s.1 * s.2) := Nat.mul_le_mul (Nat.le_refl _) (Nat.mul_pos i5 i2)
  rw [← Nat.mul_assoc, i1] at h1
  omega
 have ln : (normN m).1 ≤ m := by
  rcases Nat.eq_zero_or_pos (normN m).1 with h | h
  ·omega
  ·have h1 : (normN m).1 * 1 ≤ (normN m).1 * ((normN m).1 * (normN m).2) := Nat.mul_le_mul (Nat.le_refl _) (Nat.mul_pos h n2)
   rw [← Nat.mul_assoc, n1] at h1
   omega
 have FM : ∀ z : Nat, z ≤ m → fits (z : Int) := fun z hz => yi fm (by rw [Int.natAbs_natCast, Int.natAbs_natCast]; exact hz)
 have HSQ := hide (fun w hB hT => yeH (FM _ l2) B w hB hT)
 have HQU := hide (fun (k : Nat) (hk : k ≤ m) w hB hT => ybK (x := (((k : Nat) : Int) : Rat)) (y := (((x.den : Nat) : Int) : Rat)) (xt (FM k hk)) (xt rx.1.2) (show 0 < (x.den : Int) by have := x.den_pos; omega) ⟨by show fits ((k : Int) * 1); rw [Int.mul_one]; exact FM k hk, by show fits ((x.den : Int) * 1); rw [Int.mul_one]; exact rx.1.2⟩ B w hB hT)
 simp only [← iB_T, yhe] at HQU
 by_cases hq : sqI s.2 = true
 ·rw [if_pos hq] at hn
  rw [hq] at HSQ
  rw [hn] at ln ⊢
  dsimp only at ln ⊢
  have hmul : ((s.1 : Nat) : Int) * ((rootN s.2 : Nat) : Int) = ((s.1 * rootN s.2 : Nat) : Int) := by rw [Int.natCast_mul]
  have HT2 := hide (fun w hB hT => xi (FM _ l1) (yb6 (FM _ l2)) (by rw [hmul]; exact FM _ ln) B w hB hT)
  rw [hmul] at HT2
  have HQ := hide (HQU.out _ ln)
  rw [lit1]
  generalize T (Rat.divInt ((s.1 * rootN s.2 : Nat) : Int) (x.den : Int)) = R at *
  generalize iB ((s.1 * rootN s.2 : Nat) : Int) = K2 at *
  generalize iB ((rootN s.2 : Nat) : Int) = RT at *
  generalize iB ((s.1 : Nat) : Int) = S1 at *
  generalize iB ((s.2 : Nat) : Int) = S2 at *
  generalize iB (m : Int) = MM at *
  generalize iB (x.den : Int) = D at *
  generalize iB x.num = N at *
  generalize T x = X at *
  clear rx hx hT sx b1 em hm fm hm0 i1 i2 i5 eC eL hn n1 n2 l1 l2 ln FM HQU hq hmul
  go_enter Tryz.func57, Tryz.ntmps57
  go_wp2_with fail
  refine HC.out.mono ?_
  rintro e w1 ⟨rfl, hb1⟩
  have HB1 := hide (X0.out.2.2.trans (hb1.mono X0.out.2.2.size))
  clear hb1
  go_wp2_with fail
  refine (HS.out _).mono ?_
  rintro e w2 ⟨rfl, rfl⟩
  go_wp2_with fail
  refine (HS.out _).mono ?_
  rintro e w2 ⟨rfl, rfl⟩
  go_wp2_with fail
  refine (HPA.out _ (Nat.le_trans hB HB1.out.size) (HT.out.on HB1.out hB)).mono ?_
  rintro e w2 ⟨rfl, hb2⟩
  have HB2 := bt HB1 hb2
  clear hb2
  go_wp2_with fail
  refine (HTI.out _ (Nat.le_trans hB HB2.out.size) (HT.out.p10.on HB2.out hB)).mono ?_
  rintro e w3 ⟨rfl, hb3⟩
  have HB3 := bt HB2 hb3
  clear hb3
  go_wp2_with fail
  refine (HRE.out _ (Nat.le_trans hB HB3.out.size) (HT.out.p10.on HB3.out hB)).mono ?_
  rintro e w4 ⟨rfl, hb4⟩
  have HB4 := bt HB3 hb4
  clear hb4
  go_wp2_with fail
  refine (HSQ.out _ (Nat.le_trans hB HB4.out.size) (HT.out.p10.on HB4.out hB)).mono ?_
  rintro e w5 ⟨rfl, hb5⟩
  have HB5 := bt HB4 hb5
  clear hb5
  go_wp2_with fail
  refine (HT2.out _ (Nat.le_trans hB HB5.out.size) (HT.out.p10.on HB5.out hB)).mono ?_
  rintro e w6 ⟨rfl, hb6⟩
  have HB6 := bt HB5 hb6
  clear hb6
  go_wp2_with fail
  refine (HQ.out _ (Nat.le_trans hB HB6.out.size) (HT.out.on HB6.out hB)).mono ?_
  rintro e w7 ⟨rfl, hb7⟩
  have HB7 := bt HB6 hb7
  clear hb7
  go_wp2_with fail
  refine bodyPost_ret (results_tmp3 rfl _ _ _) rfl ?_
  exact ⟨rfl, HB7.out⟩
 ·rw [if_neg hq] at hn
  have hqf : sqI s.2 = false := by simpa using hq
  rw [hqf] at HSQ
  rw [hn] at ln ⊢
  have HQ := hide (HQU.out _ ln)
  generalize T (Rat.divInt ((s.1 : Nat) : Int) (x.den : Int)) = R at *
  generalize iB ((rootN s.2 : Nat) : Int) = RT at *
  generalize iB ((s.1 : Nat) : Int) = S1 at *
  generalize iB ((s.2 : Nat) : Int) = S2 at *
  generalize iB (m : Int) = MM at *
  generalize iB (x.den : Int) = D at *
  generalize iB x.num = N at *
  generalize T x = X at *
  clear rx hx hT sx b1 em hm fm hm0 i1 i2 i5 eC eL hn n1 n2 l1 l2 ln FM HQU hq hqf
  go_enter Tryz.func57, Tryz.ntmps57
  go_wp2_with fail
  refine HC.out.mono ?_
  rintro e w1 ⟨rfl, hb1⟩
  have HB1 := hide (X0.out.2.2.trans (hb1.mono X0.out.2.2.size))
  clear hb1
  go_wp2_with fail
  refine (HS.out _).mono ?_
  rintro e w2 ⟨rfl, rfl⟩
  go_wp2_with fail
  refine (HS.out _).mono ?_
  rintro e w2 ⟨rfl, rfl⟩
  go_wp2_with fail
  refine (HPA.out _ (Nat.le_trans hB HB1.out.size) (HT.out.on HB1.out hB)).mono ?_
  rintro e w2 ⟨rfl, hb2⟩
  have HB2 := bt HB1 hb2
  clear hb2
  go_wp2_with fail
  refine (HTI.out _ (Nat.le_trans hB HB2.out.size) (HT.out.p10.on HB2.out hB)).mono ?_
  rintro e w3 ⟨rfl, hb3⟩
  have HB3 := bt HB2 hb3
  clear hb3
  go_wp2_with fail
  refine (HRE.out _ (Nat.le_trans hB HB3.out.size) (HT.out.p10.on HB3.out hB)).mono ?_
  rintro e w4 ⟨rfl, hb4⟩
  have HB4 := bt HB3 hb4
  clear hb4
  go_wp2_with fail
  refine (HSQ.out _ (Nat.le_trans hB HB4.out.size) (HT.out.p10.on HB4.out hB)).mono ?_
  rintro e w5 ⟨rfl, hb5⟩
  have HB5 := bt HB4 hb5
  clear hb5
  go_wp2_with fail
  refine (HQ.out _ (Nat.le_trans hB HB5.out.size) (HT.out.on HB5.out hB)).mono ?_
  rintro e w6 ⟨rfl, hb6⟩
  have HB6 := bt HB5 hb6
  clear hb6
  go_wp2_with fail
  refine bodyPost_ret (results_tmp3 rfl _ _ _) rfl ?_
  exact ⟨rfl, HB6.out⟩
theorem ya5 {q : Rat} (rq : roomy q) (hq : 0 ≤ q.num) (B : Nat) (w : World) (hB : B ≤ w.heap.size) (hT : PQ B w) :
 Calls Tryz.prog 57 #[.string (T q)] w (Ret w (.tuple #[.string (T (nC q)), .string (T ((nL q : Nat) : Rat)), .int .i64 0])) := by
 unfold nC nL
 by_cases h : q.num = 0
 ·rw [if_pos h, if_pos h, Rat.num_eq_zero.1 h]
  have := ybr B w hB hT
  rw [← T0, ← T1] at this
  exact this
 ·rw [if_neg h, if_neg h]
  have := yco rq (by omega) B w hB hT
  rw [iB_T] at this
  exact this

theorem yd2 {q : Rat} (fq : fitsQ q) (k : Nat) (b : Bool) (hb : b = decide (k < dlen q)) (B : Nat) (w : World) (hB : B ≤ w.heap.size) (hT : PQ B w) :
 Calls Tryz.prog 162 #[.string (T q), .int .i64 k] w (Ret w (.bool b)) := by
 have HP := hide (xC fq B w hB hT)
 obtain ⟨hh, h45⟩ := kb q.num
 have hs1 := js q.num
 have hs2 := js (q.den : Int)
 rw [if_neg (by omega), Int.natAbs_natCast] at hs2
 have hdl : dlen q = max (Lib.decDigits q.num.natAbs).length (Lib.decDigits q.den).length := rfl
 have hl1 := (zb (z := q.num)).1 fq.1
 obtain ⟨a, ha⟩ := xe ((Lib.decDigits q.num.natAbs).length)
 obtain ⟨d, hd⟩ := xe ((Lib.decDigits q.den).length)
 rw [← ha] at hs1 hdl hl1
 rw [← hd] at hs2 hdl
 rw [hdl] at hb
 have hway : (((k : Int) < (a : Int)) ∧ b = true) ∨ (((k : Int) < (a : Int)) = False ∧ ((k : Int) < (d : Int)) ∧ b = true) ∨ (((k : Int) < (a : Int)) = False ∧ ((k : Int) < (d : Int)) = False ∧ b = false) := by
  by_cases h1 : k < a
  ·exact .inl ⟨by omega, by rw [hb]; exact decide_eq_true (by omega)⟩
  ·by_cases h2 : k < d
   ·exact .inr (.inl ⟨eq_false (by omega), by omega, by rw [hb]; exact decide_eq_true (by omega)⟩)
   ·exact .inr (.inr ⟨eq_false (by omega), eq_false (by omega), by rw [hb]; exact decide_eq_false (by omega)⟩)
 have hneg : q.num < 0 ∧ (iB q.num).size = a + 1 ∧ (iB q.num).extract 1 (iB q.num).size = iB (-q.num) ∧ (iB (-q.num)).size = a ∨ ¬ q.num < 0 ∧ (iB q.num).size = a := by
  by_cases h : q.num < 0
  ·rw [if_pos h] at hs1
   refine .inl ⟨h, hs1, zS h, ?_⟩
   have := js (-q.num)
   rw [if_neg (by omega), Int.natAbs_neg] at this
   rw [this, ha]
  ·rw [if_neg h] at hs1
   exact .inr ⟨h, hs1⟩
 clear ha hd hb hdl hs1 fq
 rcases hneg with ⟨hn, hs1, hx, hs3⟩ | ⟨hn, hs1⟩
 ·rw [decide_eq_true hn] at h45
  generalize iB (-q.num) = N2 at *
  generalize iB q.num = N at *
  generalize iB (q.den : Int) = D at *
  generalize T q = X at *
  have p0 : (0 : Int) < (N.size : Int) := by omega
  have p1 : (1 : Int) ≤ (N.size : Int) := by omega
  have p2 : 1 ≤ N.size := by omega
  subst hs3
  subst hs2
  clear hn hs1 hl1 hT
  rcases hway with ⟨g1, rfl⟩ | ⟨g1, g2, rfl⟩ | ⟨g1, g2, rfl⟩
  all_goals
   go_enter Tryz.func162, Tryz.ntmps162
   go_wp2_with fail
   refine HP.out.mono ?_
   rintro e w1 ⟨rfl, hb1⟩
   have HB1 := hide hb1
   clear hb1
   go_wp2_with fail
   refine bodyPost_ret (results_tmp rfl _ _ _) rfl ?_
   exact ⟨rfl, HB1.out⟩
 ·rw [decide_eq_false hn] at h45
  generalize iB q.num = N at *
  generalize iB (q.den : Int) = D at *
  generalize T q = X at *
  have p0 : (0 : Int) < (N.size : Int) := by omega
  subst hs1
  subst hs2
  clear hn hl1 hT
  rcases hway with ⟨g1, rfl⟩ | ⟨g1, g2, rfl⟩ | ⟨g1, g2, rfl⟩
  all_goals
   go_enter Tryz.func162, Tryz.ntmps162
   go_wp2_with fail
   refine HP.out.mono ?_
   rintro e w1 ⟨rfl, hb1⟩
   have HB1 := hide hb1
   clear hb1
   go_wp2_with fail
   refine bodyPost_ret (results_tmp rfl _ _ _) rfl ?_
   exact ⟨rfl, HB1.out⟩
theorem ybE {m : Nat} (h : 0 < m) (fm : fitsQ ((m : Nat) : Rat)) (B : Nat) (w : World) (hB : B ≤ w.heap.size) (hT : PQ B w) :
 Calls Tryz.prog 110 #[.string (T ((m : Nat) : Rat)), .string ⟨#[48]⟩] w (Ret w (.int .i64 1)) := by
 have HT := hide hT
 have f0 : fitsQ (0 : Rat) := jI (p := 1) ⟨by decide, by decide⟩ (by rw [yC]; omega)
 have HC := hide (fun w hB hT => yc6 fm f0 B w hB hT)
 obtain ⟨hN, hD⟩ := jT m
 have hc : cmpC ((m : Nat) : Rat) 0 := by
  refine ⟨?_, ?_⟩
  ·rw [hN, show ((0 : Rat).den : Int) = 1 from rfl, Int.mul_one]
   have := fm.1
   rw [hN] at this
   exact this
  ·rw [show (0 : Rat).num = 0 from rfl, Int.zero_mul]
   exact f0.1
 have hv : cmpR ((m : Nat) : Rat) 0 = 1 := by
  have h1 : (0 : Rat) < ((m : Nat) : Rat) := Rat.natCast_pos.2 h
  unfold cmpR
  rw [if_neg (by grind), if_pos h1]
 rw [show cmpOV ((m : Nat) : Rat) 0 = .tuple #[.int .i64 1, .int .i64 0] by unfold cmpOV; rw [if_pos hc, hv], T0] at HC
 generalize T ((m : Nat) : Rat) = X at *
 clear h fm f0 hN hD hc hv hT
 go_enter Tryz.func110, Tryz.ntmps110
 go_wp2_with fail
 refine (HC.out _ hB HT.out).mono ?_
 rintro e w1 ⟨rfl, hb1⟩
 have HB1 := hide hb1
 clear hb1
 go_wp2_with fail
 go_ret
 exact ⟨rfl, HB1.out⟩
theorem yeX {c : Rat} {m : Nat} (H : TermOk c m) (B : Nat) (w : World) (hB : B ≤ w.heap.size) (hT : PQ B w) :
 Calls Tryz.prog 109 #[termV (T c) (T (m : Rat))] w (Ret w (.int .i64 (termE c m))) := by
 have HT := hide hT
 obtain ⟨hN, hD⟩ := jT m
 have HC1 := hide (fun w hB hT => yan H.fc B w hB hT)
 have HC2 := hide (fun w hB hT => yan H.fm B w hB hT)
 have HL1 := hide (fun w hB hT => yd2 H.fc 60 _ rfl B w hB hT)
 have HL2 := hide (fun w hB hT => yd2 H.fm 40 _ rfl B w hB hT)
 have hz := yeJ H.cne
 have HP := hide (fun w hB hT => xC H.fm B w hB hT)
 have e1 : iB (((m : Nat) : Rat).den : Int) = ⟨#[49]⟩ := by rw [hD]; exact iB1
 rw [e1] at HP
 have HK := hide (fun w hB hT => ybE H.pos H.fm B w hB hT)
 have HNO := hide (fun (hl : dlen ((m : Nat) : Rat) ≤ 40) w hB hT => ya5 (vi (yga (by omega) hl) (by omega)) (by rw [hN]; omega) B w hB hT)
 rw [(yek H.pos H.norm).1, (yek H.pos H.norm).2, T1] at HNO
 obtain ⟨N, hNN⟩ := xe (iB ((m : Nat) : Rat).num)
 rw [← hNN] at HP
 obtain ⟨X, hX⟩ := xe (T ((m : Nat) : Rat))
 obtain ⟨Y, hY⟩ := xe (T c)
 obtain ⟨E, hE⟩ := xe (termE c m)
 unfold termE at hE
 obtain ⟨x1, hx1⟩ := xe (dlen c)
 obtain ⟨x2, hx2⟩ := xe (dlen ((m : Nat) : Rat))
 rw [← hX] at HC2 HL2 HP HK HNO ⊢
 rw [← hY] at HC1 HL1 hz ⊢
 rw [← hx1] at HL1 hE
 rw [← hx2] at HL2 hE HNO
 rw [show termE c m = E by rw [hE, hx1, hx2]; rfl]
 have hway : (decide (60 < x1) = true ∧ E = 4) ∨ (decide (60 < x1) = false ∧ decide (40 < x2) = true ∧ E = 4) ∨ (decide (60 < x1) = false ∧ decide (40 < x2) = false ∧ x2 ≤ 40 ∧ E = 0) := by
  by_cases h1 : 60 < x1
  ·exact .inl ⟨decide_eq_true h1, by rw [hE, if_pos (.inl h1)]⟩
  ·by_cases h2 : 40 < x2
   ·exact .inr (.inl ⟨decide_eq_false h1, decide_eq_true h2, by rw [hE, if_pos (.inr h2)]⟩)
   ·exact .inr (.inr ⟨decide_eq_false h1, decide_eq_false h2, by omega, by rw [hE, if_neg (fun h => by rcases h with h | h; exact h1 h; exact h2 h)]⟩)
 have h1 : (X.toList == [49]) = true ∨ (X.toList == [49]) = false := by cases X.toList == [49] <;> simp
 have xx : (X.toList == X.toList) = true := beq_self_eq_true _
 have xx2 : (X.toList != X.toList) = false := by simp only [bne, xx]; rfl
 have X0 := hide (heap1 w (termO Y X))
 clear hN hD e1 hNN hX hY hx1 hx2 hE hT H
 rcases hway with ⟨g1, rfl⟩ | ⟨g1, g2, rfl⟩ | ⟨g1, g2, g3, rfl⟩
 ·rw [g1] at HL1
  clear g1
  go_enter Tryz.func109, Tryz.ntmps109
  go_wp2_with fail
  refine (HC1.out _ (Nat.le_trans hB X0.out.2.2.size) (HT.out.on X0.out.2.2 hB)).mono ?_
  rintro e w1 ⟨rfl, hb1⟩
  have G0 := hide (yc hb1 (X0.out.1) (yd (X0.out.1)))
  have HB1 := hide (Below.trans (X0.out.2.2) (hb1.mono (X0.out.2.2).size))
  clear hb1
  have q0_0 := ya G0.out 0
  have q0_1 := ya G0.out 1
  have q0_l := yd G0.out
  go_wp2_with fail
  refine (HC2.out _ (Nat.le_trans hB HB1.out.size) (HT.out.on HB1.out hB)).mono ?_
  rintro e w2 ⟨rfl, hb2⟩
  clear q0_0 q0_1 q0_l
  have G0 := bh hb2 G0
  have HB2 := hide (Below.trans (HB1.out) (hb2.mono (HB1.out).size))
  clear hb2
  have q0_0 := ya G0.out 0
  have q0_1 := ya G0.out 1
  have q0_l := yd G0.out
  go_wp2_with fail
  refine (HL1.out _ (Nat.le_trans hB HB2.out.size) (HT.out.on HB2.out hB)).mono ?_
  rintro e w3 ⟨rfl, hb3⟩
  clear q0_0 q0_1 q0_l
  have G0 := bh hb3 G0
  have HB3 := hide (Below.trans (HB2.out) (hb3.mono (HB2.out).size))
  clear hb3
  have q0_0 := ya G0.out 0
  have q0_1 := ya G0.out 1
  have q0_l := yd G0.out
  go_wp2_with fail
  go_ret
  exact ⟨rfl, HB3.out⟩
 ·rw [g1] at HL1
  rw [g2] at HL2
  clear g1 g2
  go_enter Tryz.func109, Tryz.ntmps109
  go_wp2_with fail
  refine (HC1.out _ (Nat.le_trans hB X0.out.2.2.size) (HT.out.on X0.out.2.2 hB)).mono ?_
  rintro e w1 ⟨rfl, hb1⟩
  have G0 := hide (yc hb1 (X0.out.1) (yd (X0.out.1)))
  have HB1 := hide (Below.trans (X0.out.2.2) (hb1.mono (X0.out.2.2).size))
  clear hb1
  have q0_0 := ya G0.out 0
  have q0_1 := ya G0.out 1
  have q0_l := yd G0.out
  go_wp2_with fail
  refine (HC2.out _ (Nat.le_trans hB HB1.out.size) (HT.out.on HB1.out hB)).mono ?_
  rintro e w2 ⟨rfl, hb2⟩
  clear q0_0 q0_1 q0_l
  have G0 := bh hb2 G0
  have HB2 := hide (Below.trans (HB1.out) (hb2.mono (HB1.out).size))
  clear hb2
  have q0_0 := ya G0.out 0
  have q0_1 := ya G0.out 1
  have q0_l := yd G0.out
  go_wp2_with fail
  refine (HL1.out _ (Nat.le_trans hB HB2.out.size) (HT.out.on HB2.out hB)).mono ?_
  rintro e w3 ⟨rfl, hb3⟩
  clear q0_0 q0_1 q0_l
  have G0 := bh hb3 G0
  have HB3 := hide (Below.trans (HB2.out) (hb3.mono (HB2.out).size))
  clear hb3
  have q0_0 := ya G0.out 0
  have q0_1 := ya G0.out 1
  have q0_l := yd G0.out
  go_wp2_with fail
  refine (HL2.out _ (Nat.le_trans hB HB3.out.size) (HT.out.on HB3.out hB)).mono ?_
  rintro e w4 ⟨rfl, hb4⟩
  clear q0_0 q0_1 q0_l
  have G0 := bh hb4 G0
  have HB4 := hide (Below.trans (HB3.out) (hb4.mono (HB3.out).size))
  clear hb4
  have q0_0 := ya G0.out 0
  have q0_1 := ya G0.out 1
  have q0_l := yd G0.out
  go_wp2_with fail
  go_ret
  exact ⟨rfl, HB4.out⟩
 ·rw [g1] at HL1
  rw [g2] at HL2
  have HNO2 := hide (HNO.out g3)
  clear g1 g2 g3 HNO
  rcases h1 with h1 | h1
  ·skip
   go_enter Tryz.func109, Tryz.ntmps109
   go_wp2_with fail
   refine (HC1.out _ (Nat.le_trans hB X0.out.2.2.size) (HT.out.on X0.out.2.2 hB)).mono ?_
   rintro e w1 ⟨rfl, hb1⟩
   have G0 := hide (yc hb1 (X0.out.1) (yd (X0.out.1)))
   have HB1 := hide (Below.trans (X0.out.2.2) (hb1.mono (X0.out.2.2).size))
   clear hb1
   have q0_0 := ya G0.out 0
   have q0_1 := ya G0.out 1
   have q0_l := yd G0.out
   go_wp2_with fail
   refine (HC2.out _ (Nat.le_trans hB HB1.out.size) (HT.out.on HB1.out hB)).mono ?_
   rintro e w2 ⟨rfl, hb2⟩
   clear q0_0 q0_1 q0_l
   have G0 := bh hb2 G0
   have HB2 := hide (Below.trans (HB1.out) (hb2.mono (HB1.out).size))
   clear hb2
   have q0_0 := ya G0.out 0
   have q0_1 := ya G0.out 1
   have q0_l := yd G0.out
   go_wp2_with fail
   refine (HL1.out _ (Nat.le_trans hB HB2.out.size) (HT.out.on HB2.out hB)).mono ?_
   rintro e w3 ⟨rfl, hb3⟩
   clear q0_0 q0_1 q0_l
   have G0 := bh hb3 G0
   have HB3 := hide (Below.trans (HB2.out) (hb3.mono (HB2.out).size))
   clear hb3
   have q0_0 := ya G0.out 0
   have q0_1 := ya G0.out 1
   have q0_l := yd G0.out
   go_wp2_with fail
   refine (HL2.out _ (Nat.le_trans hB HB3.out.size) (HT.out.on HB3.out hB)).mono ?_
   rintro e w4 ⟨rfl, hb4⟩
   clear q0_0 q0_1 q0_l
   have G0 := bh hb4 G0
   have HB4 := hide (Below.trans (HB3.out) (hb4.mono (HB3.out).size))
   clear hb4
   have q0_0 := ya G0.out 0
   have q0_1 := ya G0.out 1
   have q0_l := yd G0.out
   go_wp2_with fail
   refine (HP.out _ (Nat.le_trans hB HB4.out.size) (HT.out.on HB4.out hB)).mono ?_
   rintro e w5 ⟨rfl, hb5⟩
   clear q0_0 q0_1 q0_l
   have G0 := bh hb5 G0
   have HB5 := hide (Below.trans (HB4.out) (hb5.mono (HB4.out).size))
   clear hb5
   have q0_0 := ya G0.out 0
   have q0_1 := ya G0.out 1
   have q0_l := yd G0.out
   go_wp2_with fail
   refine (HK.out _ (Nat.le_trans hB HB5.out.size) (HT.out.on HB5.out hB)).mono ?_
   rintro e w6 ⟨rfl, hb6⟩
   clear q0_0 q0_1 q0_l
   have G0 := bh hb6 G0
   have HB6 := hide (Below.trans (HB5.out) (hb6.mono (HB5.out).size))
   clear hb6
   have q0_0 := ya G0.out 0
   have q0_1 := ya G0.out 1
   have q0_l := yd G0.out
   go_wp2_with fail
   go_ret
   exact ⟨rfl, HB6.out⟩
  ·skip
   go_enter Tryz.func109, Tryz.ntmps109
   go_wp2_with fail
   refine (HC1.out _ (Nat.le_trans hB X0.out.2.2.size) (HT.out.on X0.out.2.2 hB)).mono ?_
   rintro e w1 ⟨rfl, hb1⟩
   have G0 := hide (yc hb1 (X0.out.1) (yd (X0.out.1)))
   have HB1 := hide (Below.trans (X0.out.2.2) (hb1.mono (X0.out.2.2).size))
   clear hb1
   have q0_0 := ya G0.out 0
   have q0_1 := ya G0.out 1
   have q0_l := yd G0.out
   go_wp2_with fail
   refine (HC2.out _ (Nat.le_trans hB HB1.out.size) (HT.out.on HB1.out hB)).mono ?_
   rintro e w2 ⟨rfl, hb2⟩
   clear q0_0 q0_1 q0_l
   have G0 := bh hb2 G0
   have HB2 := hide (Below.trans (HB1.out) (hb2.mono (HB1.out).size))
   clear hb2
   have q0_0 := ya G0.out 0
   have q0_1 := ya G0.out 1
   have q0_l := yd G0.out
   go_wp2_with fail
   refine (HL1.out _ (Nat.le_trans hB HB2.out.size) (HT.out.on HB2.out hB)).mono ?_
   rintro e w3 ⟨rfl, hb3⟩
   clear q0_0 q0_1 q0_l
   have G0 := bh hb3 G0
   have HB3 := hide (Below.trans (HB2.out) (hb3.mono (HB2.out).size))
   clear hb3
   have q0_0 := ya G0.out 0
   have q0_1 := ya G0.out 1
   have q0_l := yd G0.out
   go_wp2_with fail
   refine (HL2.out _ (Nat.le_trans hB HB3.out.size) (HT.out.on HB3.out hB)).mono ?_
   rintro e w4 ⟨rfl, hb4⟩
   clear q0_0 q0_1 q0_l
   have G0 := bh hb4 G0
   have HB4 := hide (Below.trans (HB3.out) (hb4.mono (HB3.out).size))
   clear hb4
   have q0_0 := ya G0.out 0
   have q0_1 := ya G0.out 1
   have q0_l := yd G0.out
   go_wp2_with fail
   refine (HP.out _ (Nat.le_trans hB HB4.out.size) (HT.out.on HB4.out hB)).mono ?_
   rintro e w5 ⟨rfl, hb5⟩
   clear q0_0 q0_1 q0_l
   have G0 := bh hb5 G0
   have HB5 := hide (Below.trans (HB4.out) (hb5.mono (HB4.out).size))
   clear hb5
   have q0_0 := ya G0.out 0
   have q0_1 := ya G0.out 1
   have q0_l := yd G0.out
   go_wp2_with fail
   refine (HK.out _ (Nat.le_trans hB HB5.out.size) (HT.out.on HB5.out hB)).mono ?_
   rintro e w6 ⟨rfl, hb6⟩
   clear q0_0 q0_1 q0_l
   have G0 := bh hb6 G0
   have HB6 := hide (Below.trans (HB5.out) (hb6.mono (HB5.out).size))
   clear hb6
   have q0_0 := ya G0.out 0
   have q0_1 := ya G0.out 1
   have q0_l := yd G0.out
   go_wp2_with fail
   refine (HNO2.out _ (Nat.le_trans hB HB6.out.size) (HT.out.on HB6.out hB)).mono ?_
   rintro e w7 ⟨rfl, hb7⟩
   clear q0_0 q0_1 q0_l
   have G0 := bh hb7 G0
   have HB7 := hide (Below.trans (HB6.out) (hb7.mono (HB6.out).size))
   clear hb7
   have q0_0 := ya G0.out 0
   have q0_1 := ya G0.out 1
   have q0_l := yd G0.out
   go_wp2_with fail
   go_ret
   exact ⟨rfl, HB7.out⟩
theorem ybO {c : Rat} {m : Nat} (H : TermOk c m) (b : Nat) (B : Nat) (w : World) (hb : w.heap[b]? = some (termO (T c) (T (m : Rat)))) (hB : B ≤ w.heap.size) (hT : PQ B w) :
 Calls Tryz.prog 58 #[.slice (some ⟨b, 0, none⟩) 1 1] w (Ret w (.int .i64 (termE c m))) := by
 have HR := hide (yeX H B w hB hT)
 obtain ⟨X, hX⟩ := xe (T ((m : Nat) : Rat))
 obtain ⟨Y, hY⟩ := xe (T c)
 have hE4 : termE c m = 4 ∨ termE c m = 0 := by unfold termE; split <;> simp
 obtain ⟨E, hE⟩ := xe (termE c m)
 rw [← hX, ← hY] at HR hb
 rw [← hE] at HR hE4 ⊢
 have G := hide hb
 have k0 := ya G.out 0
 have k1 := ya G.out 1
 have kl := yd G.out
 clear hX hY hE hT hb H
 rcases hE4 with rfl | rfl
 ·go_enter Tryz.func58, Tryz.ntmps58
  go_wp2_with fail
  refine wp_loop_rounds 2 ?_
  rw [rounds_succ]
  go_wp2_with fail
  refine HR.out.mono ?_
  rintro e w1 ⟨rfl, hb1⟩
  have HB1 := hide hb1
  clear hb1
  go_wp2_with fail
  go_ret
  exact ⟨rfl, HB1.out⟩
 ·go_enter Tryz.func58, Tryz.ntmps58
  go_wp2_with fail
  refine wp_loop_rounds 2 ?_
  rw [rounds_succ]
  go_wp2_with fail
  refine HR.out.mono ?_
  rintro e w1 ⟨rfl, hb1⟩
  have HB1 := hide hb1
  clear hb1
  go_wp2_with fail
  go_quiet (fail)
  have HB2 := hide (below_drewN HB1.out nq)
  clear HB1
  go_wp2_with fail
  refine wp_loop_rounds 1 ?_
  rw [rounds_succ]
  go_wp2_with fail
  rw [rounds_succ]
  go_wp2_with fail
  go_ret
  exact ⟨rfl, HB2.out⟩
def LenR (w : World) (r : Option (ByteArray × ByteArray)) (E : Int) (e : Ending) (w' : World) : Prop := match r with
 |some (c, n) => ResS w c n e w'
 |none => Ret w (.tuple #[.slice none 0 0, .int .i64 E]) e w'
theorem yfa {q : Rat} (fq : fitsQ q) (h : ¬ roomy q) (B : Nat) : ∃ (a b : ByteArray) (e : Int), e ≠ 0 ∧ Hid (∀ w, B ≤ w.heap.size → PR B w → Calls Tryz.prog 55 #[.string (T q)] w (Ret w (.tuple #[.string a, .string b, .int .i64 e]))) ∧ Hid (∀ w, B ≤ w.heap.size → PR B w → Calls Tryz.prog 57 #[.string (T q)] w (Ret w (.tuple #[.string a, .string b, .int .i64 e]))) := by
 have hs := (yW fq).1
 rcases ycM (T q) with ⟨h1, h2⟩ | ⟨x, rx, hx, _⟩ | ⟨x, rx, hx, _⟩
 ·refine ⟨_, _, _, h1, hide (fun w hB hT => ?_), hide (fun w hB hT => yaw hs h1 B w hB hT.pq)⟩
  rw [← h2]
  exact ydI hs (by rw [h2]; exact h1) B w hB hT.pq
 ·exact absurd rx (by rw [← yeR hx]; exact h)
 ·exact absurd rx (by rw [← yeR hx]; exact h)
theorem ydD {V : S3} {E : Int} (hV : midS V) (hE : chkV V = E) (h0 : E ≠ 0) (B : Nat) (w : World) (hB : B ≤ w.heap.size) (hT : PR B w) :
 Calls Tryz.prog 21 #[txtV V] w (Ret w (.tuple #[.slice none 0 0, .int .i64 E])) := by
 have HT := hide hT
 have HC := hide (fun w hB hT => vf V.x V.y V.z hV.1 hV.2.1 hV.2.2 B w hB hT)
 rw [show chk3 V.x.data.toList V.y.data.toList V.z.data.toList = E from hE] at HC
 have hne : (E != 0) = true := by simpa using h0
 have X0 := hide (heap1 w (txtO V))
 clear hV hE h0 hT
 go_enter Tryz.func21, Tryz.ntmps21
 go_wp2_with fail
 refine (HC.out _ (Nat.le_trans hB X0.out.2.2.size) (HT.out.on X0.out.2.2 hB).pq).mono ?_
 rintro e w1 ⟨rfl, hb1⟩
 have HB1 := hide (Below.trans (X0.out.2.2) (hb1.mono (X0.out.2.2).size))
 clear hb1
 go_wp2_with fail
 refine bodyPost_ret (results_tmp2 rfl _ _ _) rfl ?_
 exact ⟨rfl, HB1.out⟩
theorem ybM {a : V3} (fa : fitsV a) (hd : dotO a a = none) (B : Nat) (w : World) (hB : B ≤ w.heap.size) (hT : PR B w) :
 Calls Tryz.prog 21 #[vecV a] w (Ret w (.tuple #[.slice none 0 0, .int .i64 4])) := by
 have HT := hide hT
 have HC := hide (fun w hB hT => yd7 fa B w hB hT)
 have HD := hide (fun w hB hT => (yai fa fa B w hB hT).mono fun _ _ hr => ResO.no hd hr)
 have X0 := hide (heap1 w (vecO a))
 clear fa hd hT
 go_enter Tryz.func21, Tryz.ntmps21
 go_wp2_with fail
 refine (HC.out _ (Nat.le_trans hB X0.out.2.2.size) (HT.out.on X0.out.2.2 hB).pq).mono ?_
 rintro e w1 ⟨rfl, hb1⟩
 have G0 := hide (yc hb1 (X0.out.1) (yd (X0.out.1)))
 have HB1 := hide (Below.trans (X0.out.2.2) (hb1.mono (X0.out.2.2).size))
 clear hb1
 have q0_0 := ya G0.out 0
 have q0_1 := ya G0.out 1
 have q0_2 := ya G0.out 2
 have q0_l := yd G0.out
 go_wp2_with fail
 refine (HD.out _ (Nat.le_trans hB HB1.out.size) (HT.out.on HB1.out hB).pq).mono ?_
 rintro e w2 ⟨rfl, hb2⟩
 clear q0_0 q0_1 q0_2 q0_l
 have G0 := bh hb2 G0
 have HB2 := hide (Below.trans (HB1.out) (hb2.mono (HB1.out).size))
 clear hb2
 have q0_0 := ya G0.out 0
 have q0_1 := ya G0.out 1
 have q0_2 := ya G0.out 2
 have q0_l := yd G0.out
 go_wp2_with fail
 refine bodyPost_ret (results_tmp2 rfl _ _ _) rfl ?_
 exact ⟨rfl, HB2.out⟩
theorem kK {a : V3} {q : Rat} (fa : fitsV a) (hd : dotO a a = some q) {c n : ByteArray} {E : Int} {B : Nat} (hN : Hid (∀ w, B ≤ w.heap.size → PR B w → Calls Tryz.prog 55 #[.string (T q)] w (Ret w (.tuple #[.string c, .string n, .int .i64 E])))) (hE : E ≠ 0 ∨ (E = 0 ∧ c = ⟨#[48]⟩)) (w : World) (hB : B ≤ w.heap.size) (hT : PR B w) :
 Calls Tryz.prog 21 #[vecV a] w (Ret w (.tuple #[.slice none 0 0, .int .i64 E])) := by
 have HT := hide hT
 have HC := hide (fun w hB hT => yd7 fa B w hB hT)
 have HD := hide (fun w hB hT => (yai fa fa B w hB hT).mono fun _ _ hr => ResO.of hd hr)
 have X0 := hide (heap1 w (vecO a))
 have hway : ((E != 0) = true ∧ (E == 0) = false) ∨ (E = 0 ∧ c = ⟨#[48]⟩) := by
  rcases hE with h | h
  ·exact .inl ⟨by simpa using h, by simpa using h⟩
  ·exact .inr h
 clear fa hd hT hE
 rcases hway with ⟨q1, q2⟩ | ⟨rfl, rfl⟩
 ·skip
  go_enter Tryz.func21, Tryz.ntmps21
  go_wp2_with fail
  refine (HC.out _ (Nat.le_trans hB X0.out.2.2.size) (HT.out.on X0.out.2.2 hB).pq).mono ?_
  rintro e w1 ⟨rfl, hb1⟩
  have G0 := hide (yc hb1 (X0.out.1) (yd (X0.out.1)))
  have HB1 := hide (Below.trans (X0.out.2.2) (hb1.mono (X0.out.2.2).size))
  clear hb1
  have q0_0 := ya G0.out 0
  have q0_1 := ya G0.out 1
  have q0_2 := ya G0.out 2
  have q0_l := yd G0.out
  go_wp2_with fail
  refine (HD.out _ (Nat.le_trans hB HB1.out.size) (HT.out.on HB1.out hB).pq).mono ?_
  rintro e w2 ⟨rfl, hb2⟩
  clear q0_0 q0_1 q0_2 q0_l
  have G0 := bh hb2 G0
  have HB2 := hide (Below.trans (HB1.out) (hb2.mono (HB1.out).size))
  clear hb2
  have q0_0 := ya G0.out 0
  have q0_1 := ya G0.out 1
  have q0_2 := ya G0.out 2
  have q0_l := yd G0.out
  clear q0_0 q0_1 q0_2 q0_l G0
  go_wp2_with fail
  refine (hN.out _ (Nat.le_trans hB HB2.out.size) (HT.out.on HB2.out hB)).mono ?_
  rintro e w3 ⟨rfl, hb3⟩
  have HB3 := hide (Below.trans (HB2.out) (hb3.mono (HB2.out).size))
  clear hb3
  go_wp2_with fail
  refine bodyPost_ret (results_tmp2 rfl _ _ _) rfl ?_
  exact ⟨rfl, HB3.out⟩
 ·skip
  go_enter Tryz.func21, Tryz.ntmps21
  go_wp2_with fail
  refine (HC.out _ (Nat.le_trans hB X0.out.2.2.size) (HT.out.on X0.out.2.2 hB).pq).mono ?_
  rintro e w1 ⟨rfl, hb1⟩
  have G0 := hide (yc hb1 (X0.out.1) (yd (X0.out.1)))
  have HB1 := hide (Below.trans (X0.out.2.2) (hb1.mono (X0.out.2.2).size))
  clear hb1
  have q0_0 := ya G0.out 0
  have q0_1 := ya G0.out 1
  have q0_2 := ya G0.out 2
  have q0_l := yd G0.out
  go_wp2_with fail
  refine (HD.out _ (Nat.le_trans hB HB1.out.size) (HT.out.on HB1.out hB).pq).mono ?_
  rintro e w2 ⟨rfl, hb2⟩
  clear q0_0 q0_1 q0_2 q0_l
  have G0 := bh hb2 G0
  have HB2 := hide (Below.trans (HB1.out) (hb2.mono (HB1.out).size))
  clear hb2
  have q0_0 := ya G0.out 0
  have q0_1 := ya G0.out 1
  have q0_2 := ya G0.out 2
  have q0_l := yd G0.out
  clear q0_0 q0_1 q0_2 q0_l G0
  go_wp2_with fail
  refine (hN.out _ (Nat.le_trans hB HB2.out.size) (HT.out.on HB2.out hB)).mono ?_
  rintro e w3 ⟨rfl, hb3⟩
  have HB3 := hide (Below.trans (HB2.out) (hb3.mono (HB2.out).size))
  clear hb3
  go_wp2_with fail
  refine bodyPost_ret (results_tmp2 rfl _ _ _) rfl ?_
  exact ⟨rfl, HB3.out⟩
theorem ybQ {a : V3} {q : Rat} (fa : fitsV a) (hd : dotO a a = some q) {c : Rat} {m : Nat} (H : TermOk c m) {B : Nat} (hN : Hid (∀ w, B ≤ w.heap.size → PR B w → Calls Tryz.prog 55 #[.string (T q)] w (Ret w (.tuple #[.string (T c), .string (T ((m : Nat) : Rat)), .int .i64 0])))) (w : World) (hB : B ≤ w.heap.size) (hT : PR B w) :
 Calls Tryz.prog 21 #[vecV a] w (LenR w (if termE c m = 0 then some (T c, T ((m : Nat) : Rat)) else none) (termE c m)) := by
 have HT := hide hT
 have HC := hide (fun w hB hT => yd7 fa B w hB hT)
 have HD := hide (fun w hB hT => (yai fa fa B w hB hT).mono fun _ _ hr => ResO.of hd hr)
 have HS := hide (fun b w hb hB hT => ydK H b B w hb hB hT)
 have hz := yeJ H.cne
 have hE4 : termE c m = 4 ∨ termE c m = 0 := by unfold termE; split <;> simp
 obtain ⟨E, hE⟩ := xe (termE c m)
 rw [← hE] at HS hE4 ⊢
 obtain ⟨X, hX⟩ := xe (T ((m : Nat) : Rat))
 obtain ⟨Y, hY⟩ := xe (T c)
 rw [← hX, ← hY] at hN HS ⊢
 rw [← hY] at hz
 have X0 := hide (heap1 w (vecO a))
 clear hX hY hE fa hd H hT
 rcases hE4 with rfl | rfl
 ·skip
  rw [if_neg (by decide)]
  show Calls Tryz.prog 21 #[vecV a] w (Ret w (.tuple #[.slice none 0 0, .int .i64 4]))
  go_enter Tryz.func21, Tryz.ntmps21
  go_wp2_with fail
  refine (HC.out _ (Nat.le_trans hB X0.out.2.2.size) (HT.out.on X0.out.2.2 hB).pq).mono ?_
  rintro e w1 ⟨rfl, hb1⟩
  have G0 := hide (yc hb1 (X0.out.1) (yd (X0.out.1)))
  have HB1 := hide (Below.trans (X0.out.2.2) (hb1.mono (X0.out.2.2).size))
  clear hb1
  have q0_0 := ya G0.out 0
  have q0_1 := ya G0.out 1
  have q0_2 := ya G0.out 2
  have q0_l := yd G0.out
  go_wp2_with fail
  refine (HD.out _ (Nat.le_trans hB HB1.out.size) (HT.out.on HB1.out hB).pq).mono ?_
  rintro e w2 ⟨rfl, hb2⟩
  clear q0_0 q0_1 q0_2 q0_l
  have G0 := bh hb2 G0
  have HB2 := hide (Below.trans (HB1.out) (hb2.mono (HB1.out).size))
  clear hb2
  have q0_0 := ya G0.out 0
  have q0_1 := ya G0.out 1
  have q0_2 := ya G0.out 2
  have q0_l := yd G0.out
  clear q0_0 q0_1 q0_2 q0_l G0
  go_wp2_with fail
  refine (hN.out _ (Nat.le_trans hB HB2.out.size) (HT.out.on HB2.out hB)).mono ?_
  rintro e w3 ⟨rfl, hb3⟩
  have HB3 := hide (Below.trans (HB2.out) (hb3.mono (HB2.out).size))
  clear hb3
  have X3 := hide (heap1 w3 (termO Y X))
  have HB4 := hide (HB3.out.trans (X3.out.2.2.mono HB3.out.size))
  have HS4 := hide (HS.out w3.heap.size (w3.alloc (termO Y X)) X3.out.1 (Nat.le_trans hB HB4.out.size) (HT.out.on HB4.out hB))
  go_wp2_with fail
  refine HS4.out.mono ?_
  rintro e w5 ⟨rfl, hb5⟩
  have G5 := hide (yc hb5 X3.out.1 (yd X3.out.1))
  have HB5 := bt HB4 hb5
  have HL := hide HB3.out.size
  clear hb5 X3 HS4
  go_wp2_with fail
  refine bodyPost_ret (results_tmp2 rfl _ _ _) rfl ?_
  exact ⟨rfl, HB5.out⟩
 ·skip
  rw [if_pos (by decide)]
  show Calls Tryz.prog 21 #[vecV a] w (ResS w Y X)
  go_enter Tryz.func21, Tryz.ntmps21
  go_wp2_with fail
  refine (HC.out _ (Nat.le_trans hB X0.out.2.2.size) (HT.out.on X0.out.2.2 hB).pq).mono ?_
  rintro e w1 ⟨rfl, hb1⟩
  have G0 := hide (yc hb1 (X0.out.1) (yd (X0.out.1)))
  have HB1 := hide (Below.trans (X0.out.2.2) (hb1.mono (X0.out.2.2).size))
  clear hb1
  have q0_0 := ya G0.out 0
  have q0_1 := ya G0.out 1
  have q0_2 := ya G0.out 2
  have q0_l := yd G0.out
  go_wp2_with fail
  refine (HD.out _ (Nat.le_trans hB HB1.out.size) (HT.out.on HB1.out hB).pq).mono ?_
  rintro e w2 ⟨rfl, hb2⟩
  clear q0_0 q0_1 q0_2 q0_l
  have G0 := bh hb2 G0
  have HB2 := hide (Below.trans (HB1.out) (hb2.mono (HB1.out).size))
  clear hb2
  have q0_0 := ya G0.out 0
  have q0_1 := ya G0.out 1
  have q0_2 := ya G0.out 2
  have q0_l := yd G0.out
  clear q0_0 q0_1 q0_2 q0_l G0
  go_wp2_with fail
  refine (hN.out _ (Nat.le_trans hB HB2.out.size) (HT.out.on HB2.out hB)).mono ?_
  rintro e w3 ⟨rfl, hb3⟩
  have HB3 := hide (Below.trans (HB2.out) (hb3.mono (HB2.out).size))
  clear hb3
  have X3 := hide (heap1 w3 (termO Y X))
  have HB4 := hide (HB3.out.trans (X3.out.2.2.mono HB3.out.size))
  have HS4 := hide (HS.out w3.heap.size (w3.alloc (termO Y X)) X3.out.1 (Nat.le_trans hB HB4.out.size) (HT.out.on HB4.out hB))
  go_wp2_with fail
  refine HS4.out.mono ?_
  rintro e w5 ⟨rfl, hb5⟩
  have G5 := hide (yc hb5 X3.out.1 (yd X3.out.1))
  have HB5 := bt HB4 hb5
  have HL := hide HB3.out.size
  clear hb5 X3 HS4
  go_wp2_with fail
  refine bodyPost_ret (results_tmp2 rfl _ _ _) rfl ?_
  exact ⟨w3.heap.size, HL.out, G5.out, rfl, HB5.out⟩
theorem kL {V : S3} {E : Int} {B : Nat} (h0 : E ≠ 0) (HD : Hid (∀ w, B ≤ w.heap.size → PQ B w → Calls Tryz.prog 18 #[txtV V, txtV V] w (Ret w (.tuple #[.string ⟨#[]⟩, .int .i64 E])))) (w : World) (hB : B ≤ w.heap.size) (hT : PR B w) :
 Calls Tryz.prog 22 #[txtV V] w (Ret w (.tuple #[.slice none 0 0, .int .i64 E])) := by
 have HT := hide hT
 have hne : (E != 0) = true := by simpa using h0
 have X0 := hide (heap1 w (txtO V))
 clear h0 hT
 go_enter Tryz.func22, Tryz.ntmps22
 go_wp2_with fail
 refine (HD.out _ (Nat.le_trans hB X0.out.2.2.size) (HT.out.on X0.out.2.2 hB).pq).mono ?_
 rintro e w1 ⟨rfl, hb1⟩
 have HB1 := hide (Below.trans (X0.out.2.2) (hb1.mono (X0.out.2.2).size))
 clear hb1
 go_wp2_with fail
 refine bodyPost_ret (results_tmp2 rfl _ _ _) rfl ?_
 exact ⟨rfl, HB1.out⟩
theorem ybu {V : S3} {B : Nat} (HD : Hid (∀ w, B ≤ w.heap.size → PQ B w → Calls Tryz.prog 18 #[txtV V, txtV V] w (Ret w (.tuple #[.string ⟨#[48]⟩, .int .i64 0])))) (w : World) (hB : B ≤ w.heap.size) (hT : PR B w) :
 Calls Tryz.prog 22 #[txtV V] w (Ret w (.tuple #[.slice none 0 0, .int .i64 0])) := by
 have HT := hide hT
 have X0 := hide (heap1 w (txtO V))
 clear hT
 go_enter Tryz.func22, Tryz.ntmps22
 go_wp2_with fail
 refine (HD.out _ (Nat.le_trans hB X0.out.2.2.size) (HT.out.on X0.out.2.2 hB).pq).mono ?_
 rintro e w1 ⟨rfl, hb1⟩
 have HB1 := hide (Below.trans (X0.out.2.2) (hb1.mono (X0.out.2.2).size))
 clear hb1
 go_wp2_with fail
 refine bodyPost_ret (results_tmp2 rfl _ _ _) rfl ?_
 exact ⟨rfl, HB1.out⟩
theorem ycs {V : S3} {q : Rat} {B : Nat} (hq : q ≠ 0) (HD : Hid (∀ w, B ≤ w.heap.size → PQ B w → Calls Tryz.prog 18 #[txtV V, txtV V] w (Ret w (.tuple #[.string (T q), .int .i64 0])))) {c n : ByteArray} {E : Int} (h0 : E ≠ 0) (hN : Hid (∀ w, B ≤ w.heap.size → PR B w → Calls Tryz.prog 57 #[.string (T q)] w (Ret w (.tuple #[.string c, .string n, .int .i64 E])))) (w : World) (hB : B ≤ w.heap.size) (hT : PR B w) :
 Calls Tryz.prog 22 #[txtV V] w (Ret w (.tuple #[.slice none 0 0, .int .i64 E])) := by
 have HT := hide hT
 have hz := yeJ hq
 have hne : (E != 0) = true := by simpa using h0
 have X0 := hide (heap1 w (txtO V))
 generalize T q = Q at *
 clear hT h0 hq
 go_enter Tryz.func22, Tryz.ntmps22
 go_wp2_with fail
 refine (HD.out _ (Nat.le_trans hB X0.out.2.2.size) (HT.out.on X0.out.2.2 hB).pq).mono ?_
 rintro e w1 ⟨rfl, hb1⟩
 have HB1 := hide (Below.trans (X0.out.2.2) (hb1.mono (X0.out.2.2).size))
 clear hb1
 go_wp2_with fail
 refine (hN.out _ (Nat.le_trans hB HB1.out.size) (HT.out.on HB1.out hB)).mono ?_
 rintro e w2 ⟨rfl, hb2⟩
 have HB2 := hide (Below.trans (HB1.out) (hb2.mono (HB1.out).size))
 clear hb2
 go_wp2_with fail
 refine bodyPost_ret (results_tmp2 rfl _ _ _) rfl ?_
 exact ⟨rfl, HB2.out⟩
theorem ybd {V : S3} {q : Rat} {B : Nat} (hq : q ≠ 0) (HD : Hid (∀ w, B ≤ w.heap.size → PQ B w → Calls Tryz.prog 18 #[txtV V, txtV V] w (Ret w (.tuple #[.string (T q), .int .i64 0])))) {c : Rat} {m : Nat} (H : TermOk c m) (hN : Hid (∀ w, B ≤ w.heap.size → PR B w → Calls Tryz.prog 57 #[.string (T q)] w (Ret w (.tuple #[.string (T c), .string (T ((m : Nat) : Rat)), .int .i64 0])))) (w : World) (hB : B ≤ w.heap.size) (hT : PR B w) :
 Calls Tryz.prog 22 #[txtV V] w (LenR w (if termE c m = 0 then some (T c, T ((m : Nat) : Rat)) else none) (termE c m)) := by
 have HT := hide hT
 have hz0 := yeJ hq
 have HS := hide (fun b w hb hB hT => ybO H b B w hb hB hT)
 have hE4 : termE c m = 4 ∨ termE c m = 0 := by unfold termE; split <;> simp
 obtain ⟨E, hE⟩ := xe (termE c m)
 rw [← hE] at HS hE4 ⊢
 obtain ⟨X, hX⟩ := xe (T ((m : Nat) : Rat))
 obtain ⟨Y, hY⟩ := xe (T c)
 rw [← hX, ← hY] at hN HS ⊢
 have X0 := hide (heap1 w (txtO V))
 obtain ⟨Q, hQ⟩ := xe (T q)
 rw [← hQ] at HD hN hz0
 clear hX hY hE hQ hq H hT
 rcases hE4 with rfl | rfl
 ·skip
  rw [if_neg (by decide)]
  show Calls Tryz.prog 22 #[txtV V] w (Ret w (.tuple #[.slice none 0 0, .int .i64 4]))
  go_enter Tryz.func22, Tryz.ntmps22
  go_wp2_with fail
  refine (HD.out _ (Nat.le_trans hB X0.out.2.2.size) (HT.out.on X0.out.2.2 hB).pq).mono ?_
  rintro e w1 ⟨rfl, hb1⟩
  have HB1 := hide (Below.trans (X0.out.2.2) (hb1.mono (X0.out.2.2).size))
  clear hb1
  go_wp2_with fail
  refine (hN.out _ (Nat.le_trans hB HB1.out.size) (HT.out.on HB1.out hB)).mono ?_
  rintro e w2 ⟨rfl, hb2⟩
  have HB2 := hide (Below.trans (HB1.out) (hb2.mono (HB1.out).size))
  clear hb2
  have X3 := hide (heap1 w2 (termO Y X))
  have HB4 := hide (HB2.out.trans (X3.out.2.2.mono HB2.out.size))
  have HS4 := hide (HS.out w2.heap.size (w2.alloc (termO Y X)) X3.out.1 (Nat.le_trans hB HB4.out.size) (HT.out.on HB4.out hB).pq)
  go_wp2_with fail
  refine HS4.out.mono ?_
  rintro e w5 ⟨rfl, hb5⟩
  have G5 := hide (yc hb5 X3.out.1 (yd X3.out.1))
  have HB5 := bt HB4 hb5
  have HL := hide HB2.out.size
  clear hb5 X3 HS4
  go_wp2_with fail
  refine bodyPost_ret (results_tmp2 rfl _ _ _) rfl ?_
  exact ⟨rfl, HB5.out⟩
 ·skip
  rw [if_pos (by decide)]
  show Calls Tryz.prog 22 #[txtV V] w (ResS w Y X)
  go_enter Tryz.func22, Tryz.ntmps22
  go_wp2_with fail
  refine (HD.out _ (Nat.le_trans hB X0.out.2.2.size) (HT.out.on X0.out.2.2 hB).pq).mono ?_
  rintro e w1 ⟨rfl, hb1⟩
  have HB1 := hide (Below.trans (X0.out.2.2) (hb1.mono (X0.out.2.2).size))
  clear hb1
  go_wp2_with fail
  refine (hN.out _ (Nat.le_trans hB HB1.out.size) (HT.out.on HB1.out hB)).mono ?_
  rintro e w2 ⟨rfl, hb2⟩
  have HB2 := hide (Below.trans (HB1.out) (hb2.mono (HB1.out).size))
  clear hb2
  have X3 := hide (heap1 w2 (termO Y X))
  have HB4 := hide (HB2.out.trans (X3.out.2.2.mono HB2.out.size))
  have HS4 := hide (HS.out w2.heap.size (w2.alloc (termO Y X)) X3.out.1 (Nat.le_trans hB HB4.out.size) (HT.out.on HB4.out hB).pq)
  go_wp2_with fail
  refine HS4.out.mono ?_
  rintro e w5 ⟨rfl, hb5⟩
  have G5 := hide (yc hb5 X3.out.1 (yd X3.out.1))
  have HB5 := bt HB4 hb5
  have HL := hide HB2.out.size
  clear hb5 X3 HS4
  go_wp2_with fail
  refine bodyPost_ret (results_tmp2 rfl _ _ _) rfl ?_
  exact ⟨w2.heap.size, HL.out, G5.out, rfl, HB5.out⟩
theorem yeQ {q : Rat} (rq : roomy q) (h0 : 0 < q.num) : TermOk (nC q) (nL q) := by
 have hm : 0 < q.num.toNat * q.den := Nat.mul_pos (by omega) q.den_pos
 have e1 : nC q = normC q := by unfold nC; rw [if_neg (by omega)]
 have e2 : nL q = normL q := by unfold nL; rw [if_neg (by omega)]
 obtain ⟨_, l2, l3, _⟩ := ygG h0
 obtain ⟨n1, _, n3, _, _⟩ := jd hm
 have ff := ycn rq.2.1 rq.2.2 h0
 have hc1 : (normN (q.num.toNat * q.den)).1 * (normN (q.num.toNat * q.den)).1 * (normN (q.num.toNat * q.den)).2 = q.num.toNat * q.den := n1
 have hl : normL q = (normN (q.num.toNat * q.den)).2 := rfl
 obtain ⟨c, hc⟩ := xe ((normN (q.num.toNat * q.den)).1)
 have hcl : c ≤ q.num.toNat * q.den ∧ normL q ≤ q.num.toNat * q.den := by
  rw [← hc1, ← hc, ← hl]
  have hc0 : 0 < c := by rw [hc]; exact n3
  refine ⟨Nat.le_trans (Nat.le_mul_of_pos_right c hc0) (Nat.le_mul_of_pos_right _ l3), Nat.le_mul_of_pos_left _ (Nat.mul_pos hc0 hc0)⟩
 rw [e1, e2]
 refine ⟨?_, fun e => ?_, l3, ⟨?_, ybG⟩, ydl hm⟩
 ·unfold normC
  rw [← hc]
  exact vW (by have := q.den_pos; omega) (yi ff (by omega)) rq.1.2
 ·rw [e] at l2
  exact absurd l2 (by decide)
 ·exact yi ff (show ((normL q : Nat) : Int).natAbs ≤ _ by omega)
theorem ycq {w : World} {E : Int} {e : Ending} {w' : World} (h : LenR w none E e w') : Ret w (.tuple #[.slice none 0 0, .int .i64 E]) e w' := h
theorem ycg {w : World} {c n : ByteArray} {E : Int} {e : Ending} {w' : World} (h : LenR w (some (c, n)) E e w') : ResS w c n e w' := h
def LenErr (V : S3) (B : Nat) (E : Int) : Prop := (∀ w, B ≤ w.heap.size → PR B w → Calls Tryz.prog 21 #[txtV V] w (Ret w (.tuple #[.slice none 0 0, .int .i64 E]))) ∧ (∀ w, B ≤ w.heap.size → PR B w → Calls Tryz.prog 22 #[txtV V] w (Ret w (.tuple #[.slice none 0 0, .int .i64 E])))
def LenTerm (V : S3) (B : Nat) (c n : ByteArray) : Prop := (∀ w, B ≤ w.heap.size → PR B w → Calls Tryz.prog 21 #[txtV V] w (ResS w c n)) ∧ (∀ w, B ≤ w.heap.size → PR B w → Calls Tryz.prog 22 #[txtV V] w (ResS w c n))
theorem yh2 {V : S3} (hV : midS V) (h : chkV V ≠ 0) (B : Nat) : LenErr V B (chkV V) := by
 refine ⟨fun w hB hT => ydD hV rfl h B w hB hT, fun w hB hT => kL (V := V) (E := chkV V) h (hide (fun w hB hT => yb5 (V := V) (U := V) hV hV ?_ h B w hB hT)) w hB hT⟩
 unfold both3
 rw [if_pos h]
theorem xT {a : V3} (fa : fitsV a) {o : Option Rat} (hd : dotO a a = o) (B : Nat) (w : World) (hB : B ≤ w.heap.size) (hT : PQ B w) :
 Calls Tryz.prog 18 #[txtV ⟨T a.x, T a.y, T a.z⟩, txtV ⟨T a.x, T a.y, T a.z⟩] w (Ret w (.tuple #[.string (optT o), .int .i64 (optE o)])) := by
 subst hd
 exact yfB fa fa B w hB hT
theorem ygV {a : V3} (fa : fitsV a) (hd : dotO a a = none) (B : Nat) : LenErr ⟨T a.x, T a.y, T a.z⟩ B 4 :=
 ⟨fun w hB hT => ybM fa hd B w hB hT, fun w hB hT => kL (V := ⟨T a.x, T a.y, T a.z⟩) (E := 4) (by decide) (hide (fun w hB hT => xT fa hd B w hB hT)) w hB hT⟩
theorem yhy {a : V3} (fa : fitsV a) (hd : dotO a a = some 0) (B : Nat) : LenErr ⟨T a.x, T a.y, T a.z⟩ B 0 := by
 refine ⟨fun w hB hT => kK fa hd (hide (fun w hB hT => kA B w hB hT.pq)) (.inr ⟨rfl, rfl⟩) w hB hT, fun w hB hT => ybu (V := ⟨T a.x, T a.y, T a.z⟩) (hide (fun w hB hT => ?_)) w hB hT⟩
 have := xT fa hd B w hB hT
 dsimp only [optT, optE] at this
 rw [T0] at this
 exact this
theorem ya7 {a : V3} (fa : fitsV a) {q : Rat} (hd : dotO a a = some q) (B : Nat) (w : World) (hB : B ≤ w.heap.size) (hT : PQ B w) :
 Calls Tryz.prog 18 #[txtV ⟨T a.x, T a.y, T a.z⟩, txtV ⟨T a.x, T a.y, T a.z⟩] w (Ret w (.tuple #[.string (T q), .int .i64 0])) := xT fa hd B w hB hT
theorem yh4 {a : V3} (fa : fitsV a) {q : Rat} (hd : dotO a a = some q) (hz : q ≠ 0) (rq : ¬ roomy q) (B : Nat) : ∃ E, LenErr ⟨T a.x, T a.y, T a.z⟩ B E := by
 obtain ⟨x, y, e, he, hn1, hn2⟩ := yfa (yd6 hd).2 rq B
 exact ⟨e, fun w hB hT => kK fa hd hn1 (.inl he) w hB hT, fun w hB hT => ycs (V := ⟨T a.x, T a.y, T a.z⟩) hz (hide (fun w hB hT => ya7 fa hd B w hB hT)) he hn2 w hB hT⟩
theorem yhw {a : V3} (fa : fitsV a) {q : Rat} (hd : dotO a a = some q) (hz : q ≠ 0) (h0 : 0 ≤ q.num) (rq : roomy q) (B : Nat) : LenErr ⟨T a.x, T a.y, T a.z⟩ B 4 ∨ ∃ c n, LenTerm ⟨T a.x, T a.y, T a.z⟩ B c n := by
 have hp : 0 < q.num := by
  have : q.num ≠ 0 := fun e => hz (Rat.num_eq_zero.1 e)
  omega
 have H := yeQ rq hp
 have c1 := fun w hB hT => ybQ fa hd H (hide (fun w hB hT => ycr rq h0 B w hB hT)) w hB hT
 have c2 := fun w hB hT => ybd (V := ⟨T a.x, T a.y, T a.z⟩) hz (hide (fun w hB hT => ya7 fa hd B w hB hT)) H (hide (fun w hB hT => ya5 rq h0 B w hB hT.pq)) w hB hT
 by_cases hE : termE (nC q) (nL q) = 0
 ·simp only [if_pos hE] at c1 c2
  exact .inr ⟨_, _, fun w hB hT => (c1 w hB hT).mono fun _ _ h => ycg h, fun w hB hT => (c2 w hB hT).mono fun _ _ h => ycg h⟩
 ·simp only [if_neg hE] at c1 c2
  have h4 : termE (nC q) (nL q) = 4 := by
   unfold termE at hE ⊢
   split
   ·rfl
   ·rename_i hh
    exact absurd (if_neg hh) hE
  rw [h4] at c1 c2
  exact .inl ⟨fun w hB hT => (c1 w hB hT).mono fun _ _ h => ycq h, fun w hB hT => (c2 w hB hT).mono fun _ _ h => ycq h⟩
theorem ydi (V : S3) (hV : midS V) (B : Nat) : (∃ E, LenErr V B E) ∨ ∃ c n, LenTerm V B c n := by
 by_cases h : chkV V = 0
 rotate_left
 ·exact .inl ⟨_, yh2 hV h B⟩
 obtain ⟨a, fa, rfl⟩ := jw h
 cases hd : dotO a a with
 |none => exact .inl ⟨_, ygV fa hd B⟩
 |some q =>
  have h0 : 0 ≤ q.num := Rat.num_nonneg.2 (by rw [(yd6 hd).1]; exact (ygb a).1)
  by_cases hz : q = 0
  ·subst hz
   exact .inl ⟨_, yhy fa hd B⟩
  ·by_cases rq : roomy q
   ·rcases yhw fa hd hz h0 rq B with h | h
    ·exact .inl ⟨_, h⟩
    ·exact .inr h
   ·exact .inl (yh4 fa hd hz rq B)
end Go.Proofs.YtklgpilgalfckaaGreatDoor
