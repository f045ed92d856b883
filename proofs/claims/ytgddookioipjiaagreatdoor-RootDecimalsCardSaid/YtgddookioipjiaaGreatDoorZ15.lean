/-
  Texts of the integers, laid together: Jh, Ji, Jc, Loop4, Jd, Je, Jf.
-/
import Derived.Test.YtgddookioipjiaaGreatDoorZ2
import Derived.Test.YtgddookioipjiaaGreatDoorZ9
import Derived.Test.YtgddookioipjiaaGreatDoorZ13
import Derived.Test.YtgddookioipjiaaGreatDoorZ14
namespace Go.Proofs.YtgddookioipjiaaGreatDoor
open Go.RowKit Go.KP Go.KI Go.Shelf
attribute [local go_sem] Oper.semAt_some

theorem sgnR_pos {q : Rat} (h : 0 < q.num) : sgnR q = 1 := cmpT_gt (pos_num h)
set_option maxRecDepth 100000 in
theorem runitErr_ok {q u : Rat} (rq : roomy q) (ru : roomy u) (hq : 0 ≤ q.num) (hu : 0 < u.num) (B : Nat) (w : World) (hB : B ≤ w.heap.size) (hT : PQ B w) :
    Calls Tryz.prog 71 #[.string (T q), .string (T u)] w (Ret w (.int .i64 0)) := by
  have X0 := hide (heap2 w (.cells #[.string (T q), .string (T u)] 22) (.cells #[.string (T q)] 22))
  have HC := hide (rCheck_ok w.heap.size (w.heap.size + 1) [q, u] [q] (by simp) (by simp) (fun x hx => by simp at hx; rcases hx with rfl | rfl; exact rq; exact ru) (fun x hx => by simp at hx; subst hx; omega) B _ (nums2 X0.out.1) (nums1 X0.out.2.1) (Nat.le_trans hB X0.out.2.2.2.size) (hT.on X0.out.2.2.2 hB))
  have HS := hide (fun w => rSign_T u w)
  rw [sgnR_pos hu] at HS
  generalize T q = X at *
  generalize T u = Y at *
  clear rq ru hq hu hT
  go_enter Tryz.func71, Tryz.ntmps71
  go_wp2_with fail
  refine HC.out.mono ?_
  rintro e w1 ⟨rfl, hb1⟩
  have HB1 := hide (X0.out.2.2.2.trans (hb1.mono X0.out.2.2.2.size))
  clear hb1
  go_wp2_with fail
  refine (HS.out _).mono ?_
  rintro e w2 ⟨rfl, rfl⟩
  go_wp2_with fail
  go_ret
  exact ⟨rfl, HB1.out⟩
theorem units_fits {q u : Rat} {f : Nat} (rq : roomy q) (ru : roomy u) (hf : f < 10) : unitsN q u f < 10 ^ 136 := unitsN_lt (roomy_sz rq) (roomy_sz ru) hf (by omega)
theorem iB_lit (n : Nat) (l : List UInt8) (h : Lib.decDigits n = l) : iB (n : Int) = strB l := by
  unfold iB
  rw [Lib.itoa_nonneg, h]
theorem lit4 : iB ((4 : Nat) : Int) = ⟨#[52]⟩ := iB_lit 4 [52] (by decide +kernel)
theorem lit1 : iB ((1 : Nat) : Int) = ⟨#[49]⟩ := iB_lit 1 [49] (by decide +kernel)
theorem lit2 : iB ((2 : Nat) : Int) = ⟨#[50]⟩ := iB_lit 2 [50] (by decide +kernel)
theorem mul_units {n : Nat} {u : Rat} (ru : roomy u) (h : n < 10 ^ 137) : fits (n : Int) ∧ mulC (((n : Nat) : Int) : Rat) u := by
  have s1 : sz 137 (((n : Nat) : Int) : Rat) := sz_natc h (by omega)
  exact ⟨fits_small (n := 137) (by rw [most_eq]; omega) (nat_abs_lt h), mulC_of s1 (roomy_sz ru) (by rw [most_eq]; omega)⟩
set_option maxRecDepth 100000 in
theorem rFloor_T {q u : Rat} (rq : roomy q) (ru : roomy u) (hq : 0 ≤ q.num) (hu : 0 < u.num) (B : Nat) (w : World) (hB : B ≤ w.heap.size) (hT : PQ B w) :
    Calls Tryz.prog 29 #[.string (T q), .string (T u)] w (Ret w (.tuple #[.string (T (floorR q u)), .int .i64 0])) := by
  have HT := hide hT
  have HE := hide (fun w hB hT => runitErr_ok rq ru hq hu B w hB hT)
  have HU := hide (fun w hB hT => runits_T (f := 1) rq ru hq hu (by omega) B w hB hT)
  have hn := units_fits (f := 1) rq ru (by omega)
  have g := mul_units ru (Nat.lt_trans hn ((Nat.pow_lt_pow_iff_right (by omega)).2 (by omega)))
  have HM := hide (fun w hB hT => rmultiple_T g.1 ru.1 g.2 B w hB hT)
  rw [lit1] at HU
  rw [show ((((unitsN q u 1 : Nat) : Int) : Rat) * u) = floorR q u from rfl] at HM
  generalize T (floorR q u) = Z at HM ⊢
  generalize iB ((unitsN q u 1 : Nat) : Int) = N at HU HM
  generalize T q = X at *
  generalize T u = Y at *
  clear rq ru hq hu hn g hT
  go_enter Tryz.func29, Tryz.ntmps29
  go_wp2_with fail
  refine (HE.out _ hB HT.out).mono ?_
  rintro e w1 ⟨rfl, hb1⟩
  have HB1 := hide hb1
  clear hb1
  go_wp2_with fail
  refine (HU.out _ (Nat.le_trans hB HB1.out.size) (HT.out.on HB1.out hB)).mono ?_
  rintro e w2 ⟨rfl, hb2⟩
  have HB2 := hide (HB1.out.trans (hb2.mono HB1.out.size))
  clear hb2
  go_wp2_with fail
  refine (HM.out _ (Nat.le_trans hB HB2.out.size) (HT.out.on HB2.out hB)).mono ?_
  rintro e w3 ⟨rfl, hb3⟩
  have HB3 := hide (HB2.out.trans (hb3.mono HB2.out.size))
  clear hb3
  go_wp2_with fail
  refine bodyPost_ret (results_tmp2 rfl _ _ _) rfl ?_
  exact ⟨rfl, HB3.out⟩
set_option maxRecDepth 100000 in
theorem rNearest_T {q u : Rat} (rq : roomy q) (ru : roomy u) (hq : 0 ≤ q.num) (hu : 0 < u.num) (B : Nat) (w : World) (hB : B ≤ w.heap.size) (hT : PQ B w) :
    Calls Tryz.prog 35 #[.string (T q), .string (T u)] w (Ret w (.tuple #[.string (T (nearR q u)), .int .i64 0])) := by
  have HT := hide hT
  have HE := hide (fun w hB hT => runitErr_ok rq ru hq hu B w hB hT)
  have HU := hide (fun w hB hT => runits_T (f := 4) rq ru hq hu (by omega) B w hB hT)
  have hn := units_fits (f := 4) rq ru (by omega)
  have h7 : (10 : Nat) ^ 137 = 10 ^ 136 * 10 := Nat.pow_succ ..
  have g0 := mul_units ru (n := unitsN q u 4) (by omega)
  have g1 := mul_units ru (n := unitsN q u 4 + 1) (by omega)
  have g := mul_units ru (n := (unitsN q u 4 + 1) / 2) (by omega)
  have e1 : ((unitsN q u 4 : Nat) : Int) + ((1 : Nat) : Int) = ((unitsN q u 4 + 1 : Nat) : Int) := by omega
  have HA := hide (fun w hB hT => pAdd_I g0.1 (y := ((1 : Nat) : Int)) fits_one (by rw [e1]; exact g1.1) B w hB hT)
  rw [e1] at HA
  have HQ := hide (fun w hB hT => rquot_I g1.1 (y := ((2 : Nat) : Int)) (fits_small (n := 1) (by rw [most_eq]; omega) (by decide)) (by omega) B w hB hT)
  rw [← Int.natCast_ediv] at HQ
  have HM := hide (fun w hB hT => rmultiple_T g.1 ru.1 g.2 B w hB hT)
  rw [lit4] at HU
  rw [lit1] at HA
  rw [lit2] at HQ
  rw [show (((((unitsN q u 4 + 1) / 2 : Nat) : Int) : Rat) * u) = nearR q u from rfl] at HM
  generalize T (nearR q u) = Z at HM ⊢
  generalize iB (((unitsN q u 4 + 1) / 2 : Nat) : Int) = N2 at HQ HM
  generalize iB (((unitsN q u 4 + 1 : Nat) : Int) % ((2 : Nat) : Int)) = N3 at HQ
  generalize iB ((unitsN q u 4 + 1 : Nat) : Int) = N1 at HA HQ
  generalize iB ((unitsN q u 4 : Nat) : Int) = N at HU HA
  generalize T q = X at *
  generalize T u = Y at *
  clear rq ru hq hu hn g g0 g1 h7 e1 hT
  go_enter Tryz.func35, Tryz.ntmps35
  go_wp2_with fail
  refine (HE.out _ hB HT.out).mono ?_
  rintro e w1 ⟨rfl, hb1⟩
  have HB1 := hide hb1
  clear hb1
  go_wp2_with fail
  refine (HU.out _ (Nat.le_trans hB HB1.out.size) (HT.out.on HB1.out hB)).mono ?_
  rintro e w2 ⟨rfl, hb2⟩
  have HB2 := hide (HB1.out.trans (hb2.mono HB1.out.size))
  clear hb2
  go_wp2_with fail
  refine (HA.out _ (Nat.le_trans hB HB2.out.size) (HT.out.p10.on HB2.out hB)).mono ?_
  rintro e w3 ⟨rfl, hb3⟩
  have HB3 := hide (HB2.out.trans (hb3.mono HB2.out.size))
  clear hb3
  go_wp2_with fail
  refine (HQ.out _ (Nat.le_trans hB HB3.out.size) (HT.out.p10.on HB3.out hB)).mono ?_
  rintro e w4 ⟨rfl, hb4⟩
  have HB4 := hide (HB3.out.trans (hb4.mono HB3.out.size))
  clear hb4
  go_wp2_with fail
  refine (HM.out _ (Nat.le_trans hB HB4.out.size) (HT.out.on HB4.out hB)).mono ?_
  rintro e w5 ⟨rfl, hb5⟩
  have HB5 := hide (HB4.out.trans (hb5.mono HB4.out.size))
  clear hb5
  go_wp2_with fail
  refine bodyPost_ret (results_tmp2 rfl _ _ _) rfl ?_
  exact ⟨rfl, HB5.out⟩
end Go.Proofs.YtgddookioipjiaaGreatDoor
namespace Go.KI
open Go
/-- What pairs compare by. -/
def cmpP (a b c d : Int) : Int := Lib.compareInt (a * d) (c * b)
theorem cmpI_cases (x y : Int) : (x < y ∧ Lib.compareInt x y = -1) ∨ (x = y ∧ Lib.compareInt x y = 0) ∨ (y < x ∧ Lib.compareInt x y = 1) := by
  unfold Lib.compareInt
  by_cases h : x < y
  · exact .inl ⟨h, if_pos h⟩
  · by_cases h2 : y < x
    · exact .inr (.inr ⟨h2, by rw [if_neg h, if_pos h2]⟩)
    · exact .inr (.inl ⟨by omega, by rw [if_neg h, if_neg h2]⟩)
theorem cmpI_lt {x y : Int} (h : x < y) : Lib.compareInt x y = -1 := by rcases cmpI_cases x y with ⟨_, h2⟩ | ⟨h1, _⟩ | ⟨h1, _⟩ <;> omega
theorem cmpI_gt {x y : Int} (h : y < x) : Lib.compareInt x y = 1 := by rcases cmpI_cases x y with ⟨h1, _⟩ | ⟨h1, _⟩ | ⟨_, h2⟩ <;> omega
theorem cmpI_same (x : Int) : Lib.compareInt x x = 0 := by rcases cmpI_cases x x with ⟨h1, _⟩ | ⟨_, h2⟩ | ⟨h1, _⟩ <;> omega
/-- Whole parts that differ decide. -/
theorem cmpP_whole {a b c d : Int} (hb : 0 < b) (hd : 0 < d) (h : Lib.compareInt (a / b) (c / d) ≠ 0) : cmpP a b c d = Lib.compareInt (a / b) (c / d) := by
  have e1 := Int.emod_add_mul_ediv a b
  have e2 := Int.emod_add_mul_ediv c d
  have m1 := Int.emod_nonneg a (show b ≠ 0 by omega)
  have m2 := Int.emod_lt_of_pos a hb
  have m3 := Int.emod_nonneg c (show d ≠ 0 by omega)
  have m4 := Int.emod_lt_of_pos c hd
  unfold cmpP
  generalize a / b = x at *
  generalize c / d = y at *
  generalize a % b = r at *
  generalize c % d = s at *
  rcases cmpI_cases x y with ⟨h1, h2⟩ | ⟨h1, h2⟩ | ⟨h1, h2⟩
  · rw [h2]
    refine cmpI_lt ?_
    have k1 : b * (x + 1) ≤ b * y := Int.mul_le_mul_of_nonneg_left (by omega) (by omega)
    rw [Int.mul_add, Int.mul_one] at k1
    have k3 : a < b * y := by omega
    have k2 : a * d < b * y * d := Int.mul_lt_mul_of_pos_right k3 hd
    have k4 : d * y ≤ c := by omega
    have k5 : d * y * b ≤ c * b := Int.mul_le_mul_of_nonneg_right k4 (by omega)
    have e : d * y * b = b * y * d := by grind
    omega
  · exact absurd h2 h
  · rw [h2]
    refine cmpI_gt ?_
    have k1 : d * (y + 1) ≤ d * x := Int.mul_le_mul_of_nonneg_left (by omega) (by omega)
    rw [Int.mul_add, Int.mul_one] at k1
    have k3 : c < d * x := by omega
    have k2 : c * b < d * x * b := Int.mul_lt_mul_of_pos_right k3 hb
    have k4 : b * x ≤ a := by omega
    have k5 : b * x * d ≤ a * d := Int.mul_le_mul_of_nonneg_right k4 (by omega)
    have e : b * x * d = d * x * b := by grind
    omega
/-- Whole parts that are the same leave the rests, turned round. -/
theorem cmpP_rest {a b c d : Int} (h : Lib.compareInt (a / b) (c / d) = 0) : cmpP a b c d = Lib.compareInt (a % b * d) (c % d * b) := by
  have e1 := Int.emod_add_mul_ediv a b
  have e2 := Int.emod_add_mul_ediv c d
  have hq : a / b = c / d := by
    rcases cmpI_cases (a / b) (c / d) with ⟨_, h2⟩ | ⟨h1, _⟩ | ⟨_, h2⟩
    · omega
    · exact h1
    · omega
  rw [← hq] at e2
  unfold cmpP
  generalize a / b = x at *
  generalize a % b = r at *
  generalize c % d = s at *
  have k : a * d - c * b = r * d - s * b := by rw [← e1, ← e2]; grind
  generalize a * d = A at *
  generalize c * b = C at *
  generalize r * d = R at *
  generalize s * b = S at *
  rcases cmpI_cases R S with ⟨h1, h2⟩ | ⟨h1, h2⟩ | ⟨h1, h2⟩ <;> rw [h2]
  · exact cmpI_lt (by omega)
  · rw [show A = C by omega, cmpI_same]
  · exact cmpI_gt (by omega)
/-- What the rests decide. -/
theorem cmpP_ends {a b c d : Int} (hb : 0 < b) (hd : 0 < d) (h : Lib.compareInt (a / b) (c / d) = 0) :
    (a % b = 0 → c % d = 0 → cmpP a b c d = 0) ∧ (a % b = 0 → c % d ≠ 0 → cmpP a b c d = -1) ∧ (a % b ≠ 0 → c % d = 0 → cmpP a b c d = 1) ∧ cmpP a b c d = cmpP d (c % d) b (a % b) := by
  have m1 := Int.emod_nonneg a (show b ≠ 0 by omega)
  have m3 := Int.emod_nonneg c (show d ≠ 0 by omega)
  rw [cmpP_rest h]
  refine ⟨fun h1 h2 => ?_, fun h1 h2 => ?_, fun h1 h2 => ?_, ?_⟩
  · rw [h1, h2, Int.zero_mul, Int.zero_mul]; rfl
  · rw [h1, Int.zero_mul]
    exact cmpI_lt (Int.mul_pos (by omega) hb)
  · rw [h2, Int.zero_mul]
    exact cmpI_gt (Int.mul_pos (by omega) hd)
  · unfold cmpP
    rw [Int.mul_comm d, Int.mul_comm b]
end Go.KI
namespace Go.Proofs.YtgddookioipjiaaGreatDoor
open Go.RowKit Go.KP Go.KI Go.Shelf
attribute [local go_sem] Oper.semAt_some

/-- The number in a pair's second cell. -/
def boxD (bx : Nat) (W : World) : Nat := match W.heap[bx]? with | some (.cells cs _ _) => (match cs[1]? with | some (Value.string s) => (valI s.data.toList).toNat | _ => 0) | _ => 0
theorem boxD_of {bx : Nat} {W : World} {n : ByteArray} {r : Int} (h : W.heap[bx]? = some (rpairO n (iB r))) : boxD bx W = r.toNat := by
  unfold boxD
  rw [h]
  show (valI (iB r).data.toList).toNat = r.toNat
  rw [iB_list, val_itoa]
/-- Both pairs while they are compared. -/
def CmpSt (b2 b3 : Nat) (T0 : Int) (N : Nat) (w0 W : World) : Prop :=
  ∃ a b c d : Int, W.heap[b2]? = some (rpairO (iB a) (iB b)) ∧ W.heap[b3]? = some (rpairO (iB c) (iB d)) ∧ 0 ≤ a ∧ 0 < b ∧ 0 ≤ c ∧ 0 < d ∧ a.natAbs ≤ N ∧ b.natAbs ≤ N ∧ c.natAbs ≤ N ∧ d.natAbs ≤ N ∧ cmpP a b c d = T0 ∧ Below w0.heap.size w0 W
set_option maxRecDepth 100000 in
set_option maxHeartbeats 16000000 in
theorem rcompare_I {a b c d : Int} {N : Nat} (a0 : 0 ≤ a) (b0 : 0 < b) (c0 : 0 ≤ c) (d0 : 0 < d) (na : a.natAbs ≤ N) (nb : b.natAbs ≤ N) (nc : c.natAbs ≤ N) (nd : d.natAbs ≤ N) (hN : fits (N : Int)) (B : Nat) (w : World) (hB : B ≤ w.heap.size) (hT : P10 B w) :
    Calls Tryz.prog 67 #[rpairV (iB a) (iB b), rpairV (iB c) (iB d)] w (Ret w (.int .i64 (cmpP a b c d))) := by
  have HT := hide hT
  have FN : Hid (∀ z : Int, z.natAbs ≤ N → fits z) := hide (fun z hz => fits_of_le hN (by rw [Int.natAbs_natCast]; exact hz))
  obtain ⟨T0, hT0⟩ : ∃ T, T = cmpP a b c d := ⟨_, rfl⟩
  have X0 := hide (heap2 w (rpairO (iB a) (iB b)) (rpairO (iB c) (iB d)))
  have HI : Hid (CmpSt w.heap.size (w.heap.size + 1) T0 N w ((w.alloc (rpairO (iB a) (iB b))).alloc (rpairO (iB c) (iB d)))) := hide ⟨a, b, c, d, X0.out.1, X0.out.2.1, a0, b0, c0, d0, na, nb, nc, nd, hT0.symm, X0.out.2.2.2⟩
  rw [← hT0]
  generalize iB a = A at *
  generalize iB b = A2 at *
  generalize iB c = C at *
  generalize iB d = C2 at *
  clear a0 b0 c0 d0 na nb nc nd hN hT hT0
  go_enter Tryz.func67, Tryz.ntmps67
  go_wp2_with fail
  clear X0
  go_loopw [] (fun wr => Hid (CmpSt w.heap.size (w.heap.size + 1) T0 N w wr)) (fun wr => boxD w.heap.size wr + boxD (w.heap.size + 1) wr)
  case atStart => exact HI
  clear HI
  case round =>
    obtain ⟨a, b, c, d, g2, g3, a0, b0, c0, d0, na, nb, nc, nd, ht, hbw⟩ := hrel.out
    have HM0 := hide (show boxD w.heap.size wr + boxD (w.heap.size + 1) wr = b.toNat + d.toNat by rw [boxD_of g2, boxD_of g3])
    have H1 := hide (fun w hB hT => rquot_I (FN.out a na) (FN.out b nb) b0 B w hB hT)
    have H2 := hide (fun w hB hT => rquot_I (FN.out c nc) (FN.out d nd) d0 B w hB hT)
    have q1 := Int.natAbs_ediv_le_natAbs a b
    have q2 := Int.natAbs_ediv_le_natAbs c d
    have m1 := Int.emod_nonneg a (show b ≠ 0 by omega)
    have m2 := Int.emod_lt_of_pos a b0
    have m3 := Int.emod_nonneg c (show d ≠ 0 by omega)
    have m4 := Int.emod_lt_of_pos c d0
    have H3 := hide (fun w => pCompare_I (FN.out (a / b) (by omega)) (FN.out (c / d) (by omega)) w)
    have hz1 := iB_zero_test (a % b)
    have hz2 := iB_zero_test (c % d)
    have HW := hide (fun h => cmpP_whole (a := a) (c := c) b0 d0 h)
    have HE := hide (fun h => cmpP_ends (a := a) (c := c) b0 d0 h)
    rw [ht] at HW HE
    have hnext : Hid (a % b ≠ 0 → c % d ≠ 0 → Lib.compareInt (a / b) (c / d) = 0 → ∀ W, W.heap[w.heap.size]? = some (rpairO (iB d) (iB (c % d))) → W.heap[w.heap.size + 1]? = some (rpairO (iB b) (iB (a % b))) → Below w.heap.size w W → CmpSt w.heap.size (w.heap.size + 1) T0 N w W ∧ boxD w.heap.size W + boxD (w.heap.size + 1) W < b.toNat + d.toNat) := hide (fun h1 h2 h3 W e1 e2 e3 => ⟨⟨d, c % d, b, a % b, e1, e2, by omega, by omega, by omega, by omega, by omega, by omega, by omega, by omega, ((HE.out h3).2.2.2).symm, e3⟩, by rw [boxD_of e1, boxD_of e2]; omega⟩)
    have hr1 : (a % b = 0 ∧ decide (a % b = 0) = true) ∨ (a % b ≠ 0 ∧ decide (a % b = 0) = false) := by
      by_cases h : a % b = 0
      · exact .inl ⟨h, decide_eq_true h⟩
      · exact .inr ⟨h, decide_eq_false h⟩
    have hr2 : (c % d = 0 ∧ decide (c % d = 0) = true) ∨ (c % d ≠ 0 ∧ decide (c % d = 0) = false) := by
      by_cases h : c % d = 0
      · exact .inl ⟨h, decide_eq_true h⟩
      · exact .inr ⟨h, decide_eq_false h⟩
    generalize decide (a % b = 0) = t1 at hz1 hr1
    generalize decide (c % d = 0) = t2 at hz2 hr2
    generalize iB (a % b) = RT at *
    generalize iB (c % d) = ST at *
    generalize iB (a / b) = Q1 at *
    generalize iB (c / d) = Q2 at *
    generalize iB a = A at *
    generalize iB b = A2 at *
    generalize iB c = C at *
    generalize iB d = C2 at *
    generalize Lib.compareInt (a / b) (c / d) = k at *
    have HR1 := hide hr1
    have HR2 := hide hr2
    have G2 := hide g2
    have G3 := hide g3
    have HB0 := hide hbw
    obtain ⟨wo, hwo⟩ : ∃ wo, wo = wr := ⟨_, rfl⟩
    subst hwo
    clear g2 g3 a0 b0 c0 d0 na nb nc nd ht hbw hrel q1 q2 m1 m2 m3 m4 hr1 hr2
    have k0 := cell_blk G2.out 0
    have k1 := cell_blk G2.out 1
    have kl := lt_blk G2.out
    go_wp2_with fail
    refine (H1.out _ (Nat.le_trans hB HB0.out.size) (HT.out.on HB0.out hB)).mono ?_
    rintro e w1 ⟨rfl, hb1⟩
    have G2 := hide (below_blk hb1 G2.out (lt_blk G2.out))
    have G3 := hide (below_blk hb1 G3.out (lt_blk G3.out))
    have HB1 := hide (HB0.out.trans (hb1.mono HB0.out.size))
    clear hb1 k0 k1 kl
    have k0 := cell_blk G3.out 0
    have k1 := cell_blk G3.out 1
    have kl := lt_blk G3.out
    go_wp2_with fail
    refine (H2.out _ (Nat.le_trans hB HB1.out.size) (HT.out.on HB1.out hB)).mono ?_
    rintro e w2 ⟨rfl, hb2⟩
    have G2 := hide (below_blk hb2 G2.out (lt_blk G2.out))
    have G3 := hide (below_blk hb2 G3.out (lt_blk G3.out))
    have HB2 := hide (HB1.out.trans (hb2.mono HB1.out.size))
    clear hb2 k0 k1 kl
    go_wp2_with fail
    refine (H3.out _).mono ?_
    rintro e w3 ⟨rfl, hb3⟩
    have G2 := hide (below_blk hb3 G2.out (lt_blk G2.out))
    have G3 := hide (below_blk hb3 G3.out (lt_blk G3.out))
    have HB3 := hide (HB2.out.trans (hb3.mono HB2.out.size))
    clear hb3
    by_cases hk : k = 0
    rotate_left
    · have hkb : (k == 0) = false := by simpa using hk
      have E := hide (HW.out hk)
      clear hk
      go_wp2_with fail
      go_ret
      exact ⟨by rw [E.out]; rfl, HB3.out⟩
    have HK := hide hk
    have EE := hide (HE.out hk)
    subst hk
    rcases HR1.out with ⟨h1, rfl⟩ | ⟨h1, rfl⟩ <;> rcases HR2.out with ⟨h2, rfl⟩ | ⟨h2, rfl⟩
    · have E := hide (EE.out.1 h1 h2)
      clear h1 h2
      go_wp2_with fail
      go_ret
      exact ⟨by rw [E.out]; rfl, HB3.out⟩
    · have E := hide (EE.out.2.1 h1 h2)
      clear h1 h2
      go_wp2_with fail
      go_ret
      exact ⟨by rw [E.out]; rfl, HB3.out⟩
    · have E := hide (EE.out.2.2.1 h1 h2)
      clear h1 h2
      go_wp2_with fail
      go_ret
      exact ⟨by rw [E.out]; rfl, HB3.out⟩
    · have HN := hide (hnext.out h1 h2 HK.out)
      clear h1 h2 hnext
      have k0 := cell_blk G2.out 0
      have k1 := cell_blk G2.out 1
      have kl := lt_blk G2.out
      have m0 := cell_blk G3.out 0
      have m1 := cell_blk G3.out 1
      have ml := lt_blk G3.out
      have f0 := froz_blk G2.out 0
      have f1 := froz_blk G2.out 1
      have g0 := froz_blk G3.out 0
      have g1 := froz_blk G3.out 1
      go_wp2_with fail
      have N2 := set2 G2.out (.string C2) (.string ST)
      have N3 := set_oth (c := w.heap.size) (o := 1) (set_oth (c := w.heap.size) (o := 0) G3.out (by omega) (.string C2)) (by omega) (.string ST)
      have N4 := set2 N3 (.string A2) (.string RT)
      have N5 := set_oth (c := w.heap.size + 1) (o := 1) (set_oth (c := w.heap.size + 1) (o := 0) N2.1 (by omega) (.string A2)) (by omega) (.string RT)
      have HF := hide (HN.out _ N5 N4.1 ((((HB3.out.setCell (p := ⟨w.heap.size, 0, none⟩) (Nat.le_refl _) (.string C2)).setCell (p := ⟨w.heap.size, 1, none⟩) (Nat.le_refl _) (.string ST)).setCell (p := ⟨w.heap.size + 1, 0, none⟩) (Nat.le_succ _) (.string A2)).setCell (p := ⟨w.heap.size + 1, 1, none⟩) (Nat.le_succ _) (.string RT)))
      clear N2 N3 N4 N5 k0 k1 kl m0 m1 ml f0 f1 g0 g1
      go_roundw
      case rel => exact hide HF.out.1
      case measure => rw [HM0.out]; exact HF.out.2
end Go.Proofs.YtgddookioipjiaaGreatDoor
namespace Go.KI
open Go
/-- The steps with one prime: what is left behind each. -/
def steps1 (q : Nat) : Nat → Nat → List (Nat × Nat)
  | 0, _ => []
  | f + 1, m => if m % (q * q) = 0 then (q, m / (q * q)) :: steps1 q f (m / (q * q)) else []
theorem steps1_more {q : Nat} (hq : 2 ≤ q) : ∀ (f g m : Nat), 0 < m → m ≤ f → m ≤ g → steps1 q f m = steps1 q g m := by
  intro f
  induction f with
  | zero => intro g m h1 h2; omega
  | succ f ih =>
    intro g m h1 h2 h3
    obtain ⟨g, rfl⟩ : ∃ g', g = g' + 1 := ⟨g - 1, by omega⟩
    unfold steps1
    split
    · next h =>
      obtain ⟨a, b⟩ := strip_less hq h1 h
      rw [ih g _ a (by omega) (by omega)]
    · rfl
def lastM (l : List (Nat × Nat)) (m : Nat) : Nat := match l.getLast? with | some s => s.2 | none => m
theorem lastM_cons (s : Nat × Nat) (l : List (Nat × Nat)) (m : Nat) : lastM (s :: l) m = lastM l s.2 := by
  unfold lastM
  cases l with
  | nil => rfl
  | cons a b => rw [List.getLast?_cons_cons]; cases h : (a :: b).getLast? with
    | none => simp at h
    | some x => rfl
/-- All steps, prime after prime. -/
def stepsAll : List Nat → Nat → List (Nat × Nat)
  | [], _ => []
  | q :: l, m => steps1 q m m ++ stepsAll l (lastM (steps1 q m m) m)
/-- What is still to come at prime i, m left. -/
def remS (i m : Nat) : List (Nat × Nat) := stepsAll (primes25.drop i) m
theorem remS_end (m : Nat) : remS 25 m = [] := rfl
theorem remS_eq {i : Nat} (h : i < 25) (m : Nat) : remS i m = steps1 (primes25.getD i 0) m m ++ remS (i + 1) (lastM (steps1 (primes25.getD i 0) m m) m) := by
  unfold remS
  have e : primes25.drop i = primes25.getD i 0 :: primes25.drop (i + 1) := by
    rw [List.drop_eq_getElem_cons (by exact h)]
    congr 1
    rw [List.getD_eq_getElem?_getD, List.getElem?_eq_getElem h]
    rfl
  rw [e]
  rfl
theorem remS_step {i m : Nat} (h : i < 25) (hq : 2 ≤ primes25.getD i 0) (hm : 0 < m) (hd : m % (primes25.getD i 0 * primes25.getD i 0) = 0) :
    remS i m = (primes25.getD i 0, m / (primes25.getD i 0 * primes25.getD i 0)) :: remS i (m / (primes25.getD i 0 * primes25.getD i 0)) := by
  rw [remS_eq h m, remS_eq h (m / _)]
  generalize primes25.getD i 0 = q at hq hd ⊢
  obtain ⟨a, b⟩ := strip_less hq hm hd
  have e : steps1 q m m = (q, m / (q * q)) :: steps1 q (m / (q * q)) (m / (q * q)) := by
    obtain ⟨f, rfl⟩ : ∃ f, m = f + 1 := ⟨m - 1, by omega⟩
    conv => lhs; unfold steps1
    rw [if_pos hd, steps1_more hq f _ _ a (by omega) (Nat.le_refl _)]
  rw [e, lastM_cons]
  rfl
theorem remS_next {i m : Nat} (h : i < 25) (hm : 0 < m) (hd : ¬ m % (primes25.getD i 0 * primes25.getD i 0) = 0) : remS i m = remS (i + 1) m := by
  rw [remS_eq h m]
  obtain ⟨f, hf⟩ : ∃ f, m = f + 1 := ⟨m - 1, by omega⟩
  have e : steps1 (primes25.getD i 0) m m = [] := by
    conv => lhs; rw [hf]; unfold steps1
    rw [← hf, if_neg hd]
  rw [e]
  rfl
/-- All steps of an integer. -/
def allS (m : Nat) : List (Nat × Nat) := remS 0 m
/-- What a step passes. -/
def stepAt (m k : Nat) : Nat × Nat := (allS m).getD k (0, 0)
/-- The product of the first k primes, what is left behind them. -/
def prodK (m k : Nat) : Nat := ((allS m).take k).foldl (fun c s => c * s.1) 1
def leftK (m k : Nat) : Nat := lastM ((allS m).take k) m
theorem foldl_strip {q : Nat} (hq : 2 ≤ q) : ∀ (f c m : Nat), 0 < m → m ≤ f → ((steps1 q f m).foldl (fun c s => c * s.1) c, lastM (steps1 q f m) m) = strip q f c m := by
  intro f
  induction f with
  | zero => intro c m h1 h2; omega
  | succ f ih =>
    intro c m h1 h2
    unfold steps1 strip
    split
    · next h =>
      obtain ⟨a, b⟩ := strip_less hq h1 h
      rw [List.foldl_cons, lastM_cons]
      exact ih (c * q) (m / (q * q)) a (by omega)
    · rfl
theorem lastM_append (l r : List (Nat × Nat)) (m : Nat) : lastM (l ++ r) m = lastM r (lastM l m) := by
  induction l generalizing m with
  | nil => rfl
  | cons a l ih => rw [List.cons_append, lastM_cons, lastM_cons, ih]
theorem foldl_strips : ∀ (l : List Nat) (c m : Nat), (∀ q ∈ l, 2 ≤ q) → 0 < m → 0 < c → ((stepsAll l m).foldl (fun c s => c * s.1) c, lastM (stepsAll l m) m) = strips l c m := by
  intro l
  induction l with
  | nil => intro c m _ _ _; rfl
  | cons q l ih =>
    intro c m hl hm hc
    have hq := hl q (by simp)
    have h1 := foldl_strip hq m c m hm (Nat.le_refl _)
    have hs := stripD_spec hq m c m (Nat.le_refl _) hm hc
    unfold stepsAll strips
    rw [List.foldl_append, lastM_append]
    have e1 : (steps1 q m m).foldl (fun c s => c * s.1) c = (stripD q c m).1 := congrArg Prod.fst h1
    have e2 : lastM (steps1 q m m) m = (stripD q c m).2 := congrArg Prod.snd h1
    rw [e1, e2]
    exact ih _ _ (fun x hx => hl x (by simp [hx])) hs.2.1 hs.2.2.2.2
theorem strips_all {m : Nat} (hm : 0 < m) : (prodK m (allS m).length, leftK m (allS m).length) = strips primes25 1 m := by
  unfold prodK leftK
  rw [List.take_length]
  exact foldl_strips primes25 1 m (by decide) hm (by omega)
theorem prodK_zero (m : Nat) : prodK m 0 = 1 ∧ leftK m 0 = m := ⟨rfl, rfl⟩
theorem prodK_succ {m k : Nat} (h : k < (allS m).length) : prodK m (k + 1) = prodK m k * (stepAt m k).1 ∧ leftK m (k + 1) = (stepAt m k).2 := by
  unfold prodK leftK stepAt
  have e : (allS m).take (k + 1) = (allS m).take k ++ [(allS m).getD k (0, 0)] := by
    rw [List.take_add_one, List.getElem?_eq_getElem h, List.getD_eq_getElem?_getD, List.getElem?_eq_getElem h]
    rfl
  rw [e, List.foldl_append, lastM_append]
  exact ⟨rfl, rfl⟩
theorem drop_at {m k : Nat} {s : Nat × Nat} {r : List (Nat × Nat)} (h : (allS m).drop k = s :: r) : k < (allS m).length ∧ stepAt m k = s ∧ (allS m).drop (k + 1) = r := by
  have hl : k < (allS m).length := by
    rcases Nat.lt_or_ge k (allS m).length with h1 | h1
    · exact h1
    · rw [List.drop_eq_nil_of_le h1] at h
      cases h
  rw [List.drop_eq_getElem_cons hl] at h
  injection h with h1 h2
  refine ⟨hl, ?_, h2⟩
  unfold stepAt
  rw [List.getD_eq_getElem?_getD, List.getElem?_eq_getElem hl]
  exact h1
theorem drop_end {m k : Nat} (hk : k ≤ (allS m).length) (h : (allS m).drop k = []) : k = (allS m).length := by
  have := congrArg List.length h
  rw [List.length_drop] at this
  simp at this
  omega
/-- Each step divides by a square. -/
def ChainS : Nat → List (Nat × Nat) → Prop
  | _, [] => True
  | m, s :: r => s.2 * (s.1 * s.1) = m ∧ 0 < s.1 ∧ 0 < s.2 ∧ ChainS s.2 r
theorem chain_append : ∀ (l r : List (Nat × Nat)) (m : Nat), ChainS m l → ChainS (lastM l m) r → ChainS m (l ++ r) := by
  intro l
  induction l with
  | nil => intro r m _ h; exact h
  | cons a l ih =>
    intro r m h1 h2
    rw [lastM_cons] at h2
    exact ⟨h1.1, h1.2.1, h1.2.2.1, ih r a.2 h1.2.2.2 h2⟩
theorem chain_steps1 {q : Nat} (hq : 2 ≤ q) : ∀ (f m : Nat), 0 < m → ChainS m (steps1 q f m) := by
  intro f
  induction f with
  | zero => intro m _; trivial
  | succ f ih =>
    intro m hm
    unfold steps1
    split
    · next h =>
      obtain ⟨a, b⟩ := strip_less hq hm h
      refine ⟨?_, by show 0 < q; omega, a, ih _ a⟩
      show m / (q * q) * (q * q) = m
      have := Nat.div_add_mod m (q * q)
      rw [h, Nat.add_zero, Nat.mul_comm] at this
      exact this
    · trivial
theorem chain_last : ∀ (l : List (Nat × Nat)) (m : Nat), 0 < m → ChainS m l → 0 < lastM l m := by
  intro l
  induction l with
  | nil => intro m h _; exact h
  | cons a l ih =>
    intro m _ h
    rw [lastM_cons]
    exact ih _ h.2.2.1 h.2.2.2
theorem chain_all : ∀ (l : List Nat) (m : Nat), (∀ q ∈ l, 2 ≤ q) → 0 < m → ChainS m (stepsAll l m) := by
  intro l
  induction l with
  | nil => intro m _ _; trivial
  | cons q l ih =>
    intro m hl hm
    have hq := hl q (by simp)
    have h1 := chain_steps1 hq m m hm
    exact chain_append _ _ _ h1 (ih _ (fun x hx => hl x (by simp [hx])) (chain_last _ _ hm h1))
theorem chain_prod : ∀ (l : List (Nat × Nat)) (m c k : Nat), 0 < m → 0 < c → ChainS m l →
    (l.take k).foldl (fun c s => c * s.1) c * (l.take k).foldl (fun c s => c * s.1) c * lastM (l.take k) m = c * c * m ∧ 0 < lastM (l.take k) m ∧ 0 < (l.take k).foldl (fun c s => c * s.1) c := by
  intro l
  induction l with
  | nil => intro m c k hm hc _; rw [List.take_nil]; exact ⟨rfl, hm, hc⟩
  | cons a l ih =>
    intro m c k hm hc h
    cases k with
    | zero => exact ⟨rfl, hm, hc⟩
    | succ k =>
      rw [List.take_succ_cons, List.foldl_cons, lastM_cons]
      obtain ⟨i1, i2, i3⟩ := ih a.2 (c * a.1) k h.2.2.1 (Nat.mul_pos hc h.2.1) h.2.2.2
      refine ⟨?_, i2, i3⟩
      rw [i1, ← h.1]
      grind
theorem prodK_law {m : Nat} (hm : 0 < m) (k : Nat) : prodK m k * prodK m k * leftK m k = m ∧ 0 < leftK m k ∧ 0 < prodK m k := by
  have h := chain_prod (allS m) m 1 k hm (by omega) (chain_all primes25 m (by decide) hm)
  simp only [Nat.one_mul] at h
  exact h
theorem prodK_le {m : Nat} (hm : 0 < m) (k : Nat) : prodK m k ≤ m ∧ leftK m k ≤ m := by
  obtain ⟨h1, h2, h3⟩ := prodK_law hm k
  have a : prodK m k * 1 ≤ prodK m k * (prodK m k * leftK m k) := Nat.mul_le_mul (Nat.le_refl _) (Nat.mul_pos h3 h2)
  have b : 1 * leftK m k ≤ prodK m k * prodK m k * leftK m k := Nat.mul_le_mul (Nat.mul_pos h3 h3) (Nat.le_refl _)
  rw [← Nat.mul_assoc, h1] at a
  rw [h1] at b
  omega
theorem step_le {m k : Nat} (hm : 0 < m) (h : k < (allS m).length) : (stepAt m k).1 ≤ m := by
  have h1 := (prodK_le hm (k + 1)).1
  rw [(prodK_succ h).1] at h1
  have h3 := (prodK_law hm k).2.2
  have := Nat.mul_le_mul h3 (Nat.le_refl (stepAt m k).1)
  omega
/-- The normal form by steps. -/
theorem normN_steps {m : Nat} (hm : 0 < m) : normN m = if sqI (leftK m (allS m).length) = true then (prodK m (allS m).length * rootN (leftK m (allS m).length), 1) else (prodK m (allS m).length, leftK m (allS m).length) := by
  unfold normN closeN
  rw [← strips_all hm]
  unfold sqI
  by_cases h : rootN (leftK m (allS m).length) * rootN (leftK m (allS m).length) = leftK m (allS m).length
  · rw [if_pos h, if_pos (decide_eq_true h)]
  · rw [if_neg h, if_neg (by simpa using h)]
end Go.KI
namespace Go.KP
open Go Go.RowKit

/-- From W to W2 nothing of S, and nothing below B but in O, has turned. -/
structure QuietO (O : Nat → Prop) (B : Nat) (S : Nat → Prop) (W W2 : World) : Prop where
  os : W2.os = W.os
  tape : W2.tape = W.tape
  output : W2.output = W.output
  size : W.heap.size ≤ W2.heap.size
  block : ∀ b, ¬ O b → (b < B ∨ S b) → b < W.heap.size → W2.heap[b]? = W.heap[b]?
theorem Quiet.toO {B : Nat} {S : Nat → Prop} {W W2 : World} (h : Quiet B S W W2) (O : Nat → Prop) : QuietO O B S W W2 :=
  ⟨h.os, h.tape, h.output, h.size, fun b _ hb hl => h.block b hb hl⟩
theorem QuietO.refl (O : Nat → Prop) (B : Nat) (S : Nat → Prop) (W : World) : QuietO O B S W W := ⟨rfl, rfl, rfl, Nat.le_refl _, fun _ _ _ _ => rfl⟩
theorem QuietO.trans {O : Nat → Prop} {B : Nat} {S : Nat → Prop} {a b c : World} (h : QuietO O B S a b) (k : QuietO O B S b c) : QuietO O B S a c :=
  ⟨k.os.trans h.os, k.tape.trans h.tape, k.output.trans h.output, Nat.le_trans h.size k.size, fun i hn hi hl => (k.block i hn hi (Nat.lt_of_lt_of_le hl h.size)).trans (h.block i hn hi hl)⟩
theorem QuietO.of_below {O : Nat → Prop} {B n : Nat} {S : Nat → Prop} {a w w2 : World} (h : QuietO O B S a w) (hb : Below n w w2) (hn : w.heap.size ≤ n) : QuietO O B S a w2 :=
  h.trans ⟨hb.os, hb.tape, hb.output, hb.size, fun b _ _ hl => hb.block b (by omega)⟩
theorem QuietO.set {O : Nat → Prop} {B : Nat} {S : Nat → Prop} {a w : World} (h : QuietO O B S a w) {p : Addr} (hp : O p.block) (u : Value) : QuietO O B S a (w.setCell p u) :=
  h.trans ⟨rfl, rfl, rfl, by simp [World.setCell], fun b hn _ _ => Below.heap_setCell _ _ _ _ (fun e => hn (by rw [e]; exact hp))⟩
/-- A caller's invariant that an iterator's own steps leave standing. -/
def StaysO (O : Nat → Prop) (B : Nat) (J : (Nat → Prop) → World → Prop) : Prop := ∀ S W W2, J S W → QuietO O B S W W2 → J S W2
variable {P : Program}

/-- **An iterator's contract, by numbered rounds**: round k is handed 'encs k', k < N; it asks 'Ke k' of the world behind k rounds; 'O': blocks that the iterator writes between its rounds, and the rounds leave. -/
def IterOwn (P : Program) (gf : Nat) (lb : Array Value) (encs : Nat → Array Value) (N : Nat) (Ke : Nat → World → Prop) (O : Nat → Prop) (w : World) : Prop :=
  ∀ (l : Nat) (J : Nat → (Nat → Prop) → World → Prop) (Jx : (Nat → Prop) → World → Prop) (W : World),
    (∀ b, O b → b < W.heap.size ∧ W.heap[b]? = w.heap[b]?) → (∀ k, StaysO O W.heap.size (J k)) → StaysO O W.heap.size Jx → (∀ k S W1, J k S W1 → ∀ b, S b → b < W1.heap.size) → (∀ k S W1, k ≤ N → J k S W1 → Ke k W1) →
    (∀ k S W1, k < N → J k S W1 → W.heap.size ≤ W1.heap.size →
      YieldAt Fence.wide 0 P l (encs k) W1 fun e W2 => ∃ S', Upd W.heap.size S S' W1 W2 ∧ (∀ b, O b → W2.heap[b]? = W1.heap[b]?) ∧
        ((e = .returned (.bool true) ∧ J (k + 1) S' W2) ∨ (e = .returned (.bool false) ∧ Jx S' W2))) →
    J 0 (fun _ => False) W →
    CallsIn Fence.wide 0 P gf (#[.func (.yield l) #[] #[]] ++ lb) W fun e W2 => (∃ v, e = .returned v) ∧ ∃ S, J N S W2 ∨ Jx S W2

/-- How the body of a round may be left. -/
def bodyEndO (B : Nat) (O : Nat → Prop) (I : (Nat → Prop) → World → Prop) (Ix : Code → (Nat → Prop) → World → Prop) (S : Nat → Prop) (W : World) : Exit → Act → World → Prop
  | .normal, _, W2 => ∃ S', Upd B S S' W W2 ∧ (∀ b, O b → W2.heap[b]? = W.heap[b]?) ∧ I S' W2
  | .ret, _, W2 => ∃ S', Upd B S S' W W2 ∧ (∀ b, O b → W2.heap[b]? = W.heap[b]?) ∧ Ix .ret S' W2
  | .exit id, _, W2 => ∃ S', Upd B S S' W W2 ∧ (∀ b, O b → W2.heap[b]? = W.heap[b]?) ∧ Ix (.exit id) S' W2
  | .goto t, _, W2 => ∃ S', Upd B S S' W W2 ∧ (∀ b, O b → W2.heap[b]? = W.heap[b]?) ∧ Ix (.goto t) S' W2
  | .panic _, _, _ => False
  | .outgrown, _, _ => False

/-- **The loop.** I k: what holds between two rounds, k of them over; Ix c: a round has left by the jump c. -/
theorem wp_iter_own {g : Operand} {ps : Array Tmp} {assign body : Code} {Q : Exit → Act → World → Prop} {a : Act} {w : World}
    {gf : Nat} {lb : Array Value} (hg : a.eval g = .func (.func gf) #[] lb) (eg : ∀ args w, (callFunc gf args).run P w = .ok (.enter gf args) w)
    {encs : Nat → Array Value} {N : Nat} {Ke : Nat → World → Prop} {O : Nat → Prop} {w0 : World} (hseq : IterOwn P gf lb encs N Ke O w0) (hO : ∀ b, O b → b < w.heap.size ∧ w.heap[b]? = w0.heap[b]?) (hps : ∀ k, (encs k).size = ps.size)
    (I : Nat → (Nat → Prop) → World → Prop) (Ix : Code → (Nat → Prop) → World → Prop) (hI : ∀ k, StaysO O w.heap.size (I k)) (hIx : ∀ c, StaysO O w.heap.size (Ix c)) (h0 : I 0 (fun _ => False) w) (hke : ∀ k S W, k ≤ N → I k S W → Ke k W)
    (Ax : Nat → (Nat → Prop) → Act → World → Prop)
    (hAx : ∀ k S a1 W l r r2, Ax k S a1 W → W.heap[l]? = some (.loop r) → Ax k S a1 (W.putObj l (.loop r2)))
    (hassign : ∀ (l k : Nat) (S : Nat → Prop) (W : World) (K : Act → World → Prop), w.heap.size ≤ W.heap.size → (∀ b, S b → b < W.heap.size) → (∀ a1 W1, Quiet w.heap.size S W W1 → Upd w.heap.size S S W W1 → Ax k S a1 W1 → K a1 W1) →
      assign.wpIn (Fence.wide.inRound l) 0 P (Exit.then K (fun _ _ _ => False)) { tmps := (ps.zip (encs k)).foldl (fun t (p, v) => t.setIfInBounds p v) a.tmps, defers := [] } W)
    (hS : ∀ k S W, I k S W → ∀ b, S b → b < W.heap.size)
    (hbody : ∀ (l k : Nat) (S : Nat → Prop) (a1 : Act) (W : World), k < N → I k S W → Ax k S a1 W → w.heap.size ≤ W.heap.size →
      body.wpIn (Fence.wide.inRound l) 0 P (bodyEndO w.heap.size O (I (k + 1)) Ix S W) a1 W)
    (hdone : ∀ (D : Nat) (S : Nat → Prop) (W : World), w.heap.size ≤ D → I N S W → W.heap[D]? = some (.deferred (some [])) → Q .normal { a with defers := { target := .collected D, args := #[] } :: a.defers } W)
    (hstop : ∀ (D : Nat) (c : Code) (S : Nat → Prop) (W : World), w.heap.size ≤ D → Ix c S W → W.heap[D]? = some (.deferred (some [])) → c.wpIn Fence.wide 0 P Q { a with defers := { target := .collected D, args := #[] } :: a.defers } W) :
    (Code.rangeFunc g ps assign body).wpIn Fence.wide 0 P Q a w := by
  refine wpIn_rangeFunc ?_
  intro fn _
  obtain ⟨rec, hrec⟩ : ∃ rec : LoopState → Option Code → Loop, rec = fun st pe => { state := st, pending := pe, fn, tmps := a.tmps, params := ps, assign, body, defers := w.heap.size } := ⟨_, rfl⟩
  obtain ⟨W1, hW1⟩ : ∃ W1, (w.alloc (.deferred (some []))).alloc (.loop (rec .ready none)) = W1 := ⟨_, rfl⟩
  have hL1 : W1.heap[w.heap.size + 1]? = some (.loop (rec .ready none)) := by
    rw [← hW1]; have h := World.alloc_heap_new (w.alloc (.deferred (some []))) (.loop (rec .ready none)); rwa [World.size_alloc] at h
  have hK1 : W1.heap[w.heap.size]? = some (.deferred (some [])) := by
    rw [← hW1]; exact (Below.heap_alloc _ _ _ (by simp)).trans (World.alloc_heap_new w _)
  have hq1 : Quiet w.heap.size (fun _ => False) w W1 := by rw [← hW1]; exact ((Quiet.refl _ _ w).alloc _).alloc _
  have hs1 : W1.heap.size = w.heap.size + 2 := by rw [← hW1]; simp
  have hn0 : ¬ O w.heap.size := fun h => by have := (hO _ h).1; omega
  have hn1 : ¬ O (w.heap.size + 1) := fun h => by have := (hO _ h).1; omega
  have hO1 : ∀ b, O b → b < W1.heap.size ∧ W1.heap[b]? = w0.heap[b]? := fun b hb => by
    obtain ⟨h1, h2⟩ := hO b hb
    exact ⟨by omega, (hq1.block b (.inl h1) h1).trans h2⟩
  have inner : ∀ (i : Nat) (S S' : Nat → Prop) (W W2 : World), w.heap.size ≤ i → i < w.heap.size + 2 → i < W.heap.size → ¬ S i → Upd w.heap.size S S' W W2 → W2.heap[i]? = W.heap[i]? ∧ ¬ S' i := fun i S S' W W2 h1 _ h3 h4 hu => hu.block i h1 h3 h4
  refine ⟨w.heap.size + 1, [{ target := .collected w.heap.size, args := #[] }], W1, { target := .fn (.func gf) lb, args := #[.func (.yield (w.heap.size + 1)) #[] #[]] }, W1, gf,
    #[.func (.yield (w.heap.size + 1)) #[] #[]] ++ lb, W1, ?_, ?_, ?_, ?_, fun h => by simp [Fence.wide] at h, ?_⟩
  · rw [← hW1, hrec]; exact run_enterLoop_outer _ _ _ _ _
  · simp only [resolve, hg]
    simp [go_sem]
  · exact fun _ _ => trivial
  · simp [invoke, go_sem, eg]
  · refine (hseq (w.heap.size + 1)
      (fun k S W => I k S W ∧ ¬ S w.heap.size ∧ ¬ S (w.heap.size + 1) ∧ W1.heap.size ≤ W.heap.size ∧ W.heap[w.heap.size + 1]? = some (.loop (rec .ready none)) ∧ W.heap[w.heap.size]? = some (.deferred (some [])))
      (fun S W => ∃ c, Ix c S W ∧ ¬ S w.heap.size ∧ ¬ S (w.heap.size + 1) ∧ W1.heap.size ≤ W.heap.size ∧ W.heap[w.heap.size + 1]? = some (.loop (rec .done (some c))) ∧ W.heap[w.heap.size]? = some (.deferred (some [])))
      W1 hO1 ?_ ?_ (fun k S W1 h => hS k S W1 h.1) (fun k S W1 hk h => hke k S W1 hk h.1) ?_ ⟨hI 0 _ _ _ h0 (hq1.toO O), fun h => h, fun h => h, Nat.le_refl _, hL1, hK1⟩).mono ?_
    · rintro k S W W2 ⟨hi, n1, n2, hsz, hl, hk⟩ hq
      have hw : w.heap.size + 1 < W.heap.size := (Array.getElem?_eq_some_iff.1 hl).1
      exact ⟨hI k _ _ _ hi ⟨hq.os, hq.tape, hq.output, hq.size, fun b hn hb hlt => hq.block b hn (hb.imp (fun h => by omega) id) hlt⟩, n1, n2, Nat.le_trans hsz hq.size,
        (hq.block _ hn1 (.inl (by omega)) hw).trans hl, (hq.block _ hn0 (.inl (by omega)) (by omega)).trans hk⟩
    · rintro S W W2 ⟨c, hi, n1, n2, hsz, hl, hk⟩ hq
      have hw : w.heap.size + 1 < W.heap.size := (Array.getElem?_eq_some_iff.1 hl).1
      exact ⟨c, hIx c _ _ _ hi ⟨hq.os, hq.tape, hq.output, hq.size, fun b hn hb hlt => hq.block b hn (hb.imp (fun h => by omega) id) hlt⟩, n1, n2, Nat.le_trans hsz hq.size,
        (hq.block _ hn1 (.inl (by omega)) hw).trans hl, (hq.block _ hn0 (.inl (by omega)) (by omega)).trans hk⟩
    · rintro k S W hkN ⟨hi, n1, n2, hsz, hl, hk⟩ _
      have hlt : w.heap.size + 1 < W.heap.size := (Array.getElem?_eq_some_iff.1 hl).1
      have hy := run_yield (P := P) (args := encs k) hl (by rw [hrec]; exact hps k)
      rw [hrec] at hy
      refine ⟨fn, _, assign, body, hy, roundIn_of_wpIn trivial (hassign _ k S W _ (by omega) (hS k S W hi) ?_)⟩
      intro a1 Wa hqa hua hax
      have hla := (inner (w.heap.size + 1) _ _ _ _ (by omega) (by omega) hlt n2 hua).1.trans hl
      have hka := (inner w.heap.size _ _ _ _ (by omega) (by omega) (by omega) n1 hua).1.trans hk
      have hsa := hua.size
      refine ⟨_, run_beginRound hla (by rw [hrec]), ?_⟩
      have hlt2 : w.heap.size + 1 < Wa.heap.size := by omega
      have hia := hI k _ _ _ hi (hqa.toO O)
      obtain ⟨W2, hW2⟩ : ∃ W2, Wa.putObj (w.heap.size + 1) (.loop { rec .ready none with state := .busy }) = W2 := ⟨_, rfl⟩
      have hq2 : Quiet w.heap.size S Wa W2 := by rw [← hW2]; exact putObj_quiet _ _ _ (by omega) n2
      have hax2 : Ax k S a1 W2 := by rw [← hW2]; exact hAx _ _ _ _ _ _ _ hax hla
      have hl2 : W2.heap[w.heap.size + 1]? = some (.loop { rec .ready none with state := .busy }) := by rw [← hW2]; exact World.putObj_heap_same hlt2
      have hk2 : W2.heap[w.heap.size]? = some (.deferred (some [])) := by rw [← hW2]; exact (World.putObj_heap_other (by omega)).trans hka
      have hs2 : W2.heap.size = Wa.heap.size := by rw [← hW2]; simp
      rw [hW2]
      refine wpIn_mono (hbody _ k S a1 W2 hkN (hI k _ _ _ hia (hq2.toO O)) hax2 (by omega)) ?_
      have fin : ∀ (jump : Option Code) (S' : Nat → Prop) (W3 : World), Upd w.heap.size S S' W2 W3 → (∀ b, O b → W3.heap[b]? = W2.heap[b]?) →
          ∃ W4, (Instr.endRound (w.heap.size + 1) jump).run P W3 = .ok (.bool jump.isNone) W4 ∧ Upd W1.heap.size S S' W W4 ∧ (∀ b, O b → W4.heap[b]? = W.heap[b]?) ∧ Quiet w.heap.size S' W3 W4 ∧
            ¬ S' w.heap.size ∧ ¬ S' (w.heap.size + 1) ∧ W1.heap.size ≤ W4.heap.size ∧
            W4.heap[w.heap.size + 1]? = some (.loop (rec (if jump.isNone then .ready else .done) jump)) ∧ W4.heap[w.heap.size]? = some (.deferred (some [])) := fun jump S' W3 hu ho3 => by
        have hl3 := (inner (w.heap.size + 1) _ _ _ _ (by omega) (by omega) (by omega) n2 hu)
        have hk3 := (inner w.heap.size _ _ _ _ (by omega) (by omega) (by omega) n1 hu)
        have hl4 := hl3.1.trans hl2
        have hs3 := hu.size
        have hr := run_endRound (P := P) jump hl4
        have e : ({ rec .ready none with state := if jump.isNone then LoopState.ready else LoopState.done, pending := jump } : Loop) = rec (if jump.isNone then .ready else .done) jump := by rw [hrec]
        simp only at hr
        rw [e] at hr
        have hq4 : Quiet w.heap.size S' W3 (W3.putObj (w.heap.size + 1) (.loop (rec (if jump.isNone then .ready else .done) jump))) := putObj_quiet _ _ _ (by omega) hl3.2
        refine ⟨_, hr, ⟨by simp; omega, fun b hB hlt' hs' => ?_⟩, fun b hb => ?_, hq4, hk3.2, hl3.2, by simp; omega, World.putObj_heap_same (by omega), (World.putObj_heap_other (by omega)).trans (hk3.1.trans hk2)⟩
        · obtain ⟨g1, g2⟩ := hua.block b (by omega) hlt' hs'
          obtain ⟨g3, g4⟩ := hu.block b (by omega) (by omega) g2
          refine ⟨(World.putObj_heap_other (by omega)).trans (g3.trans ?_), g4⟩
          rw [← hW2, World.putObj_heap_other (by omega)]
          exact g1
        · obtain ⟨h1, _⟩ := hO b hb
          refine (hq4.block b (.inl h1) (by omega)).trans ((ho3 b hb).trans ?_)
          exact (hq2.block b (.inl h1) (by omega)).trans (hqa.block b (.inl h1) (by omega))
      rintro e a3 W3 hp
      cases e with
      | normal =>
        obtain ⟨S', hu, ho3, hi3⟩ := hp
        obtain ⟨W4, hr, hu4, ho4, hq4, m1, m2, m3, hl4, hk4⟩ := fin none S' W3 hu ho3
        exact ⟨_, _, hr, S', hu4, ho4, .inl ⟨rfl, hI _ _ _ _ hi3 (hq4.toO O), m1, m2, m3, hl4, hk4⟩⟩
      | ret =>
        obtain ⟨S', hu, ho3, hi3⟩ := hp
        obtain ⟨W4, hr, hu4, ho4, hq4, m1, m2, m3, hl4, hk4⟩ := fin (some .ret) S' W3 hu ho3
        exact ⟨_, _, hr, S', hu4, ho4, .inr ⟨rfl, .ret, hIx _ _ _ _ hi3 (hq4.toO O), m1, m2, m3, hl4, hk4⟩⟩
      | exit id =>
        obtain ⟨S', hu, ho3, hi3⟩ := hp
        obtain ⟨W4, hr, hu4, ho4, hq4, m1, m2, m3, hl4, hk4⟩ := fin (some (.exit id)) S' W3 hu ho3
        exact ⟨_, _, hr, S', hu4, ho4, .inr ⟨rfl, .exit id, hIx _ _ _ _ hi3 (hq4.toO O), m1, m2, m3, hl4, hk4⟩⟩
      | goto t =>
        obtain ⟨S', hu, ho3, hi3⟩ := hp
        obtain ⟨W4, hr, hu4, ho4, hq4, m1, m2, m3, hl4, hk4⟩ := fin (some (.goto t)) S' W3 hu ho3
        exact ⟨_, _, hr, S', hu4, ho4, .inr ⟨rfl, .goto t, hIx _ _ _ _ hi3 (hq4.toO O), m1, m2, m3, hl4, hk4⟩⟩
      | panic ch => exact hp.elim
      | outgrown => exact hp.elim
    · rintro e W2 ⟨⟨v, rfl⟩, S, (⟨hi, n1, n2, hsz, hl, hk⟩ | ⟨c, hi, n1, n2, hsz, hl, hk⟩)⟩
      · refine ⟨none, _, by have h := run_endLoop (P := P) hl (by rw [hrec]; simp); rw [hrec] at h; exact h, ?_⟩
        exact hdone _ S _ (Nat.le_refl _) (hI _ _ _ _ hi ((putObj_quiet _ _ _ (by omega) n2).toO O)) ((World.putObj_heap_other (by omega)).trans hk)
      · refine ⟨some c, _, by have h := run_endLoop (P := P) hl (by rw [hrec]; simp); rw [hrec] at h; exact h, ?_⟩
        exact hstop _ c S _ (Nat.le_refl _) (hIx _ _ _ _ hi ((putObj_quiet _ _ _ (by omega) n2).toO O)) ((World.putObj_heap_other (by omega)).trans hk)
end Go.KP
namespace Go.KP
open Go
/-- A whole row is loaded, in a fence. -/
theorem in_load_row {P : Program} {F : Fence} {n : Nat} {ops : Array Oper} {rest : List Oper} {o : Oper} {a : Act} {w : World} {Q : Exit → Act → World → Prop} (hgd : o.guard = none) (ty : TypeId) (x : Operand) (ho : o.op = .load ty x)
    (g : Nat) (hx : a.eval x = .pointer (some ⟨g, 0, none⟩)) (t : TypeId) (cs : Array Value) (fr : Nat × Nat) (d : TypeDesc) (hg : w.heap[g]? = some (.cells cs t fr))
    (hu : P.underlying ty = some d) (hd : (match d with | .struct _ | .array _ _ => true | _ => false) = true) (hi : (P.info? ty).map (·.size) = some cs.size)
    (h : wpListIn F n P ops Q rest (a.put o.dst (.agg cs)) w) : wpListIn F n P ops Q (o :: rest) a w := by
  refine wpListIn_plain hgd fun K hK => ?_
  unfold Oper.wpIn
  refine ⟨?_, ?_⟩
  · simp [Oper.about, ho]
  · rw [Oper.semAt_plain F _ _ (by rw [ho]; intro c hc'; cases hc')]
    simp only [execOp, ho, hx, Instr.loadAt, Instr.sureAddr, Sem.run_bind, Sem.run_pure, Result.andThen_ok, run_loadVar_row w g t ty cs fr d hg hu hd hi]
    exact hK _ _ h
end Go.KP
namespace Go.Proofs.YtgddookioipjiaaGreatDoor
open Go.RowKit Go.KP Go.KI Go.Shelf
attribute [local go_sem] Oper.semAt_some

abbrev boxS (s : ByteArray) : Obj := .cells #[.string s] 9
theorem primeB_iB (k : Nat) : primeB k = iB ((primes25.getD k 0 : Nat) : Int) := by
  apply bytes_eq
  rw [iB_nonneg (by omega), Int.natAbs_natCast]
  exact strB_list _
set_option maxRecDepth 100000 in
theorem squares_any (s : ByteArray) (w : World) :
    Calls Tryz.prog 44 #[.string s] w (fun e w' => e = .returned (.func (.func 98) #[] #[.pointer (some ⟨w.heap.size, 0, none⟩)]) ∧ w' = w.alloc (boxS s)) := by
  go_enter Tryz.func44, Tryz.ntmps44
  go_wp2_with fail
  go_ret
  exact ⟨rfl, rfl⟩
/-- The number that a box holds. -/
def boxN (bx : Nat) (W : World) : Nat := match W.heap[bx]? with | some (.cells cs _ _) => (match cs[0]? with | some (Value.string s) => (valI s.data.toList).toNat | _ => 0) | _ => 0
theorem boxN_of {bx : Nat} {W : World} {r : Nat} (h : W.heap[bx]? = some (boxS (iB (r : Int)))) : boxN bx W = r := by
  unfold boxN
  rw [h]
  simp [iB_list, val_itoa]
theorem box_set {bx : Nat} {W : World} {s : ByteArray} (h : W.heap[bx]? = some (boxS s)) (t : ByteArray) : (W.setCell ⟨bx, 0, none⟩ (.string t)).heap[bx]? = some (boxS t) := by
  simp only [World.setCell, Array.getElem?_modify, h, Option.map_some, if_true]
  rfl
set_option maxRecDepth 100000 in
set_option maxHeartbeats 8000000 in
theorem squaresSeq_any (m : Nat) (hm : 0 < m) (hf : fits (m : Int)) (bx : Nat) (B : Nat) (w : World) (hb : w.heap[bx]? = some (boxS (iB (m : Int)))) (hB : B ≤ bx) :
    IterOwn Tryz.prog 98 #[.pointer (some ⟨bx, 0, none⟩)] (fun k => #[.string (iB ((stepAt m k).1 : Int)), .string (iB ((stepAt m k).2 : Int))]) (allS m).length (fun _ W => PR B W) (fun b => b = bx) w := by
  intro l J Jx W hown hJ hJx hJS hKe hY h0
  refine callsIn_of_wp Tryz.func98 rfl trivial ?_ rfl
  simp only [Tryz.ntmps98, List.size_toArray, List.length_cons, List.length_nil, Nat.reduceAdd, Nat.reduceSub, Array.replicate_succ, Array.replicate_zero, List.push_toArray, List.append_toArray, List.nil_append, List.cons_append]
  have HBX := hide (show bx < W.heap.size ∧ W.heap[bx]? = some (boxS (iB (m : Int))) from ⟨(hown bx rfl).1, (hown bx rfl).2.trans hb⟩)
  obtain ⟨tt, fr, hg1⟩ := (hKe 0 _ _ (Nat.zero_le _) h0).pr
  have HJ := hide hJ; have HJx := hide hJx; have HJS := hide hJS; have HY := hide hY; have H0 := hide h0; have HK := hide hKe
  have HF := hide hf
  clear hJ hJx hJS hY h0 hKe hb hown hf
  gi_wp2_with (refine in_load_row rfl 116 _ rfl 0 rfl tt _ fr _ hg1 Tryz.underlying116 rfl (by kernel_rfl) ?_)
  clear hg1
  gi_loopw [9] (fun i wr => ∃ (j k r : Nat) (S : Nat → Prop), j ≤ 25 ∧ i = .int .i64 j ∧ 0 < r ∧ Hid (k ≤ (allS m).length ∧ (allS m).drop k = remS j r ∧ r ≤ m ∧ J k S wr ∧ bx < wr.heap.size ∧ wr.heap[bx]? = some (boxS (iB (r : Int))) ∧ W.heap.size ≤ wr.heap.size)) (fun i _ => 25 - (intOf i).toNat)
  case atStart => exact ⟨0, 0, m, _, by omega, rfl, hm, Nat.zero_le _, rfl, Nat.le_refl _, H0.out, HBX.out.1, HBX.out.2, Nat.le_refl _⟩
  case round =>
    obtain ⟨j, k, r, S, hj, rfl, hr0, hin⟩ := hrel
    have IN := hide hin.out
    clear hin
    by_cases hlt : j < 25
    · have hji : (j : Int) < 25 := by omega
      have hpx := fun w => pidx hlt w
      obtain ⟨b1, b2⟩ := prime_bounds hlt
      rw [primeB_iB] at hpx
      have HST := hide (fun r => @remS_step j r hlt b1)
      have HNX := hide (fun r => @remS_next j r hlt)
      obtain ⟨q, hq⟩ : ∃ q, q = primes25.getD j 0 := ⟨_, rfl⟩
      rw [← hq] at hpx b1 b2 HST HNX
      have HP := hide (HK.out k S wr IN.out.1 IN.out.2.2.2.1)
      have fq : fits (q : Int) := fits_small (n := 3) (by rw [most_eq]; omega) (by omega)
      have hqq : 4 ≤ q * q ∧ q * q ≤ 9409 := ⟨Nat.mul_le_mul b1 b1, Nat.mul_le_mul b2 b2⟩
      have fqq : fits ((q : Int) * (q : Int)) := fits_small (n := 5) (by rw [most_eq]; omega) (by rw [Int.natAbs_mul, Int.natAbs_natCast]; omega)
      have HM := hide (fun w hB hT => rmul_I fq fq fqq B w hB hT)
      have HSM := hide hm
      have FQQ := hide fqq
      have QQ := hide (show (q : Int) * (q : Int) = ((q * q : Nat) : Int) from (Int.natCast_mul q q).symm)
      clear hq fq fqq hm hlt
      gi_wp2
      refine ⟨trivial, rfl, (callsIn_wide.2 (HM.out _ (Nat.le_trans hB (Nat.le_of_lt IN.out.2.2.2.2.1)) HP.out.pq.p10)).mono ?_⟩
      rintro e w1 ⟨rfl, hb1⟩
      have IN1 := hide (show k ≤ (allS m).length ∧ (allS m).drop k = remS j r ∧ r ≤ m ∧ J k S w1 ∧ bx < w1.heap.size ∧ w1.heap[bx]? = some (boxS (iB (r : Int))) ∧ W.heap.size ≤ w1.heap.size from
        ⟨IN.out.1, IN.out.2.1, IN.out.2.2.1, HJ.out k _ _ _ IN.out.2.2.2.1 ((QuietO.refl _ _ _ wr).of_below hb1 (Nat.le_refl _)), Nat.lt_of_lt_of_le IN.out.2.2.2.2.1 hb1.size, below_blk hb1 IN.out.2.2.2.2.2.1 IN.out.2.2.2.2.1, Nat.le_trans IN.out.2.2.2.2.2.2 hb1.size⟩)
      clear hb1 IN HP hpx HM
      gi_wp2
      gi_loopw [6] (fun _ wr2 => ∃ (k r : Nat) (S : Nat → Prop), 0 < r ∧ Hid (k ≤ (allS m).length ∧ (allS m).drop k = remS j r ∧ r ≤ m ∧ J k S wr2 ∧ bx < wr2.heap.size ∧ wr2.heap[bx]? = some (boxS (iB (r : Int))) ∧ W.heap.size ≤ wr2.heap.size)) (fun _ wr2 => boxN bx wr2)
      case atStart => exact ⟨k, r, S, hr0, IN1.out⟩
      clear IN1 hr0
      case round =>
        obtain ⟨k, r, S, hr0, hin⟩ := hrel
        have I2 := hide hin.out
        clear hin
        have c0 := cell_blk I2.out.2.2.2.2.2.1 0
        have l0 := I2.out.2.2.2.2.1
        have HP := hide (HK.out k S _ I2.out.1 I2.out.2.2.2.1)
        have fr := hide (show fits (r : Int) from fits_of_le HF.out (by have := I2.out.2.2.1; omega))
        have HD := hide (fun w hB hT => rquot_I fr.out FQQ.out (by have := QQ.out; omega) B w hB hT)
        by_cases hd : r % (q * q) = 0
        · have HS := hide ((HST.out r hr0 hd))
          obtain ⟨R, hR⟩ : ∃ R, R = r / (q * q) := ⟨_, rfl⟩
          have e1 : (r : Int) / ((q : Int) * (q : Int)) = (R : Int) := by rw [QQ.out, hR, Int.natCast_ediv]
          have e2 : (r : Int) % ((q : Int) * (q : Int)) = 0 := by rw [QQ.out, ← Int.natCast_emod, hd]; rfl
          obtain ⟨p1, p2⟩ := strip_less b1 hr0 hd
          rw [← hR] at p1 p2 HS
          rw [e1, e2] at HD
          have hz : ((iB 0).toList == [48]) = true := by rw [iB_zero_test]; rfl
          clear e1 e2 hd hR
          gi_wp2
          refine ⟨trivial, rfl, (callsIn_wide.2 (HD.out _ (Nat.le_trans hB (Nat.le_of_lt l0)) HP.out.pq.p10)).mono ?_⟩
          rintro e w3 ⟨rfl, hb3⟩
          have HB3 := hide (below_blk hb3 I2.out.2.2.2.2.2.1 l0)
          have l3 : bx < w3.heap.size := Nat.lt_of_lt_of_le l0 hb3.size
          have hdr := drop_at (I2.out.2.1.trans HS.out)
          have hJ4 : J k S (w3.setCell ⟨bx, 0, none⟩ (.string (iB (R : Int)))) := HJ.out k _ _ _ I2.out.2.2.2.1 (QuietO.set (O := fun b => b = bx) (p := ⟨bx, 0, none⟩) ((QuietO.refl (fun b => b = bx) W.heap.size S wr).of_below hb3 (Nat.le_refl _)) rfl _)
          have hs4 : W.heap.size ≤ (w3.setCell ⟨bx, 0, none⟩ (.string (iB (R : Int)))).heap.size := by
            have := hb3.size
            have := I2.out.2.2.2.2.2.2
            simp [World.setCell]
            omega
          have hyy := HY.out k S _ hdr.1 hJ4 hs4
          rw [hdr.2.1] at hyy
          dsimp only at hyy
          obtain ⟨fn, tmps, assign, body, hy, hR⟩ := hyy
          have HR := hide hR
          have H4 := hide (And.intro hdr.1 (And.intro hdr.2.2 (And.intro hs4 (box_set HB3.out (iB (R : Int))))))
          have HRM := hide (show R ≤ m by have := I2.out.2.2.1; omega)
          have HBN := hide (boxN_of I2.out.2.2.2.2.2.1)
          have c3 := cell_blk HB3.out 0
          have f3 := froz_blk HB3.out 0
          clear hR hdr hJ4 hs4 hb3 c0 l0 HD HP fr HS I2
          gi_wp2
          refine ⟨rfl, HR.out.mono ?_⟩
          rintro e W5 ⟨S3, hu3, ho3, (⟨rfl, hJ3⟩ | ⟨rfl, hJx3⟩)⟩
          · have HJ3 := hide hJ3
            have H5 := hide (show W5.heap[bx]? = some (boxS (iB (R : Int))) from (ho3 bx rfl).trans H4.out.2.2.2)
            have H6 := hide (Nat.le_trans H4.out.2.2.1 hu3.size)
            clear hu3 ho3 hJ3 hy HR c3 f3 l3 HB3
            gi_wp2
            go_roundw
            case rel => exact ⟨k + 1, R, S3, p1, H4.out.1, H4.out.2.1, HRM.out, HJ3.out, lt_blk H5.out, H5.out, H6.out⟩
            case measure =>
              rw [HBN.out, boxN_of H5.out]
              exact p2
          · clear hu3 ho3 hy HR c3 f3 l3 HB3
            gi_wp2
            refine bodyPost_ret (results_none rfl _ _ _) rfl ?_
            exact ⟨⟨_, rfl⟩, S3, .inr hJx3⟩
        · have HS := hide (HNX.out r hr0 hd)
          have e2 : (r : Int) % ((q : Int) * (q : Int)) = ((r % (q * q) : Nat) : Int) := by rw [QQ.out, Int.natCast_emod]
          rw [e2] at HD
          have hz : ((iB ((r % (q * q) : Nat) : Int)).toList == [48]) = false := by
            rw [iB_zero_test, decide_eq_false_iff_not]
            omega
          generalize iB ((r % (q * q) : Nat) : Int) = Z at HD hz
          generalize iB ((r : Int) / ((q : Int) * (q : Int))) = Y at HD
          clear e2 hd
          gi_wp2
          refine ⟨trivial, rfl, (callsIn_wide.2 (HD.out _ (Nat.le_trans hB (Nat.le_of_lt l0)) HP.out.pq.p10)).mono ?_⟩
          rintro e w3 ⟨rfl, hb3⟩
          have H3 := hide (show k ≤ (allS m).length ∧ (allS m).drop k = remS (j + 1) r ∧ r ≤ m ∧ J k S w3 ∧ bx < w3.heap.size ∧ w3.heap[bx]? = some (boxS (iB (r : Int))) ∧ W.heap.size ≤ w3.heap.size from
            ⟨I2.out.1, I2.out.2.1.trans HS.out, I2.out.2.2.1, HJ.out k _ _ _ I2.out.2.2.2.1 ((QuietO.refl _ _ _ wr).of_below hb3 (Nat.le_refl _)), Nat.lt_of_lt_of_le l0 hb3.size, below_blk hb3 I2.out.2.2.2.2.2.1 l0, Nat.le_trans I2.out.2.2.2.2.2.2 hb3.size⟩)
          clear hb3 c0 l0 HD HP fr I2 HS
          gi_wp2
          go_roundw
          case rel => exact ⟨j + 1, k, r, S, by omega, by simp, hr0, H3.out⟩
          case measure => simp [intOf]; omega
    · obtain rfl : j = 25 := by omega
      have HE := hide (drop_end IN.out.1 (IN.out.2.1.trans (remS_end r)))
      clear hlt
      gi_wp2
      refine bodyPost_end (results_none rfl _ _ _) rfl ?_
      exact ⟨⟨_, rfl⟩, S, .inl (by rw [← HE.out]; exact IN.out.2.2.2.1)⟩
end Go.Proofs.YtgddookioipjiaaGreatDoor
namespace Go.KI
open Go
theorem long_fits {q : Rat} (h1 : (Lib.decDigits q.num.natAbs).length ≤ 90) (h2 : (Lib.decDigits q.den).length ≤ 90) (h0 : 0 < q.num) : fits ((q.num.toNat * q.den : Nat) : Int) := by
  refine fits_small (n := 180) (by rw [most_eq]; omega) ?_
  rw [Int.natAbs_natCast]
  have a := (dec_len_le (n := 90) (by omega)).1 h1
  have b := (dec_len_le (n := 90) (by omega)).1 h2
  have e : q.num.toNat = q.num.natAbs := by omega
  rw [e]
  exact mul_pow_lt a b
end Go.KI
namespace Go.Proofs.YtgddookioipjiaaGreatDoor
open Go.RowKit Go.KP Go.KI Go.Shelf
attribute [local go_sem] Oper.semAt_some

theorem cls_retQ {g : Nat} {args : Array Value} {v : Value} {B m : Nat} {w0 : World} (h : ∀ w, B ≤ w.heap.size → PQ B w → Calls Tryz.prog g args w (Ret w v)) (hT : PQ B w0) (hB : B ≤ m) (hm : m ≤ w0.heap.size) (x : Of (Below m w0)) :
    Calls Tryz.prog g args x.w fun e w' => e = .returned v ∧ Cls (Below m w0) w' :=
  (h x.w (by have := x.h.size; omega) (hT.on x.h hB)).mono fun _ _ ⟨h, hb⟩ => ⟨h, Cls.mk (x.h.trans (hb.mono (by have := x.h.size; omega)))⟩
instance ofBelow (n : Nat) (w : World) : Nonempty (Of (Below n w)) := ⟨⟨w, Below.refl n w⟩⟩
theorem set_off {w : World} {b c o : Nat} {x : Obj} (h : w.heap[b]? = some x) (hne : c ≠ b) (v : Value) : (w.setCell ⟨c, o, none⟩ v).heap[b]? = some x := by
  simp only [World.setCell]
  rw [Array.getElem?_modify, if_neg hne]
  exact h
theorem below_set2 {n b c : Nat} {w w1 : World} (h : Below n w w1) (hb : n ≤ b) (hc : n ≤ c) (u v : Value) : Below n w ((w1.setCell ⟨b, 0, none⟩ u).setCell ⟨c, 0, none⟩ v) :=
  h.trans ⟨rfl, rfl, rfl, by simp [World.setCell], fun j hj => (Below.heap_setCell _ _ _ _ (by show j ≠ c; omega)).trans (Below.heap_setCell _ _ _ _ (by show j ≠ b; omega))⟩
set_option maxRecDepth 100000 in
set_option maxHeartbeats 16000000 in
theorem rNormal_long {q : Rat} (fq : roomy q) (h0 : 0 < q.num) (hs : 17 < (numB q).size + (denB q).size) (B : Nat) (w : World) (hB : B ≤ w.heap.size) (hT : PR B w) :
    Calls Tryz.prog 14 #[.string (T q)] w (Ret w (.tuple #[.string (T (normC q)), .string (iB (normL q : Nat)), .int .i64 0])) := by
  have HT := hide hT
  have X0 := hide (heap2 w (.cells #[.string (T q)] 22) (.cells #[.string (T q)] 22))
  have HC := hide (rCheck_ok w.heap.size (w.heap.size + 1) [q] [q] (by simp) (by simp) (fun x hx => by simp at hx; rw [hx]; exact fq) (fun x hx => by simp at hx; rw [hx]; omega) B _ (nums1 X0.out.1) (nums1 X0.out.2.1) (Nat.le_trans hB X0.out.2.2.2.size) (hT.pq.on X0.out.2.2.2 hB))
  have HO := hide (fun w hB hT => rOf_T fq.1 B w hB hT)
  obtain ⟨m, hm⟩ : ∃ m, m = q.num.toNat * q.den := ⟨_, rfl⟩
  have fm : fits (m : Int) := by rw [hm]; exact long_fits fq.2.1 fq.2.2 h0
  have hm0 : 0 < m := by rw [hm]; exact Nat.mul_pos (by omega) q.den_pos
  have hN : numB q = iB q.num := rfl
  have hD : denB q = iB (q.den : Int) := rfl
  have hnd : q.num * (q.den : Int) = (m : Int) := by
    rw [hm, Int.natCast_mul]
    congr 1
    omega
  have HM := hide (fun w hB hT => rmul_I fq.1.1 fq.1.2 (by rw [hnd]; exact fm) B w hB hT)
  rw [hnd] at HM
  have hz : ((iB q.num).toList == [48]) = false := by
    rw [iB_zero_test, decide_eq_false_iff_not]
    omega
  have hsz : ((((numB q).size : Int) + ((denB q).size : Int)) ≤ 17) = False := eq_false (by omega)
  have fN := iB_size fq.1.1
  have fD := iB_size fq.1.2
  have hnorm : T (normC q) = T (((normN m).1 : Rat) / (q.den : Rat)) ∧ iB (normL q : Nat) = iB ((normN m).2 : Nat) := by
    unfold normC normL
    rw [← hm, Rat.divInt_eq_div]
    exact ⟨rfl, rfl⟩
  rw [hnorm.1, hnorm.2]
  obtain ⟨V1, hV1⟩ : ∃ V, V = T (((normN m).1 : Rat) / (q.den : Rat)) := ⟨_, rfl⟩
  obtain ⟨V2, hV2⟩ : ∃ V, V = iB ((normN m).2 : Nat) := ⟨_, rfl⟩
  rw [← hV1, ← hV2]
  have fd := fq.1.2
  have hd0 := q.den_pos
  rw [hN, hD] at HO hsz
  generalize hNN : iB q.num = N at HM HO hz hsz fN
  generalize hDD : iB (q.den : Int) = D at HM HO hsz fD
  generalize hXX : T q = X at HC HO X0 ⊢
  obtain ⟨dd, hdd⟩ : ∃ d, d = q.den := ⟨_, rfl⟩
  rw [← hdd] at fd hd0 hDD hV1
  have HV1 := hide hV1
  have HV2 := hide hV2
  have FM := hide fm
  have FD := hide fd
  have HDD := hide hDD
  clear hV1 hV2 fm fd hDD
  clear hdd hXX hNN hm hN hD hnd hnorm hs h0 fq hT
  refine (callsIn_wide (n := 0)).1 ?_
  refine callsIn_of_wp_marks Tryz.func14 rfl trivial ?_ rfl
  simp only [Tryz.ntmps14, List.size_toArray, List.length_cons, List.length_nil, Nat.reduceAdd, Nat.reduceSub, Array.replicate_succ, Array.replicate_zero, List.push_toArray, List.append_toArray, List.nil_append, List.cons_append]
  gi_wp2_with fail
  refine ⟨trivial, rfl, (callsIn_wide.2 HC.out).mono ?_⟩
  rintro e w1 ⟨rfl, hb1⟩
  have HB1 := hide (X0.out.2.2.2.trans (hb1.mono X0.out.2.2.2.size))
  clear hb1 HC X0
  gi_wp2_with fail
  refine ⟨trivial, rfl, (callsIn_wide.2 (HO.out _ (Nat.le_trans hB HB1.out.size) (HT.out.on HB1.out hB).pq)).mono ?_⟩
  rintro e w2 ⟨rfl, hb2⟩
  have X2 := hide (heap1 w2 (rpairO N D))
  have G2 := hide X2.out.1
  have HB2 := hide (HB1.out.trans ((hb2.trans (X2.out.2.2.mono hb2.size)).mono HB1.out.size))
  have hsz2 := HB1.out.size
  have hsz2b := hb2.size
  clear hb2 X2
  have k0 := cell_blk G2.out 0
  have k1 := cell_blk G2.out 1
  have kl := lt_blk G2.out
  gi_wp2_with fail
  refine ⟨trivial, rfl, (callsIn_wide.2 (HM.out _ (Nat.le_trans hB HB2.out.size) (HT.out.on HB2.out hB).pq.p10)).mono ?_⟩
  rintro e w3 ⟨rfl, hb3⟩
  have G3 := hide (below_blk hb3 G2.out (lt_blk G2.out))
  have HB3 := hide (HB2.out.trans (hb3.mono HB2.out.size))
  have hsz3 : w2.heap.size < w3.heap.size := Nat.lt_of_lt_of_le kl hb3.size
  clear hb3 k0 k1 kl G2
  gi_wp2_with fail
  refine ⟨trivial, rfl, (callsIn_wide.2 (squares_any (iB (m : Int)) _)).mono ?_⟩
  rintro e w4 ⟨rfl, hw4⟩
  obtain ⟨Y1, Y2, Y3, Y4, Y5⟩ := heap3 w3 (boxS ⟨#[49]⟩) (boxS (iB (m : Int))) (boxS (iB (m : Int)))
  rw [← hw4] at Y1 Y2 Y3 Y4 Y5
  have y4 := Y4
  have C0 := hide Y1; have L0 := hide Y2; have B0 := hide Y3
  have P0 := hide (below_blk Y5 G3.out (lt_blk G3.out))
  have HB4 := hide (HB3.out.trans (Y5.mono HB3.out.size))
  clear Y1 Y2 Y3 Y4 Y5 hw4 G3
  have B4 := hide (Nat.le_trans hB HB3.out.size)
  gi_wp2_with fail
  refine wp_iter_own (gf := 98) (lb := #[.pointer (some ⟨w3.heap.size + 1 + 1, 0, none⟩)]) rfl (enters_of Tryz.func98 (by kernel_rfl) rfl)
    (squaresSeq_any m hm0 FM.out (w3.heap.size + 2) B w4 B0.out (Nat.le_trans B4.out (by omega))) (fun b hb => ⟨by rw [hb, y4]; omega, rfl⟩) (fun _ => rfl)
    (fun k S W => S = (fun _ => False) ∧ W.heap[w2.heap.size]? = some (rpairO N D) ∧ W.heap[w3.heap.size]? = some (boxS (iB ((prodK m k : Nat) : Int))) ∧ W.heap[w3.heap.size + 1]? = some (boxS (iB ((leftK m k : Nat) : Int))) ∧ Below w.heap.size w W)
    (fun _ _ _ => False) ?hI (fun _ _ _ _ h _ => h) ?h0 ?hke
    (fun k S a1' W => a1' = { tmps := #[.string X, undef, .string ⟨#[]⟩, .string ⟨#[]⟩, .int .i64 0, .int .i64 0, .pointer (some ⟨w2.heap.size, 0, none⟩), undef, undef, undef, undef, undef, undef, .pointer (some ⟨w3.heap.size, 0, none⟩), .pointer (some ⟨w3.heap.size + 1, 0, none⟩), .string (iB ((stepAt m k).1 : Int)), .string (iB ((stepAt m k).2 : Int)), undef, undef, .string X, .slice (some ⟨w.heap.size, 0, none⟩) 1 1, .string X, .slice (some ⟨w.heap.size + 1, 0, none⟩) 1 1, .int .i64 0, .int .i64 0, .bool false, undef, .string X, rpairV N D, .pointer (some ⟨w2.heap.size, 0, none⟩), .string N, .bool false, .pointer (some ⟨w2.heap.size, 0, none⟩), .string N, .int .i64 N.size, .pointer (some ⟨w2.heap.size, 1, none⟩), .string D, .int .i64 D.size, .int .i64 ((N.size : Int) + (D.size : Int)), .bool false, undef, undef, undef, undef, undef, undef, undef, undef, undef, undef, undef, undef, undef, undef, undef, undef, undef, undef, undef, undef, .pointer (some ⟨w2.heap.size, 0, none⟩), .string N, .pointer (some ⟨w2.heap.size, 1, none⟩), .string D, .string (iB (m : Int)), .string (iB (m : Int)), .func (.func 98) #[] #[.pointer (some ⟨w3.heap.size + 1 + 1, 0, none⟩)], .string (iB ((stepAt m k).1 : Int)), .string (iB ((stepAt m k).2 : Int)), undef, undef, undef, undef, undef, undef, undef, undef, undef, undef, undef, undef, undef, undef, undef, undef, undef, undef], defers := [] })
    ?hAx ?hassign ?hS ?hbody ?hdone ?hstop
  case hI =>
    rintro k S W W2 ⟨rfl, h1, h2, h3, h4⟩ hq
    have e : ∀ {b : Nat} {o : Obj}, b < w3.heap.size + 2 → W.heap[b]? = some o → W2.heap[b]? = some o := fun {b} {o} hb h => (hq.block b (by omega) (.inl (by omega)) (lt_blk h)).trans h
    have hs1 := HB3.out.size
    exact ⟨rfl, e (by omega) h1, e (by omega) h2, e (by omega) h3, ⟨hq.os.trans h4.os, hq.tape.trans h4.tape, hq.output.trans h4.output, Nat.le_trans h4.size hq.size, fun j hj => (hq.block j (by omega) (.inl (by omega)) (by have := h4.size; omega)).trans (h4.block j hj)⟩⟩
  case h0 => exact ⟨rfl, P0.out, by rw [(prodK_zero m).1, show ((1 : Nat) : Int) = 1 from rfl, iB1]; exact C0.out, by rw [(prodK_zero m).2]; exact L0.out, HB4.out⟩
  case hke =>
    rintro k S W _ ⟨rfl, _, _, _, h4⟩
    exact HT.out.on h4 hB
  case hAx =>
    rintro k S a1' W l r r2 h _
    exact h
  case hassign =>
    intro lp k S W K hsz hSlt hK
    have HK := hide hK
    clear hK
    gi_wp2
    exact HK.out _ _ (Quiet.refl _ _ _) (Upd.refl _ _ _) rfl
  case hS =>
    rintro k S W ⟨rfl, _⟩ b hb
    exact hb.elim
  case hstop =>
    intro D c S W _ h
    exact h.elim
  case hbody =>
    rintro lp k S a1' W hk ⟨rfl, h1, h2, h3, h4⟩ rfl hsz
    obtain ⟨s1, s2⟩ := prodK_succ hk
    have hmul : ((prodK m k : Nat) : Int) * (((stepAt m k).1 : Nat) : Int) = ((prodK m (k + 1) : Nat) : Int) := by rw [s1, Int.natCast_mul]
    have HMU := hide (fun w hB hT => rmul_I (x := ((prodK m k : Nat) : Int)) (y := (((stepAt m k).1 : Nat) : Int)) (fits_of_le FM.out (by have := (prodK_le hm0 k).1; omega)) (fits_of_le FM.out (by have := step_le hm0 hk; omega)) (by rw [hmul]; exact fits_of_le FM.out (by have := (prodK_le hm0 (k + 1)).1; omega)) B w hB hT)
    rw [hmul] at HMU
    have S2 := hide s2
    have G1 := hide h1; have G2 := hide h2; have G3 := hide h3; have G4 := hide h4
    have c0 := cell_blk h2 0
    have cl := lt_blk h2
    clear hmul s1 s2 h1 h2 h3 h4 C0 L0 B0 P0
    gi_wp2
    refine ⟨trivial, rfl, (CallsIn.inRound lp (callsIn_wide.2 (HMU.out W (Nat.le_trans hB G4.out.size) (HT.out.on G4.out hB).pq.p10))).mono ?_⟩
    rintro e W2 ⟨rfl, hb2⟩
    have K1 := hide (below_blk hb2 G1.out (lt_blk G1.out)); have K2 := hide (below_blk hb2 G2.out (lt_blk G2.out)); have K3 := hide (below_blk hb2 G3.out (lt_blk G3.out)); have K4 := hide (G4.out.trans (hb2.mono G4.out.size))
    have BB := hide hb2
    clear hb2 c0 cl
    have c0 := cell_blk K2.out 0
    have cl := lt_blk K2.out
    have d0 := cell_blk K3.out 0
    have dl := lt_blk K3.out
    have f0 := froz_blk K2.out 0
    have g0 := froz_blk K3.out 0
    have hs1 := HB3.out.size
    gi_wp2
    refine ⟨_, (((Upd.refl _ _ W).of_below BB.out (Nat.le_refl _)).setBox (p := ⟨w3.heap.size, 0, none⟩) (show w3.heap.size < w4.heap.size by omega) _).setBox (p := ⟨w3.heap.size + 1, 0, none⟩) (show w3.heap.size + 1 < w4.heap.size by omega) _, ?_, rfl, ?_, ?_, ?_, ?_⟩
    · rintro b rfl
      rw [Below.heap_setCell _ _ _ _ (show w3.heap.size + 2 ≠ w3.heap.size + 1 by omega), Below.heap_setCell _ _ _ _ (show w3.heap.size + 2 ≠ w3.heap.size by omega)]
      exact BB.out.block _ (by omega)
    · exact set_off (set_off K1.out (by omega) _) (by omega) _
    · exact set_off (box_set K2.out _) (by omega) _
    · rw [S2.out]
      exact box_set (set_off K3.out (by omega) _) _
    · exact below_set2 K4.out (by omega) (by omega) _ _
  case hdone =>
    rintro D' S W hD' ⟨rfl, h1, h2, h3, h4⟩ hDf
    obtain ⟨n, hn⟩ : ∃ n, n = (allS m).length := ⟨_, rfl⟩
    rw [← hn] at h2 h3
    obtain ⟨q1, q2, q3⟩ := prodK_law hm0 n
    obtain ⟨q4, q5⟩ := prodK_le hm0 n
    have hNS := normN_steps hm0
    rw [← hn] at hNS
    obtain ⟨c, hc⟩ : ∃ c, c = prodK m n := ⟨_, rfl⟩
    obtain ⟨l, hl⟩ : ∃ c, c = leftK m n := ⟨_, rfl⟩
    rw [← hc] at h2 q1 q3 q4 hNS
    rw [← hl] at h3 q1 q2 q5 hNS
    have fl : fits (l : Int) := fits_of_le FM.out (by omega)
    have HE := hide (fun w hB hT => rexact_I fl B w hB hT)
    have hdz : ((dd : Nat) : Int) ≠ 0 := by omega
    have hs1 := HB3.out.size
    have hld := lt_blk hDf
    have G1 := hide h1; have G2 := hide h2; have G3 := hide h3; have G4 := hide h4; have GD := hide hDf
    have d0 := cell_blk h3 0
    have dl := lt_blk h3
    clear h1 h2 h3 h4 hDf C0 L0 B0 P0 hc hl hn
    obtain ⟨b, hb⟩ : ∃ b, b = sqI l := ⟨_, rfl⟩
    rw [← hb] at HE hNS
    cases b
    · rw [if_neg (by simp)] at hNS
      have e1 : T (((c : Nat) : Rat) / (dd : Rat)) = V1 := by rw [HV1.out, hNS]
      have e2 : iB (l : Int) = V2 := by rw [HV2.out, hNS]
      have HFR := hide (fun w hB hT => rfraction_I (x := ((c : Nat) : Int)) (y := ((dd : Nat) : Int)) (fits_of_le FM.out (by omega)) FD.out hdz B w hB hT)
      rw [show (((c : Nat) : Int) : Rat) = ((c : Nat) : Rat) from rfl, show (((dd : Nat) : Int) : Rat) = ((dd : Nat) : Rat) from rfl, e1, HDD.out] at HFR
      rw [e2] at HE G3 d0
      generalize iB ((c : Nat) : Int) = CB at HFR G2
      generalize iB ((rootN l : Nat) : Int) = RB at HE
      clear e1 e2 hNS hb q1 q2 q3 q4 q5 fl hdz
      gi_wp2
      refine ⟨trivial, rfl, (callsIn_wide.2 (HE.out W (Nat.le_trans hB G4.out.size) (HT.out.on G4.out hB).pq.p10)).mono ?_⟩
      rintro e W2 ⟨rfl, hb2⟩
      have K1 := hide (below_blk hb2 G1.out (lt_blk G1.out)); have K2 := hide (below_blk hb2 G2.out (lt_blk G2.out)); have K3 := hide (below_blk hb2 G3.out dl); have K4 := hide (G4.out.trans (hb2.mono G4.out.size)); have KD := hide (below_blk hb2 GD.out hld)
      have ld2 : D' < W2.heap.size := Nat.lt_of_lt_of_le hld hb2.size
      clear hb2 d0 dl G1 G2 G3 HE
      gi_wp2
      have hTn := HT.out.on K4.out hB
      have hBn := Nat.le_trans hB K4.out.size
      have KF := hide (fun x => cls_retQ (m := W2.heap.size) (w0 := W2) HFR.out hTn.pq hBn (Nat.le_refl _) x)
      have hx1 : ∀ x : Of (Below W2.heap.size W2), ∀ o, x.w.cell? ⟨w2.heap.size, o, none⟩ = W2.cell? ⟨w2.heap.size, o, none⟩ := fun x o => x.h.cell (p := ⟨w2.heap.size, o, none⟩) (lt_blk K1.out)
      have hx2 : ∀ x : Of (Below W2.heap.size W2), ∀ o, x.w.cell? ⟨w3.heap.size, o, none⟩ = W2.cell? ⟨w3.heap.size, o, none⟩ := fun x o => x.h.cell (p := ⟨w3.heap.size, o, none⟩) (lt_blk K2.out)
      have hx3 : ∀ x : Of (Below W2.heap.size W2), ∀ o, x.w.cell? ⟨w3.heap.size + 1, o, none⟩ = W2.cell? ⟨w3.heap.size + 1, o, none⟩ := fun x o => x.h.cell (p := ⟨w3.heap.size + 1, o, none⟩) (lt_blk K3.out)
      have c1 := fun o => cell_blk K1.out o
      have c2 := fun o => cell_blk K2.out o
      have c3 := fun o => cell_blk K3.out o
      clear hTn hBn
      refine region_calm ?_
      refine region_class (C := Cls (Below W2.heap.size W2)) (by kernel_rfl) (by kernel_rfl) (by kernel_rfl) (Cls.mk (Below.refl _ _).drew) ?_
      repeat (go_big_quiet_step (with_reducible exact KF.out _))
      refine wpQuiet_nil ?_
      intro W5 hcl
      have HB5 := hide (K4.out.trans (hcl.out.mono K4.out.size))
      have GD5 := hide (below_blk hcl.out KD.out (lt_blk KD.out))
      clear hcl hx1 hx2 hx3 c1 c2 c3
      refine calm_normal ?_
      gi_wp2
      refine ⟨by simp, .inl ⟨_, _, rfl, run_takeDeferred GD5.out, ?_⟩⟩
      refine ⟨_, results_tmp3 rfl _ _ _, rfl, ?_⟩
      exact HB5.out.trans (belowK_b (w := w) (Nat.le_refl _) _ D' _ _ (by have := HB5.out.size; omega) GD5.out rfl rfl)
    · rw [if_pos rfl] at hNS
      have e1 : T ((((c * rootN l : Nat) : Nat) : Rat) / (dd : Rat)) = V1 := by rw [HV1.out, hNS]
      have e2 : (⟨#[49]⟩ : ByteArray) = V2 := by rw [HV2.out, hNS, ← iB1]; rfl
      have hr0 : rootN l ≤ l := Nat.le_trans (Nat.le_mul_of_pos_left _ (root_pos q2)) (rootN_spec l).1
      have hcr : c * rootN l ≤ m := by
        have h1 : c * rootN l ≤ c * l := Nat.mul_le_mul (Nat.le_refl _) hr0
        have h2 : 1 * (c * l) ≤ c * (c * l) := Nat.mul_le_mul q3 (Nat.le_refl _)
        rw [Nat.one_mul, ← Nat.mul_assoc, q1] at h2
        omega
      have hmul : ((c : Nat) : Int) * ((rootN l : Nat) : Int) = ((c * rootN l : Nat) : Int) := (Int.natCast_mul _ _).symm
      have HMU := hide (fun w hB hT => rmul_I (x := ((c : Nat) : Int)) (y := ((rootN l : Nat) : Int)) (fits_of_le FM.out (by omega)) (fits_of_le FM.out (by omega)) (by rw [hmul]; exact fits_of_le FM.out (by omega)) B w hB hT)
      rw [hmul] at HMU
      have HFR := hide (fun w hB hT => rfraction_I (x := ((c * rootN l : Nat) : Int)) (y := ((dd : Nat) : Int)) (fits_of_le FM.out (by omega)) FD.out hdz B w hB hT)
      rw [show (((c * rootN l : Nat) : Int) : Rat) = ((c * rootN l : Nat) : Rat) from rfl, show (((dd : Nat) : Int) : Rat) = ((dd : Nat) : Rat) from rfl, e1, HDD.out] at HFR
      subst e2
      generalize iB ((c * rootN l : Nat) : Int) = CR at HFR HMU
      generalize iB ((c : Nat) : Int) = CB at HMU G2
      generalize iB ((rootN l : Nat) : Int) = RB at HE HMU
      generalize iB (l : Int) = LB at HE G3 d0
      clear e1 hNS hb q1 q2 q3 q4 q5 fl hdz hr0 hcr hmul
      gi_wp2
      refine ⟨trivial, rfl, (callsIn_wide.2 (HE.out W (Nat.le_trans hB G4.out.size) (HT.out.on G4.out hB).pq.p10)).mono ?_⟩
      rintro e W2 ⟨rfl, hb2⟩
      have K1 := hide (below_blk hb2 G1.out (lt_blk G1.out)); have K2 := hide (below_blk hb2 G2.out (lt_blk G2.out)); have K3 := hide (below_blk hb2 G3.out dl); have K4 := hide (G4.out.trans (hb2.mono G4.out.size)); have KD := hide (below_blk hb2 GD.out hld)
      have ld2 : D' < W2.heap.size := Nat.lt_of_lt_of_le hld hb2.size
      clear hb2 d0 dl G1 G2 G3 HE
      have c0 := cell_blk K2.out 0
      have cl := lt_blk K2.out
      gi_wp2
      refine ⟨trivial, rfl, (callsIn_wide.2 (HMU.out W2 (Nat.le_trans hB K4.out.size) (HT.out.on K4.out hB).pq.p10)).mono ?_⟩
      rintro e W3 ⟨rfl, hb3⟩
      have M1 := hide (below_blk hb3 K1.out (lt_blk K1.out)); have M2 := hide (below_blk hb3 K2.out (lt_blk K2.out)); have M3 := hide (below_blk hb3 K3.out (lt_blk K3.out)); have M4 := hide (K4.out.trans (hb3.mono K4.out.size)); have MD := hide (below_blk hb3 KD.out ld2)
      clear hb3 c0 cl K1 K2 K3 K4 KD ld2
      have c0 := cell_blk M2.out 0
      have cl := lt_blk M2.out
      have d0 := cell_blk M3.out 0
      have dl := lt_blk M3.out
      have f0 := froz_blk M2.out 0
      have g0 := froz_blk M3.out 0
      gi_wp2
      clear c0 cl d0 dl f0 g0
      obtain ⟨W4, hW4⟩ : ∃ W4, W4 = (W3.setCell ⟨w3.heap.size, 0, none⟩ (.string CR)).setCell ⟨w3.heap.size + 1, 0, none⟩ (.string ⟨#[49]⟩) := ⟨_, rfl⟩
      rw [← hW4]
      have K1 := hide (show W4.heap[w2.heap.size]? = some (rpairO N D) from by rw [hW4]; exact set_off (set_off M1.out (by omega) _) (by omega) _)
      have K2 := hide (show W4.heap[w3.heap.size]? = some (boxS CR) from by rw [hW4]; exact set_off (box_set M2.out _) (by omega) _)
      have K3 := hide (show W4.heap[w3.heap.size + 1]? = some (boxS ⟨#[49]⟩) from by rw [hW4]; exact box_set (set_off M3.out (by omega) _) _)
      have K4 := hide (show Below w.heap.size w W4 from by rw [hW4]; exact below_set2 M4.out (by omega) (by omega) _ _)
      have KD := hide (show W4.heap[D']? = some (.deferred (some [])) from by rw [hW4]; exact set_off (set_off MD.out (by omega) _) (by omega) _)
      clear hW4 M1 M2 M3 M4 MD
      have hTn := HT.out.on K4.out hB
      have hBn := Nat.le_trans hB K4.out.size
      have KF := hide (fun x => cls_retQ (m := W4.heap.size) (w0 := W4) HFR.out hTn.pq hBn (Nat.le_refl _) x)
      have hx1 : ∀ x : Of (Below W4.heap.size W4), ∀ o, x.w.cell? ⟨w2.heap.size, o, none⟩ = W4.cell? ⟨w2.heap.size, o, none⟩ := fun x o => x.h.cell (p := ⟨w2.heap.size, o, none⟩) (lt_blk K1.out)
      have hx2 : ∀ x : Of (Below W4.heap.size W4), ∀ o, x.w.cell? ⟨w3.heap.size, o, none⟩ = W4.cell? ⟨w3.heap.size, o, none⟩ := fun x o => x.h.cell (p := ⟨w3.heap.size, o, none⟩) (lt_blk K2.out)
      have hx3 : ∀ x : Of (Below W4.heap.size W4), ∀ o, x.w.cell? ⟨w3.heap.size + 1, o, none⟩ = W4.cell? ⟨w3.heap.size + 1, o, none⟩ := fun x o => x.h.cell (p := ⟨w3.heap.size + 1, o, none⟩) (lt_blk K3.out)
      have c1 := fun o => cell_blk K1.out o
      have c2 := fun o => cell_blk K2.out o
      have c3 := fun o => cell_blk K3.out o
      clear hTn hBn
      refine region_calm ?_
      refine region_class (C := Cls (Below W4.heap.size W4)) (by kernel_rfl) (by kernel_rfl) (by kernel_rfl) (Cls.mk (Below.refl _ _).drew) ?_
      repeat (go_big_quiet_step (with_reducible exact KF.out _))
      refine wpQuiet_nil ?_
      intro W5 hcl
      have HB5 := hide (K4.out.trans (hcl.out.mono K4.out.size))
      have GD5 := hide (below_blk hcl.out KD.out (lt_blk KD.out))
      clear hcl hx1 hx2 hx3 c1 c2 c3
      refine calm_normal ?_
      gi_wp2
      refine ⟨by simp, .inl ⟨_, _, rfl, run_takeDeferred GD5.out, ?_⟩⟩
      refine ⟨_, results_tmp3 rfl _ _ _, rfl, ?_⟩
      exact HB5.out.trans (belowK_b (w := w) (Nat.le_refl _) _ D' _ _ (by have := HB5.out.size; omega) GD5.out rfl rfl)
end Go.Proofs.YtgddookioipjiaaGreatDoor
namespace Go.Proofs.YtgddookioipjiaaGreatDoor
open Go.RowKit Go.KP Go.KI Go.Shelf
attribute [local go_sem] Oper.semAt_some

theorem rNormal_pos {q : Rat} (fq : roomy q) (h0 : 0 < q.num) (B : Nat) (w : World) (hB : B ≤ w.heap.size) (hT : PR B w) :
    Calls Tryz.prog 14 #[.string (T q)] w (Ret w (.tuple #[.string (T (normC q)), .string (iB (normL q : Nat)), .int .i64 0])) := by
  by_cases hs : (numB q).size + (denB q).size ≤ 17
  · exact rNormal_small fq h0 hs B w hB hT
  · exact rNormal_long fq h0 (by omega) B w hB hT
/-- What the normal form is. -/
theorem norm_law {q : Rat} (h0 : 0 < q.num) : normC q * normC q * (normL q : Rat) = q ∧ 0 < normC q ∧ 0 < normL q ∧ (∀ p ∈ primes25, ¬ normL q % (p * p) = 0) := by
  have hm : 0 < q.num.toNat * q.den := Nat.mul_pos (by omega) q.den_pos
  obtain ⟨n1, n2, n3, n4, _⟩ := normN_spec hm
  have e1 : ((normN (q.num.toNat * q.den)).1 : Rat) * ((normN (q.num.toNat * q.den)).1 : Rat) * ((normN (q.num.toNat * q.den)).2 : Rat) = ((q.num.toNat : Nat) : Rat) * ((q.den : Nat) : Rat) := by
    rw [← Rat.natCast_mul, ← Rat.natCast_mul, n1, Rat.natCast_mul]
  have e2 : ((q.num.toNat : Nat) : Rat) = (q.num : Rat) := by
    have e : ((q.num.toNat : Nat) : Int) = q.num := by omega
    rw [← Rat.intCast_natCast, e]
  have hq := rat_quot q
  have hd : (0 : Rat) < ((q.den : Nat) : Rat) := by exact_mod_cast q.den_pos
  have hc : (0 : Rat) < ((normN (q.num.toNat * q.den)).1 : Rat) := by exact_mod_cast n3
  unfold normC normL
  rw [Rat.divInt_eq_div]
  show ((normN (q.num.toNat * q.den)).1 : Rat) / ((q.den : Nat) : Rat) * (((normN (q.num.toNat * q.den)).1 : Rat) / ((q.den : Nat) : Rat)) * ((normN (q.num.toNat * q.den)).2 : Rat) = q ∧ 0 < ((normN (q.num.toNat * q.den)).1 : Rat) / ((q.den : Nat) : Rat) ∧ _ ∧ _
  refine ⟨?_, ?_, n2, n4⟩
  · rw [e2] at e1
    have hdi : (q.num : Rat) = q * ((q.den : Nat) : Rat) := by
      have h2 : ((q.den : Nat) : Rat) ≠ 0 := fun e => by rw [e] at hd; exact absurd hd Rat.lt_irrefl
      generalize hx : (q.num : Rat) = x at hq
      generalize hy : ((q.den : Nat) : Rat) = y at hq h2
      rw [← hq, Rat.div_def, Rat.mul_assoc, Rat.inv_mul_cancel _ h2, Rat.mul_one]
    generalize ((normN (q.num.toNat * q.den)).1 : Rat) = c at e1 ⊢
    generalize ((normN (q.num.toNat * q.den)).2 : Rat) = l at e1 ⊢
    generalize ((q.den : Nat) : Rat) = d at e1 hdi hd ⊢
    rw [hdi] at e1
    rw [Rat.div_def]
    have h1 : d * d⁻¹ = 1 := Rat.mul_inv_cancel _ (fun e => by rw [e] at hd; exact absurd hd Rat.lt_irrefl)
    grind
  · rw [Rat.div_def]
    exact Rat.mul_pos hc (Rat.inv_pos.2 hd)
end Go.Proofs.YtgddookioipjiaaGreatDoor
