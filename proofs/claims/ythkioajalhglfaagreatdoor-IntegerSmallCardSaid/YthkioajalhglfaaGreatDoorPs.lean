/-
  Integers: the whole root; smallRoot walked.
-/
import Derived.Test.YthkioajalhglfaaGreatDoorPr
namespace Go.KI

/-- The whole root. -/
def rootN : Nat → Nat
  | 0 => 0
  | n + 1 => if (rootN n + 1) * (rootN n + 1) ≤ n + 1 then rootN n + 1 else rootN n
theorem rootN_spec : ∀ n, rootN n * rootN n ≤ n ∧ n < (rootN n + 1) * (rootN n + 1) := by
  intro n
  induction n with
  | zero => exact ⟨Nat.le_refl _, by show 0 < (0 + 1) * (0 + 1); decide⟩
  | succ n ih =>
    rw [rootN]
    split
    · refine ⟨by assumption, ?_⟩
      have : (rootN n + 1 + 1) * (rootN n + 1 + 1) = (rootN n + 1) * (rootN n + 1) + 2 * (rootN n + 1) + 1 := by grind
      omega
    · exact ⟨by omega, by omega⟩
theorem rootN_eq {n r : Nat} (h1 : r * r ≤ n) (h2 : n < (r + 1) * (r + 1)) : rootN n = r := by
  obtain ⟨g1, g2⟩ := rootN_spec n
  rcases Nat.lt_trichotomy (rootN n) r with h | h | h
  · have := Nat.mul_le_mul (show rootN n + 1 ≤ r from h) (show rootN n + 1 ≤ r from h)
    omega
  · exact h
  · have := Nat.mul_le_mul (show r + 1 ≤ rootN n from h) (show r + 1 ≤ rootN n from h)
    omega
theorem root_le_of {n x : Nat} (h : n < (x + 1) * (x + 1)) : rootN n ≤ x := by
  obtain ⟨g1, g2⟩ := rootN_spec n
  rcases Nat.lt_or_ge x (rootN n) with h1 | h1
  · have := Nat.mul_le_mul (show x + 1 ≤ rootN n from h1) (show x + 1 ≤ rootN n from h1)
    omega
  · exact h1
/-- Newton's step stays at or above the root. -/
theorem newton_ge {n x : Nat} (hx : 0 < x) : rootN n ≤ (x + n / x) / 2 := by
  obtain ⟨g1, g2⟩ := rootN_spec n
  rw [Nat.le_div_iff_mul_le (by omega)]
  rcases Nat.lt_or_ge (2 * rootN n) x with h | h
  · refine Nat.le_trans ?_ (Nat.le_add_right x _)
    omega
  · have h1 : 2 * rootN n - x ≤ n / x := by
      rw [Nat.le_div_iff_mul_le hx]
      obtain ⟨d, hd⟩ : ∃ d, 2 * rootN n = x + d := ⟨2 * rootN n - x, by omega⟩
      rw [hd, Nat.add_sub_cancel_left]
      have h4 : 4 * (d * x) ≤ (x + d) * (x + d) := by
        rcases Nat.le_total d x with hl | hl
        · obtain ⟨e, rfl⟩ : ∃ e, x = d + e := ⟨x - d, by omega⟩
          have : (d + e + d) * (d + e + d) = 4 * (d * (d + e)) + e * e := by grind
          omega
        · obtain ⟨e, rfl⟩ : ∃ e, d = x + e := ⟨d - x, by omega⟩
          have : (x + (x + e)) * (x + (x + e)) = 4 * ((x + e) * x) + e * e := by grind
          omega
      rw [← hd] at h4
      have h5 : 2 * rootN n * (2 * rootN n) = 4 * (rootN n * rootN n) := by grind
      omega
    omega
/-- Where Newton's step no longer falls, the root is there. -/
theorem newton_end {n x : Nat} (hx : 0 < x) (h : rootN n ≤ x) (he : x ≤ (x + n / x) / 2) : rootN n = x := by
  have h1 : x ≤ n / x := by omega
  have h2 := (Nat.le_div_iff_mul_le hx).1 h1
  obtain ⟨g1, g2⟩ := rootN_spec n
  have h3 : x ≤ rootN n := by
    rcases Nat.lt_or_ge (rootN n) x with h4 | h4
    · have := Nat.mul_le_mul (show rootN n + 1 ≤ x from h4) (show rootN n + 1 ≤ x from h4)
      omega
    · exact h4
  omega
theorem root_pos {n : Nat} (h : 0 < n) : 0 < rootN n := by
  obtain ⟨g1, g2⟩ := rootN_spec n
  rcases Nat.eq_zero_or_pos (rootN n) with h0 | h0
  · rw [h0] at g2
    omega
  · exact h0
theorem start_ge {n x : Nat} (hx : 0 < x) (h : n / x ≤ x) : rootN n ≤ x := by
  refine root_le_of ?_
  have h1 : n < (x + 1) * x := by
    rw [← Nat.div_lt_iff_lt_mul hx]
    omega
  have : (x + 1) * (x + 1) = (x + 1) * x + (x + 1) := by grind
  omega
end Go.KI
namespace Go.Proofs.YthkioajalhglfaaGreatDoor
open Go.RowKit Go.KP Go.KI Go.Shelf
attribute [local go_sem] Oper.semAt_some
theorem tdiv_nat (a b : Nat) : (a : Int).tdiv (b : Int) = ((a / b : Nat) : Int) := by
  rw [Int.tdiv_eq_ediv_of_nonneg (by omega), Int.natCast_ediv]
set_option maxRecDepth 100000 in
set_option maxHeartbeats 2000000 in
theorem smallRoot_any (s : ByteArray) (n : Nat) (B : Nat) (w : World) (c1 : chkI s.data.toList = 0) (hs : s.size ≤ 18) (hn : valI s.data.toList = (n : Int)) (h0 : 0 < n) (hB : B ≤ w.heap.size) (hT : P10 B w) :
    Calls Tryz.prog 53 #[.string s] w (Ret w (pairV (Lib.itoa ((rootN n : Nat) : Int)) 0)) := by
  have HT := hide hT
  have H1 := hide (atoi_any s c1 hs w)
  have v1 := short_val (n := 18) c1 (by rw [bytes_len]; exact hs) (by omega)
  rw [pow18] at v1
  rw [hn] at v1 H1
  have hn1 : n < 1000000000000000000 := by omega
  clear c1 hs hn v1 hT
  have H0 := hide h0
  go_enter Tryz.func53, Tryz.ntmps53
  go_wp2_with fail
  refine H1.out.mono ?_
  rintro e w1 ⟨rfl, hb1⟩
  have HB1 := hide hb1
  clear hb1 H1
  go_wp2_with fail
  go_loopw [6] (fun a wr => ∃ x : Nat, a = .int .i64 x ∧ 0 < x ∧ x ≤ 2000000000 ∧ wr = w1) (fun a _ => 2000000000 - (intOf a).toNat)
  case atStart => exact ⟨1, rfl, by omega, by omega, rfl⟩
  case round =>
    obtain ⟨x, rfl, hx0, hx1, rfl⟩ := hrel
    have hxq : ((x : Int) == 0) = false := by
      have : (x : Int) ≠ 0 := by omega
      simpa using this
    obtain ⟨q, hq⟩ : ∃ q : Nat, q = n / x := ⟨_, rfl⟩
    have hd : (n : Int) / (x : Int) = (q : Int) := by rw [hq, Int.natCast_ediv]
    have hdl : q ≤ n := by rw [hq]; exact Nat.div_le_self _ _
    have hx2 : x < q → x < 1000000000 := fun hl => by
      rcases Nat.lt_or_ge x 1000000000 with h1 | h1
      · exact h1
      · exfalso
        have h2 := (Nat.le_div_iff_mul_le hx0).1 (Nat.le_of_lt (hq ▸ hl))
        have h3 := Nat.mul_le_mul h1 h1
        omega
    have HQ := hide hq; have HX := hide hx2
    clear hq hx2
    by_cases hlt : x < q
    · have hl : (x : Int) < (q : Int) := by omega
      have hx3 := HX.out hlt
      clear hlt
      go_wp2_with fail
      go_roundw
      case rel => exact ⟨x * 2, rfl, by omega, by omega, trivial⟩
      case measure => simp [intOf]; omega
    · have hl : ((x : Int) < (q : Int)) = False := eq_false (by omega)
      have HR := hide (start_ge (n := n) hx0 (by rw [← HQ.out]; omega))
      clear hlt
      go_wp2_with fail
      clear hd hdl hxq hl HQ HX
      go_loopw [6] (fun a wr2 => ∃ x : Nat, a = .int .i64 x ∧ 0 < x ∧ x ≤ 2000000000 ∧ Hid (rootN n ≤ x) ∧ wr2 = wr) (fun a _ => (intOf a).toNat)
      case atStart => exact ⟨x, rfl, hx0, hx1, HR, rfl⟩
      clear hx0 hx1 HR
      case round =>
        obtain ⟨x, rfl, hx0, hx1, hr, rfl⟩ := hrel
        have hxq : ((x : Int) == 0) = false := by
          have : (x : Int) ≠ 0 := by omega
          simpa using this
        obtain ⟨q, hq⟩ : ∃ q : Nat, q = n / x := ⟨_, rfl⟩
        have hd : (n : Int) / (x : Int) = (q : Int) := by rw [hq, Int.natCast_ediv]
        have hdl : q ≤ n := by rw [hq]; exact Nat.div_le_self _ _
        obtain ⟨y, hy⟩ : ∃ y : Nat, y = (x + q) / 2 := ⟨_, rfl⟩
        have hd2 : ((x : Int) + (q : Int)) / 2 = (y : Int) := by omega
        have HG := hide (newton_ge (n := n) hx0)
        have HE := hide (newton_end (n := n) hx0 hr.out)
        rw [← hq, ← hy] at HG HE
        have hyl : y ≤ 600000000000000000 := by omega
        clear hr hq hy
        by_cases hge : x ≤ y
        · have hg : (x : Int) ≤ (y : Int) := by omega
          have HRE := hide (HE.out hge)
          clear hge
          go_wp2_with fail
          refine (itoa_any x (by omega) (by omega) B _ (HT.out.on HB1.out hB)).mono ?_
          rintro e w3 ⟨rfl, hb3⟩
          have HB3 := hide (HB1.out.trans (hb3.mono HB1.out.size))
          clear hb3 hd hd2 hg
          go_wp2_with fail
          refine bodyPost_ret (results_tmp2 rfl _ _ _) rfl ?_
          exact ⟨by rw [HRE.out]; rfl, HB3.out⟩
        · have hg : ((x : Int) ≤ (y : Int)) = False := eq_false (by omega)
          have hyx : y < x := by omega
          have hyp : 0 < y := Nat.lt_of_lt_of_le (root_pos H0.out) HG.out
          clear hge
          go_wp2_with fail
          go_roundw
          case rel => exact ⟨y, by rw [hd2], hyp, by omega, HG, trivial⟩
          case measure => simp only [intOf]; omega
end Go.Proofs.YthkioajalhglfaaGreatDoor
