/-
  Integers: Root of long numbers walked; Root at good texts.
-/
import Derived.Test.YthkioajalhglfaaGreatDoorQg
import Derived.Test.YthkioajalhglfaaGreatDoorPt
namespace Go.Proofs.YthkioajalhglfaaGreatDoor
open Go.RowKit Go.KP Go.KI Go.Shelf
attribute [local go_sem] Oper.semAt_some

theorem dv_zeros (k : Nat) : dv ([49] ++ List.replicate k 48) = 10 ^ k := by
  have hz : ∀ n, dv (List.replicate n (48 : UInt8)) = 0 := by
    intro n
    induction n with
    | zero => rfl
    | succ n ih => rw [List.replicate_succ', dv_snoc, ih]; rfl
  rw [dv_append, hz, List.length_replicate]
  show (0 * 10 + (49 - 48)) * 10 ^ k + 0 = 10 ^ k
  omega
/-- The text from which the root is sought. -/
theorem start_text (k : Nat) (hk : k ≤ 200) : chkI ([49] ++ List.replicate k 48) = 0 ∧ valI ([49] ++ List.replicate k 48) = ((10 ^ k : Nat) : Int) := by
  have e : [49] ++ List.replicate k 48 = Lib.itoa ((10 ^ k : Nat) : Int) := by
    rw [Lib.itoa_nonneg]
    have h := dec_of (l := [49] ++ List.replicate k 48) (by simp) (fun c hc => by
      rcases List.mem_append.1 hc with h | h
      · simp at h; rw [h]; rfl
      · rw [List.eq_of_mem_replicate h]; rfl) (fun _ => by simp)
    rw [dv_zeros] at h
    exact h
  rw [e, val_itoa]
  refine ⟨chk_fits (fits_small (n := 201) (by rw [most_eq]; omega) ?_), rfl⟩
  rw [Int.natAbs_natCast]
  exact (Nat.pow_lt_pow_iff_right (by omega)).2 (by omega)
theorem root_start {n k len : Nat} (h : n < 10 ^ len) (hk : len ≤ 2 * k) : rootN n ≤ 10 ^ k := by
  refine root_le_of ?_
  have h1 : (10 : Nat) ^ len ≤ 10 ^ (2 * k) := Nat.pow_le_pow_right (by omega) hk
  have h2 : (10 : Nat) ^ (2 * k) = 10 ^ k * 10 ^ k := by rw [← Nat.pow_add]; congr 1; omega
  have h3 : 10 ^ k * 10 ^ k ≤ (10 ^ k + 1) * (10 ^ k + 1) := Nat.mul_le_mul (by omega) (by omega)
  omega
theorem two_lt : Norm 1000000000 [2] := ⟨fun z hz => by simp at hz; omega, .inr (by decide)⟩
set_option maxRecDepth 100000 in
set_option maxHeartbeats 8000000 in
theorem Root_long (s : ByteArray) (n : Nat) (B : Nat) (w : World) (c1 : chkI s.data.toList = 0) (hs : 18 < s.size) (hn : valI s.data.toList = (n : Int)) (h0 : 0 < n) (hB : B ≤ w.heap.size) (hT : P10 B w) :
    Calls Tryz.prog 21 #[.string s] w (Ret w (pairV (resS ((rootN n : Nat) : Int)) (resE ((rootN n : Nat) : Int)))) := by
  have HT := hide hT
  have l1' := (chk_digs c1).2
  rw [bytes_len] at l1'
  have H1 := hide (check_any s (by omega) w)
  rw [c1] at H1
  have HRD := hide (fun w => read_good s c1 w)
  have hsi := (chk_ok c1).1
  rw [hn, Lib.itoa_nonneg] at hsi
  have hne : s.data.toList ≠ [] := by rw [hsi]; exact decDigits_ne _
  obtain ⟨hp, hh⟩ := bytes_head hne
  have hp0 : (0 : Int) < (s.size : Int) := by omega
  have h45 : ((s[0].toNat : Int) == 45) = false := by
    have h1 : s[0] ≠ 45 := fun e => by
      rw [e, hsi] at hh
      exact dec_head45 _ hh
    have : s[0].toNat ≠ 45 := fun h => h1 (UInt8.toNat_inj.1 h)
    simp only [beq_eq_false_iff_ne, ne_eq]
    omega
  have hz : (s.toList == [48]) = false := by
    rw [ByteArray.toList_eq]
    have : s.data.toList ≠ [48] := fun e => by
      have h2 := hn
      rw [e, ← itoa_zero, val_itoa] at h2
      omega
    simpa using this
  have hl18 : ((s.size : Int) ≤ 18) = False := eq_false (by omega)
  obtain ⟨k, hk⟩ : ∃ k, k = (s.size + 1) / 2 := ⟨_, rfl⟩
  have hki : ((s.size : Int) + 1) / 2 = (k : Int) := by omega
  have hkl : k ≤ 200 := by omega
  obtain ⟨st1, st2⟩ := start_text k hkl
  obtain ⟨rp, hrp⟩ : ∃ rp, rp = strB (Lib.repeatL [48] k) := ⟨_, rfl⟩
  have hrpl : rp.data.toList = List.replicate k 48 := by rw [hrp, strB_list, repeat48]
  have hrps : rp.size ≤ 200 := by rw [← bytes_len, hrpl, List.length_replicate]; exact hkl
  have HRP := hide (fun w => repeat_any ⟨#[48]⟩ k w (by omega) (by decide))
  rw [show (⟨#[48]⟩ : ByteArray).data.toList = [48] from rfl, ← hrp] at HRP
  have hcat : ((⟨#[49]⟩ : ByteArray) ++ rp).data.toList = [49] ++ List.replicate k 48 := by
    rw [← hrpl]
    simp
  rw [← hcat] at st1 st2
  have HRX := hide (fun w => read_good (⟨#[49]⟩ ++ rp) st1 w)
  have HST := hide (show rootN n ≤ 10 ^ k by
    refine root_start (len := s.size) ?_ (by omega)
    have := dec_lt n
    rw [← hsi, bytes_len] at this
    exact this)
  have hcs : (9223372036854775807 < (⟨#[49]⟩ : ByteArray).size + rp.size) = False := eq_false (by
    have : (⟨#[49]⟩ : ByteArray).size = 1 := rfl
    omega)
  have HS2 := hide st2; have H0 := hide h0; have HN := hide hn
  have hfd : ∀ (w : World) (m : Bool) (a : Option Addr) (n c : Nat), (Instr.field 48 (.agg #[.bool m, .slice a n c]) 1).run Tryz.prog w = .ok (.slice a n c) w := fun _ _ _ _ _ => by kernel_rfl
  clear hsi hne hh c1 hs hn hT l1' hk st1 st2 hrp hrpl hcat h0
  go_enter Tryz.func21, Tryz.ntmps21
  go_wp2_with fail
  refine H1.out.mono ?_
  rintro e w1 ⟨rfl, hb1⟩
  have HB1 := hide hb1
  clear hb1 H1
  go_wp2_with fail
  refine (HRD.out _).mono ?_
  rintro e w2 ⟨m1, a1, l1, rfl, hb2, o1, n1, q1, k1⟩
  obtain ⟨av, cv, hvf, _, _⟩ := o1.form
  subst hvf
  have HB2 := hide (HB1.out.trans (hb2.mono HB1.out.size))
  have O1 := hide (LimbAt.of_own o1); have N1 := hide n1
  have E1 := hide (show lv 1000000000 l1 = n by
    have h := HN.out
    rw [← q1] at h
    have := valS_abs m1 (lv 1000000000 l1)
    rw [h] at this
    omega)
  clear hb2 HRD o1 n1 q1 HB1
  go_wp2_with fail
  refine (HRP.out _).mono ?_
  rintro e w3 ⟨rfl, hb3⟩
  have O3 := hide ((O1.out.below hb3 (Nat.le_refl _)).mono hb3.size)
  have HB3 := hide (HB2.out.trans (hb3.mono HB2.out.size))
  clear hb3 HRP HB2 O1
  go_wp2_with fail
  refine (HRX.out _).mono ?_
  rintro e w4 ⟨m2, a2, l2, rfl, hb4, o2, n2, q2, k2⟩
  obtain ⟨av2, cv2, hvf, _, _⟩ := o2.form
  subst hvf
  have O4 := hide ((O3.out.below hb4 (Nat.le_refl _)).mono hb4.size)
  have HB4 := hide (HB3.out.trans (hb4.mono HB3.out.size))
  have O2 := hide (LimbAt.of_own o2); have N2 := hide n2
  have E2 := hide (show rootN n ≤ lv 1000000000 l2 by
    rw [HS2.out] at q2
    have := valS_abs m2 (lv 1000000000 l2)
    rw [q2, Int.natAbs_natCast] at this
    rw [← this]
    exact HST.out)
  clear hb4 o2 n2 q2 HRX O3 HB3
  go_wp2_with fail
  clear hfd
  go_loopw [6] (fun p wr => ∃ (ap : Option Addr) (cp : Nat) (x : List Nat), p = .slice ap x.length cp ∧ x.length ≤ 50 ∧ Hid (LimbAt wr.heap.size wr (.slice ap x.length cp) x ∧ Norm 1000000000 x ∧ rootN n ≤ lv 1000000000 x ∧ Below w4.heap.size w4 wr)) (fun p wr => lv 1000000000 (limbsAt wr p))
  case atStart => exact ⟨av2, cv2, l2, rfl, by omega, O2.out, N2.out, E2.out, Below.refl _ _⟩
  case round =>
    clear O2 N2 E2 k2
    obtain ⟨ap, cp, x, rfl, hx, hin⟩ := hrel
    have I1 := hide hin.out.1; have N3 := hide hin.out.2.1; have RX := hide hin.out.2.2.1; have HBW := hide hin.out.2.2.2
    clear hin
    have HM0 := hide (limbsAt_eq I1.out)
    have hxp : 0 < lv 1000000000 x := Nat.lt_of_lt_of_le (root_pos H0.out) RX.out
    have hxne : x ≠ [] := fun e => by rw [e] at hxp; exact absurd hxp (by decide)
    have HXP := hide hxp
    have HD := hide (divide_any (.slice av l1.length cv) (.slice ap x.length cp) l1 x wr.heap.size wr ((O4.out.below HBW.out (Nat.le_refl _)).mono HBW.out.size) I1.out (Nat.le_refl _) N1.out N3.out hxne (by omega) (by omega))
    clear hxp hxne
    go_wp2_with fail
    refine HD.out.mono ?_
    rintro e w5 ⟨vq, vr, q, r, rfl, hb5, oq, or_, nq, nr, eq, er, lq, lr⟩
    obtain ⟨aq, cq, hvf⟩ := oq.form
    subst hvf
    obtain ⟨ar, cr, hvf⟩ := or_.form
    subst hvf
    rw [E1.out] at eq
    have J1 := hide ((I1.out.below hb5 (Nat.le_refl _)).mono hb5.size)
    have HB5 := hide (HBW.out.trans (hb5.mono HBW.out.size))
    have HC := hide (combine_any 48 plusP plusFn (.slice ap x.length cp) (.slice aq q.length cq) x q w5.heap.size w5 J1.out oq (Nat.le_refl _) N3.out.lt nq.lt (by omega) (by omega))
    have hsum := plus_lv N3.out.lt nq.lt
    rw [eq] at hsum
    obtain ⟨l3, hl3⟩ : ∃ l, l = trimL (combL plusP x q) := ⟨_, rfl⟩
    rw [← hl3] at HC hsum
    have h3l : l3.length ≤ 200 := by
      have := hsum.2.2
      omega
    have N4 := hide hsum.1; have E3 := hide hsum.2.1
    clear hb5 oq or_ nq nr eq er lq lr HD I1 HBW hsum hl3
    go_wp2_with fail
    refine HC.out.mono ?_
    rintro e w6 ⟨v3, rfl, hb6, o3⟩
    obtain ⟨av3, cv3, hvf, _, _⟩ := o3.form
    subst hvf
    obtain ⟨g0, gs0, gb0⟩ := heap1 w6 (rowO [2])
    have HBa := hide ((hb6.trans (gb0.mono hb6.size)))
    have HD2 := hide (divide_any (.slice av3 l3.length cv3) (.slice (some ⟨w6.heap.size, 0, none⟩) 1 1) l3 [2] (w6.alloc (rowO [2])).heap.size (w6.alloc (rowO [2])) (LimbAt.of_own (o3.keep gb0)) (row_limbs g0 (by unfold maxLen; simp)) (Nat.le_refl _) N4.out two_lt (by simp) (by omega) (by simp))
    have HB6 := hide (HB5.out.trans (HBa.out.mono HB5.out.size))
    have J2 := hide ((J1.out.below HBa.out (Nat.le_refl _)).mono HBa.out.size)
    clear hb6 o3 g0 gs0 gb0 HC HB5 J1 HBa
    go_wp2_with fail
    refine HD2.out.mono ?_
    rintro e w7 ⟨vq, vr, q2, r2, rfl, hb7, oq, or_, nq, nr, eq, er, lq, lr⟩
    obtain ⟨aq2, cq2, hvf⟩ := oq.form
    subst hvf
    obtain ⟨ar2, cr2, hvf⟩ := or_.form
    subst hvf
    have eq2 : lv 1000000000 q2 = (lv 1000000000 x + n / lv 1000000000 x) / 2 := by
      rw [eq, E3.out]
      rfl
    have J3 := hide ((J2.out.below hb7 (Nat.le_refl _)).mono hb7.size)
    have HB7 := hide (HB6.out.trans (hb7.mono HB6.out.size))
    have HCM := hide (compare_any (.slice aq2 q2.length cq2) (.slice ap x.length cp) q2 x w7.heap.size w7 oq J3.out (Nat.le_refl _) nq N3.out (by omega) (by omega))
    have OQ := hide oq; have NQ := hide nq; have EQ := hide eq2
    clear hb7 oq or_ nq nr eq er lr HD2 HB6 J2 eq2
    go_wp2_with fail
    refine HCM.out.mono ?_
    rintro e w8 ⟨rc, rfl, hcr, hb8⟩
    have J4 := hide ((J3.out.below hb8 (Nat.le_refl _)).mono hb8.size)
    have OQ8 := hide ((OQ.out.below hb8 (Nat.le_refl _)).mono hb8.size)
    have HB8 := hide (HB7.out.trans (hb8.mono HB7.out.size))
    clear hb8 HCM HB7 J3 OQ
    by_cases hge : lv 1000000000 x ≤ lv 1000000000 q2
    · have hr0 : 0 ≤ rc := by
        rcases Int.lt_or_le rc 0 with h | h
        · have := hcr.1.1 h
          omega
        · exact h
      have HEN := hide (newton_end (n := n) HXP.out RX.out (by rw [← EQ.out]; exact hge))
      have HR := hide (result_any false (.slice ap x.length cp) x w8.heap.size w8 J4.out (Nat.le_refl _) N3.out (by omega) ((HT.out.on (HB4.out.trans (HB8.out.mono HB4.out.size)) hB).mono (Nat.le_trans hB (HB4.out.trans (HB8.out.mono HB4.out.size)).size)))
      rw [show valS false (lv 1000000000 x) = ((rootN n : Nat) : Int) by rw [HEN.out]; rfl] at HR
      have HBF := hide (HB4.out.trans (HB8.out.mono HB4.out.size))
      clear hge hcr
      go_wp2_with fail
      refine HR.out.mono ?_
      rintro e w9 ⟨rfl, hb9⟩
      have HB9 := hide (HBF.out.trans (hb9.mono HBF.out.size))
      clear hb9 HR
      go_wp2_with fail
      refine bodyPost_ret (results_tmp2 rfl _ _ _) rfl ?_
      exact ⟨rfl, HB9.out⟩
    · have hr0 : (0 ≤ rc) = False := eq_false (fun h => by
        have h1 : rc < 0 := hcr.1.2 (by omega)
        omega)
      have HLT := hide (show lv 1000000000 q2 < lv 1000000000 x by omega)
      have HGE := hide (show rootN n ≤ lv 1000000000 q2 by rw [EQ.out]; exact newton_ge HXP.out)
      have hql : q2.length ≤ 50 := by
        have := norm_le NQ.out N3.out.lt (Nat.le_of_lt HLT.out)
        omega
      clear hge hcr
      go_wp2_with fail
      go_roundw
      case rel => exact ⟨aq2, cq2, q2, rfl, hql, OQ8.out, NQ.out, HGE.out, HB8.out⟩
      case measure =>
        rw [limbsAt_eq OQ8.out, HM0.out]
        exact HLT.out
/-- Root at good texts. -/
theorem Root_to {s r : ByteArray} {n : Nat} (h1 : s.data.toList = Lib.itoa (n : Int)) (h3 : r.data.toList = Lib.itoa ((rootN n : Nat) : Int)) (f1 : fits (n : Int)) (h0 : 0 < n) (B : Nat) (w : World) (hB : B ≤ w.heap.size) (hT : P10 B w) :
    Calls Tryz.prog 21 #[.string s] w (Ret w (pairT r)) := by
  have c1 : chkI s.data.toList = 0 := by rw [h1]; exact chk_fits f1
  have hv : valI s.data.toList = (n : Int) := by rw [h1, val_itoa]
  have ff : fits ((rootN n : Nat) : Int) := by
    refine fits_of_le f1 ?_
    rw [Int.natAbs_natCast, Int.natAbs_natCast]
    obtain ⟨g1, _⟩ := rootN_spec n
    have hr := root_pos h0
    have : rootN n * 1 ≤ rootN n * rootN n := Nat.mul_le_mul_left _ hr
    omega
  by_cases hl : s.size ≤ 18
  · have e := Root_small s n B w c1 hl hv h0 hB hT
    rw [pairV, strB_eq h3] at e
    exact e
  · have e := Root_long s n B w c1 (by omega) hv h0 hB hT
    rw [pairV, (res_fit ff).1, (res_fit ff).2, strB_eq h3] at e
    exact e
end Go.Proofs.YthkioajalhglfaaGreatDoor
