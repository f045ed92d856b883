/-
  The reference's integers: Root walked.; The reference's roots: whole roots of short integers, squares, primes walked.; The reference's roots: the squares of small primes taken out of an integer walked.; Roots: Normal and Exact at all numbers that are not too long.; Roots: the examples of the chapter walked.; Roots: the law Floors walked.; Roots at any texts: Normal and Exact of the program and of the reference return the same.
-/
import Derived.Test.YtgddookioipjiaaGreatDoorM15
import Derived.Test.YtgddookioipjiaaGreatDoorM16
import Derived.Test.YtgddookioipjiaaGreatDoorM18
import Derived.Lib.MinMax
namespace Go.KI
theorem root_at {n R : Nat} (h : rootN n ≤ R) (h2 : R * R ≤ n) : rootN n = R := by
  refine rootN_eq h2 ?_
  obtain ⟨_, g2⟩ := rootN_spec n
  exact Nat.lt_of_lt_of_le g2 (Nat.mul_le_mul (by omega) (by omega))
theorem newton_lt {n R : Nat} (h : n < R * R) : (R + n / R) / 2 < R := by
  have hR : 0 < R := by
    rcases Nat.eq_zero_or_pos R with h0 | h0
    · rw [h0] at h; omega
    · exact h0
  have h1 : n / R < R := (Nat.div_lt_iff_lt_mul hR).2 h
  omega
end Go.KI
namespace Go.Proofs.YtgddookioipjiaaGreatDoor
open Go.RowKit Go.KP Go.KI Go.Shelf
attribute [local go_sem] Oper.semAt_some

theorem norm2 : Norm 1000000 [2] := ⟨fun z hz => by simp only [List.mem_singleton] at hz; omega, .inr (by simp [lat])⟩
theorem row2 {w : World} : LimbAt (w.alloc (.cells #[.int .i64 2] 3)).heap.size (w.alloc (.cells #[.int .i64 2] 3)) (.slice (some ⟨w.heap.size, 0, none⟩) ([2] : List Nat).length 1) [2] := row_limbs (heap_alloc_new w (rowO [2])) (by simp [maxLen])
set_option maxRecDepth 100000 in
set_option maxHeartbeats 8000000 in
theorem rRoot_good (s : ByteArray) (n : Nat) (w : World) (c1 : chkI s.data.toList = 0) (hn : valI s.data.toList = (n : Int)) :
    Calls Tryz.prog 104 #[.string s] w (Ret w (pairV (Lib.itoa ((rootN n : Nat) : Int)) 0)) := by
  have l1 := (chk_digs c1).2
  rw [bytes_len] at l1
  have HC := hide (rcheck_any s (by omega) w)
  rw [c1] at HC
  have HRD := hide (fun w => rread_full s c1 w)
  have hsi := (chk_ok c1).1
  rw [hn] at hsi
  rw [show decide (s.data.toList.head? = some 45) = false from decide_eq_false (fun h => by
    rw [hsi] at h
    have := (head_itoa _).1 h
    omega), hn] at HRD
  have hlt : n < 10 ^ s.size := by
    have h := short_val (n := s.size) c1 (by rw [bytes_len]; exact Nat.le_refl _) (by have := chk_pos c1; rw [bytes_len] at this; exact this)
    rw [hn, Int.natAbs_natCast] at h
    exact h
  obtain ⟨hh, hhh⟩ : ∃ h, h = (s.size + 1) / 2 := ⟨_, rfl⟩
  have HST := hide (root_start (k := hh) hlt (by omega))
  have hhi : ((s.size : Int) + 1) / 2 = (hh : Int) := by omega
  have hh2 : hh ≤ 200 := by omega
  have hsl : s.size ≤ 301 := l1
  clear c1 l1 hn hsi hlt hhh
  go_enter Tryz.func104, Tryz.ntmps104
  go_wp2_with fail
  refine HC.out.mono ?_
  rintro e w1 ⟨rfl, hb1⟩
  have HB1 := hide hb1
  clear hb1 HC
  go_wp2_with fail
  refine (HRD.out _).mono ?_
  rintro e w2 ⟨vx, lx, rfl, hb2, ox, nx, qx, kx⟩
  obtain ⟨ax, cx, hvf, _, _⟩ := ox.form
  subst hvf
  have H3 := hide (heap1 w2 (bigO false (.slice ax lx.length cx)))
  have HB3 := hide (HB1.out.trans ((hb2.mono HB1.out.size).trans (H3.out.2.2.mono (Nat.le_trans HB1.out.size hb2.size))))
  have OX := hide ((ox.keep H3.out.2.2).mono (Nat.zero_le _)); have NX := hide nx
  have QX := hide (show lv 1000000 lx = n by
    have h : ((lv 1000000 lx : Nat) : Int) = (n : Int) := qx
    omega)
  have hnw0 : w.heap.size ≤ w2.heap.size := Nat.le_trans HB1.out.size hb2.size
  obtain ⟨w3, hw3⟩ : ∃ w3, w2.alloc (bigO false (.slice ax lx.length cx)) = w3 := ⟨_, rfl⟩
  have H4 := hide (show w3.heap[w2.heap.size]? = some (bigO false (.slice ax lx.length cx)) by rw [← hw3]; exact H3.out.1)
  rw [hw3] at HB3 OX
  have HW3 := hide hw3
  clear hb2 ox nx qx HB1 HRD H3 hw3
  have e0 := cell_blk H4.out 0
  go_wp2_with fail
  rw [show w2.alloc (.cells #[.bool false, .slice ax lx.length cx] 151) = w3 from HW3.out]
  clear e0
  obtain ⟨nb, hnb⟩ : ∃ nb, nb = w2.heap.size := ⟨_, rfl⟩
  rw [← hnb] at H4 hnw0 ⊢
  clear hnb HW3
  go_loopw [6, 7] (fun p i wr => ∃ (k : Nat) (t : ByteArray), k ≤ hh ∧ i = .int .i64 k ∧ p = .string t ∧ t.size ≤ 1 + k ∧ Hid (t.data.toList = [49] ++ List.replicate k 48) ∧ wr = w3) (fun _ i _ => hh - (intOf i).toNat)
  case atStart => exact ⟨0, ⟨#[49]⟩, Nat.zero_le _, rfl, rfl, by decide, rfl, rfl⟩
  case round =>
    obtain ⟨k, t, hk, rfl, rfl, hts, htt, rfl⟩ := hrel
    by_cases hlt : k < hh
    · have hki : (k : Int) < (hh : Int) := by omega
      have hov : (9223372036854775807 < t.size + 1) = False := eq_false (by omega)
      have HTT := hide htt.out
      clear htt hlt
      go_wp2_with fail
      go_roundw
      case rel =>
        refine ⟨k + 1, _, by omega, by go_num, rfl, ?_, ?_, trivial⟩
        · rw [ByteArray.size_append]
          have : (⟨#[48]⟩ : ByteArray).size = 1 := rfl
          omega
        · have h := HTT.out
          show (t ++ ⟨#[48]⟩).data.toList = _
          rw [List.replicate_succ', ← List.append_assoc, ← h]
          simp
      case measure => simp [intOf]; omega
    · obtain rfl : k = hh := by omega
      have hki : ((k : Int) < (k : Int)) = False := eq_false (by omega)
      obtain ⟨c2, v2⟩ := start_text k hh2
      have HR2 := hide (fun w => rread_good t (by rw [htt.out]; exact c2) w)
      rw [htt.out, v2] at HR2
      clear hlt htt hts c2 v2
      go_wp2_with fail
      refine (HR2.out _).mono ?_
      rintro e w4 ⟨m1, v1, l1, rfl, hb4, o1, n1, q1, k1⟩
      obtain ⟨a1, g1, hvf, _, _⟩ := o1.form
      subst hvf
      have HB4 := hide (HB3.out.trans (hb4.mono HB3.out.size))
      have H5 := hide (below_blk hb4 H4.out (lt_blk H4.out))
      have OX4 := hide (OX.out.keep hb4)
      have O1 := hide (LimbAt.of_own o1); have N1 := hide n1
      have Q1 := hide (show lv 1000000 l1 = 10 ^ k by
        have h := congrArg Int.natAbs q1
        rw [valS_abs, Int.natAbs_natCast] at h
        exact h)
      clear hb4 o1 n1 q1 HR2 HB3 OX H4
      have hf1 := fun w => rfield_limbs m1 (.slice a1 l1.length g1) w
      go_wp2_with fail
      clear hf1
      have HLE := hide (show rootN n ≤ lv 1000000 l1 by rw [Q1.out]; exact HST.out)
      go_loopw [8] (fun r wr => ∃ (a : Option Addr) (c : Nat) (l : List Nat), r = .slice a l.length c ∧ l.length ≤ 60 ∧ Hid (LimbAt wr.heap.size wr (.slice a l.length c) l ∧ Norm 1000000 l ∧ rootN n ≤ lv 1000000 l ∧ wr.heap[nb]? = some (bigO false (.slice ax lx.length cx)) ∧ OwnL 0 wr (.slice ax lx.length cx) lx ∧ Below w.heap.size w wr)) (fun r wr => lv 1000000 (limbsAt wr r))
      case atStart => exact ⟨a1, g1, l1, rfl, k1, O1.out, N1.out, HLE.out, H5.out, OX4.out, HB4.out⟩
      case round =>
        obtain ⟨ar, cr, r, rfl, hr, hin⟩ := hrel
        obtain ⟨iL, iN, iG, iH, iX, iW⟩ := hin.out
        have e1 := cell_blk iH 1
        have hlt2 := lt_blk iH
        have lxl : lx.length ≤ 60 := kx
        have HT := hide (rtimes_any (.slice ar r.length cr) (.slice ar r.length cr) r r wr.heap.size wr.drew iL iL (Nat.le_refl _) iN.lt iN.lt (by omega) (by omega))
        have HL := hide iL; have HN := hide iN; have HG := hide iG; have HH := hide iH; have HX := hide iX; have HW := hide iW
        clear iL iN iG iH iX iW hin
        go_wp2_with fail
        go_region_held3 (fun w' => w'.cell? ⟨nb, 1, none⟩ = some (.slice ax lx.length cx)) (first | exact e1 | exact d1 | exact x1)
          (first
            | (go_at_call 163
               refine HT.out.mono ?_
               rintro e w5 ⟨l3, ⟨v3, rfl, hb5, o3⟩, n3, q3, k3⟩
               obtain ⟨a3, c3, hvf, _, _⟩ := o3.form
               subst hvf
               have HB5 := hide (show Below wr.heap.size wr w5 from below_ahead hb5)
               have d1 : w5.cell? ⟨nb, 1, none⟩ = some (.slice ax lx.length cx) := cell_blk (below_blk HB5.out HH.out hlt2) 1
               have O3 := hide (LimbAt.of_own o3); have N3 := hide n3; have Q3 := hide q3
               clear hb5 o3 n3 q3)
            | (go_at_call 162
               refine (rsize_any (.slice a3 l3.length c3) (.slice ax lx.length cx) l3 lx w5.heap.size w5 O3.out (.of_own (HX.out.keep HB5.out)) (Nat.le_refl _) N3.out NX.out (by omega)).mono ?_
               rintro e w6 ⟨r2, rfl, hr2, hb6⟩
               have HB6 := hide (show Below wr.heap.size wr w6 from HB5.out.trans (hb6.mono HB5.out.size))
               have x1 : w6.cell? ⟨nb, 1, none⟩ = some (.slice ax lx.length cx) := cell_blk (below_blk HB6.out HH.out hlt2) 1
               have HR2 := hide hr2
               clear hb6 hr2)
            | fail)
        have HW6 := hide (HW.out.trans (HB6.out.mono HW.out.size))
        have HH6 := hide (below_blk HB6.out HH.out hlt2)
        have HX6 := hide (HX.out.keep HB6.out)
        have HL6 := hide ((HL.out.below HB6.out (Nat.le_refl _)).mono HB6.out.size)
        have hlt6 := lt_blk HH6.out
        have hs6 := HB6.out.size
        have HC := hide (show CmpRes r2 (lv 1000000 r * lv 1000000 r) n by have h := HR2.out; rw [Q3.out, QX.out] at h; exact h)
        obtain ⟨wo, hwo⟩ : ∃ wo, wo = w6 := ⟨_, rfl⟩
        rw [← hwo] at HW6 HH6 HX6 HL6 hlt6 hs6 x1 ⊢
        clear hwo e1 d1 HB5 HB6 O3 N3 Q3 HH HX HW HT HR2
        by_cases hgt : 0 < r2
        · have hsq : n < lv 1000000 r * lv 1000000 r := by
            have h := HC.out
            unfold CmpRes at h
            rcases Nat.lt_or_ge n (lv 1000000 r * lv 1000000 r) with h1 | h1
            · exact h1
            · exfalso
              rcases Nat.lt_or_eq_of_le h1 with h2 | h2
              · have := h.1.2 h2
                omega
              · have := h.2.2 h2
                omega
          have hrp : 0 < lv 1000000 r := by
            rcases Nat.eq_zero_or_pos (lv 1000000 r) with h | h
            · rw [h] at hsq; omega
            · exact h
          have hrn : r ≠ [] := fun e => by rw [e, lv_nil] at hrp; omega
          have HSQ := hide (newton_lt hsq); have HGE := hide (newton_ge (n := n) hrp)
          have HDV := hide (rdivide_any (.slice ax lx.length cx) (.slice ar r.length cr) lx r wo.heap.size wo (.of_own HX6.out) HL6.out (Nat.le_refl _) NX.out.lt HN.out hrn (by omega) (by omega))
          clear hsq hrp hrn HC
          go_wp2_with fail
          refine HDV.out.mono ?_
          rintro e w7 ⟨vq, vr, q, rr, rfl, hb7, oq, or_, nq, nr, eq, er, lq⟩
          obtain ⟨aq, cq, hvf, _, _⟩ := oq.form
          subst hvf
          have HW7 := hide (HW6.out.trans (hb7.mono HW6.out.size)); have HH7 := hide (below_blk hb7 HH6.out hlt6); have HX7 := hide (HX6.out.keep hb7)
          have HL7 := hide ((HL6.out.below hb7 (Nat.le_refl _)).mono hb7.size)
          have OQ := hide (LimbAt.of_own oq); have NQ := hide nq
          have EQ := hide (show lv 1000000 q = n / lv 1000000 r by rw [eq, QX.out])
          have hlt7 := lt_blk HH7.out
          clear hb7 oq or_ nq nr eq er HDV HW6 HH6 HX6 HL6 x1 hlt6
          go_wp2_with fail
          refine (rplus_any (.slice ar r.length cr) (.slice aq q.length cq) r q w7.heap.size w7 HL7.out OQ.out (Nat.le_refl _) HN.out.lt NQ.out.lt (by omega) (by omega)).mono ?_
          rintro e w8 ⟨l8, ⟨v8, rfl, hb8, o8⟩, n8, q8, k8⟩
          obtain ⟨a8, c8, hvf, _, _⟩ := o8.form
          subst hvf
          have H2 := hide (row2 (w := w8))
          have hb8' := (show Below w7.heap.size w7 (w8.alloc (.cells #[.int .i64 2] 3)) from hb8.alloc hb8.size _)
          have HW8 := hide (HW7.out.trans (hb8'.mono HW7.out.size)); have HH8 := hide (below_blk hb8' HH7.out hlt7); have HX8 := hide (HX7.out.keep hb8')
          have O8 := hide (LimbAt.of_own (o8.keep ((Below.refl _ _).alloc (Nat.le_refl _) (.cells #[.int .i64 2] 3)))); have N8 := hide n8
          have Q8 := hide (show lv 1000000 l8 = lv 1000000 r + n / lv 1000000 r by rw [q8, EQ.out])
          have hk8 : l8.length ≤ 200 := by omega
          clear hb8 hb8' o8 n8 q8 k8 HW7 HH7 HX7 HL7 OQ NQ EQ hlt7
          go_wp2_with fail
          obtain ⟨w9, hw9⟩ : ∃ w9, w8.alloc (.cells #[.int .i64 2] 3) = w9 := ⟨_, rfl⟩
          rw [hw9] at H2 HW8 HH8 HX8 O8 ⊢
          have hlt9 := lt_blk HH8.out
          clear hw9
          refine (rdivide_any (.slice a8 l8.length c8) (.slice (some ⟨w8.heap.size, 0, none⟩) 1 1) l8 [2] w9.heap.size w9 O8.out H2.out (Nat.le_refl _) N8.out.lt norm2 (by simp) (by omega) (by simp)).mono ?_
          rintro e w10 ⟨vq2, vr2, q2, r3, rfl, hb10, oq2, or2, nq2, nr2, eq2, er2, lq2⟩
          obtain ⟨aq2, cq2, hvf, _, _⟩ := oq2.form
          subst hvf
          have HW10 := hide (HW8.out.trans (hb10.mono HW8.out.size)); have HH10 := hide (below_blk hb10 HH8.out hlt9); have HX10 := hide (HX8.out.keep hb10)
          have O10 := hide (LimbAt.of_own oq2); have N10 := hide nq2
          have E10 := hide (show lv 1000000 q2 = (lv 1000000 r + n / lv 1000000 r) / 2 by rw [eq2, Q8.out]; congr 1)
          have hk10 : q2.length ≤ 60 := by
            have h := norm_le_b (b := 1000000) (by omega) nq2 HN.out.lt (by rw [E10.out]; exact Nat.le_of_lt HSQ.out)
            omega
          clear hb10 oq2 or2 nq2 nr2 eq2 er2 lq2 HW8 HH8 HX8 O8 N8 Q8 H2
          go_wp2_with fail
          go_roundw
          case rel => exact ⟨aq2, cq2, q2, rfl, hk10, O10.out, N10.out, by rw [E10.out]; exact HGE.out, HH10.out, HX10.out, HW10.out⟩
          case measure =>
            rw [limbsAt_eq O10.out, limbsAt_eq HL.out, E10.out]
            exact HSQ.out
        · have hsq : lv 1000000 r * lv 1000000 r ≤ n := by
            have h := HC.out
            unfold CmpRes at h
            rcases Nat.lt_or_ge n (lv 1000000 r * lv 1000000 r) with h1 | h1
            · exfalso
              rcases Int.lt_trichotomy r2 0 with h2 | h2 | h2
              · have := h.1.1 h2
                omega
              · have := h.2.1 h2
                omega
              · exact hgt h2
            · exact h1
          have hrt := root_at HG.out hsq
          have hgt1 : decide (0 < r2) = false := decide_eq_false hgt
          rw [hgt1]
          have HWR := hide (rwrite_any false (.slice ar r.length cr) r wo.heap.size wo HL6.out (Nat.le_refl _) HN.out (by omega))
          rw [show valS false (lv 1000000 r) = ((rootN n : Nat) : Int) by rw [hrt]; rfl] at HWR
          clear hsq hrt hgt HC hgt1
          go_wp2_with fail
          refine HWR.out.mono ?_
          rintro e w7 ⟨rfl, hb7⟩
          have HB7 := hide (HW6.out.trans (hb7.mono HW6.out.size))
          clear hb7 HWR
          go_wp2_with fail
          refine bodyPost_ret (results_tmp2 rfl _ _ _) rfl ?_
          exact ⟨rfl, HB7.out⟩
end Go.Proofs.YtgddookioipjiaaGreatDoor
namespace Go.Proofs.YtgddookioipjiaaGreatDoor
open Go.RowKit Go.KP Go.KI Go.Shelf
attribute [local go_sem] Oper.semAt_some

set_option maxRecDepth 100000 in
set_option maxHeartbeats 8000000 in
theorem s3native_any (n : Nat) (hn : n < 1000000000000000000) (w : World) :
    Calls Tryz.prog 103 #[.int .i64 n] w (fun e w' => e = .returned (.int .i64 (rootN n)) ∧ w' = w) := by
  have HN := hide hn
  have hn1 : (n : Int) < 1000000000000000000 := by omega
  clear hn
  go_enter Tryz.func103, Tryz.ntmps103
  go_wp2_with fail
  go_loopw [3, 4] (fun r b wr => ∃ R j V : Nat, j ≤ 30 ∧ r = .int .i64 R ∧ b = .int .i64 V ∧ Hid (V = 2 ^ j / 2) ∧ Hid (R + 2 ^ j ≤ 1073741824 ∧ R * R ≤ n ∧ n < (R + 2 ^ j) * (R + 2 ^ j)) ∧ wr = w) (fun _ b _ => (intOf b).toNat)
  case atStart =>
    refine ⟨0, 30, 536870912, by omega, rfl, rfl, hide (by decide), ⟨by decide, Nat.zero_le _, ?_⟩, rfl⟩
    have := HN.out
    exact Nat.lt_of_lt_of_le this (by decide)
  case round =>
    obtain ⟨R, j, b, hj, rfl, rfl, hb, hin, rfl⟩ := hrel
    have HB := hide hb.out
    have IN := hide hin.out
    clear hb hin
    cases j with
    | zero =>
      have hb0 : b = 0 := HB.out
      have hr : rootN n = R := rootN_eq IN.out.2.1 IN.out.2.2
      have HR := hide hr
      subst hb0
      have g : ((0 : Int) < ((0 : Nat) : Int)) = False := eq_false (by omega)
      clear hr hj
      go_wp2_with fail
      go_ret
      exact ⟨by rw [HR.out]; rfl, rfl⟩
    | succ i =>
      have e1 : b = 2 ^ i := by rw [HB.out, Nat.pow_succ]; omega
      have e2 : 2 ^ (i + 1) = b + b := by rw [Nat.pow_succ, ← e1]; omega
      have hbp : 0 < b := by rw [e1]; exact Nat.pow_pos (by omega)
      have I2 := IN.out
      rw [e2] at I2
      obtain ⟨c, hc⟩ : ∃ c, c = R + b := ⟨_, rfl⟩
      have hci : (R : Int) + (b : Int) = (c : Int) := by omega
      obtain ⟨Q, hQ⟩ : ∃ Q, Q = c * c := ⟨_, rfl⟩
      have hQi : (c : Int) * (c : Int) = (Q : Int) := by rw [hQ, Int.natCast_mul]
      have hcl : c ≤ 1073741824 := by omega
      have hQl : Q ≤ 1152921504606846976 := by rw [hQ]; exact Nat.le_trans (Nat.mul_le_mul hcl hcl) (by decide)
      have hbl : b ≤ 1073741824 := by omega
      have hRl : R ≤ 1073741824 := by omega
      have hdi : (b : Int) / 2 = ((b / 2 : Nat) : Int) := by omega
      obtain ⟨h, hh⟩ : ∃ h, h = b / 2 := ⟨_, rfl⟩
      rw [← hh] at hdi
      have hlt : h < b := by omega
      have g0 : (0 : Int) < (b : Int) := by omega
      by_cases hle : Q ≤ n
      · have g1 : (Q : Int) ≤ (n : Int) := by omega
        have HX := hide (show h = 2 ^ i / 2 ∧ (c + 2 ^ i ≤ 1073741824 ∧ c * c ≤ n ∧ n < (c + 2 ^ i) * (c + 2 ^ i)) from ⟨by rw [hh, e1], by rw [← e1]; omega, by rw [← hQ]; exact hle, by rw [← e1, hc, show R + b + b = R + (b + b) by omega]; exact I2.2.2⟩)
        clear e1 e2 I2 hc hQ hh hle IN HB
        go_wp2_with fail
        go_roundw
        case rel => exact ⟨c, i, h, by omega, rfl, rfl, hide HX.out.1, hide HX.out.2, trivial⟩
        case measure => simp only [intOf]; omega
      · have g1 : ((Q : Int) ≤ (n : Int)) = False := eq_false (by omega)
        have HX := hide (show h = 2 ^ i / 2 ∧ (R + 2 ^ i ≤ 1073741824 ∧ R * R ≤ n ∧ n < (R + 2 ^ i) * (R + 2 ^ i)) from ⟨by rw [hh, e1], by rw [← e1]; omega, I2.2.1, by rw [← e1, ← hc, ← hQ]; omega⟩)
        clear e1 e2 I2 hc hQ hh hle IN HB
        go_wp2_with fail
        go_roundw
        case rel => exact ⟨R, i, h, by omega, rfl, rfl, hide HX.out.1, hide HX.out.2, trivial⟩
        case measure => simp only [intOf]; omega
set_option maxRecDepth 100000 in
set_option maxHeartbeats 4000000 in
theorem s3square_I {n : Nat} (f : fits (n : Int)) (B : Nat) (w : World) (hB : B ≤ w.heap.size) (hT : P10 B w) :
    Calls Tryz.prog 51 #[.string (iB (n : Int))] w (Ret w (.tuple #[.string (iB ((rootN n : Nat) : Int)), .bool (sqI n)])) := by
  have HT := hide hT
  obtain ⟨r1, r2⟩ := rootN_spec n
  have hsz : (iB (n : Int)).size = (Lib.decDigits n).length := by rw [← bytes_len, iB_nonneg (by omega), Int.natAbs_natCast]
  have c1 : chkI (iB (n : Int)).data.toList = 0 := by rw [iB_list]; exact chk_fits f
  have v1 : valI (iB (n : Int)).data.toList = (n : Int) := by rw [iB_list, val_itoa]
  by_cases hs : (iB (n : Int)).size ≤ 17
  · have hn : n < 100000000000000000 := (dec_len_le (n := 17) (by omega)).1 (by omega)
    have HA := hide (fun w => atoi_any (iB (n : Int)) c1 (by omega) w)
    rw [v1] at HA
    have HR := hide (fun w => s3native_any n (by omega) w)
    have hr : rootN n < 1000000000 := by
      refine Nat.lt_of_not_le fun h => ?_
      have := Nat.mul_le_mul h h
      omega
    have HI : Hid (∀ w, B ≤ w.heap.size → P10 B w → Calls Tryz.prog 57 #[.int .i64 ((rootN n : Nat) : Int)] w (Ret w (.string (iB ((rootN n : Nat) : Int))))) := hide (fun w _ hT => itoa_any ((rootN n : Nat) : Int) (by omega) (by omega) B w hT)
    have e : sqI n = (((rootN n : Nat) : Int) * ((rootN n : Nat) : Int) == (n : Int)) := by
      unfold sqI
      rw [Bool.eq_iff_iff]
      simp only [decide_eq_true_iff, beq_iff_eq]
      constructor
      · intro h; exact_mod_cast h
      · intro h; exact_mod_cast h
    rw [e]
    have hm : (rootN n) * (rootN n) < 1000000000000000000 := by omega
    have hmi : ((rootN n : Nat) : Int) * ((rootN n : Nat) : Int) < 1000000000000000000 := by
      have h : ((rootN n * rootN n : Nat) : Int) < 1000000000000000000 := by omega
      rw [Int.natCast_mul] at h
      exact h
    have hm0 : (0 : Int) ≤ ((rootN n : Nat) : Int) * ((rootN n : Nat) : Int) := Int.mul_nonneg (by omega) (by omega)
    have g17 : ((iB (n : Int)).size : Int) ≤ 17 := by omega
    generalize iB ((rootN n : Nat) : Int) = R at HI ⊢
    generalize ((rootN n : Nat) : Int) = r at HR HI hmi hm0 ⊢
    have vv : IntKind.i64.wrap (r * r) = r * r := IntWalk.i64_in _ (by omega)
    obtain ⟨b, hb⟩ : ∃ b, b = (r * r == (n : Int)) := ⟨_, rfl⟩
    rw [← hb]
    have HB := hide hb
    generalize iB (n : Int) = X at HA g17 ⊢
    clear hmi hm0 hr hn hs hsz e r1 r2 f hT hb c1 v1 hm
    go_enter Tryz.func51, Tryz.ntmps51
    go_wp2_with fail
    refine (HA.out _).mono ?_
    rintro e w1 ⟨rfl, hb1⟩
    have HB1 := hide hb1
    clear hb1
    go_wp2_with fail
    refine (HR.out _).mono ?_
    rintro e w2 ⟨rfl, rfl⟩
    go_wp2_with fail
    refine (HI.out _ (Nat.le_trans hB HB1.out.size) (HT.out.on HB1.out hB)).mono ?_
    rintro e w3 ⟨rfl, hb3⟩
    have HB3 := hide (HB1.out.trans (hb3.mono HB1.out.size))
    clear hb3
    go_wp2_with fail
    refine bodyPost_ret (results_tmp2 rfl _ _ _) rfl ?_
    exact ⟨by rw [HB.out]; rfl, HB3.out⟩
  · have h0 : 0 < n := Nat.pos_of_ne_zero fun e => hs (by rw [e] at hsz; rw [show (Lib.decDigits 0).length = 1 by rw [dec_zero]; rfl] at hsz; rw [e]; omega)
    have fr : fits ((rootN n : Nat) : Int) := fits_root f
    have frr : fits (((rootN n : Nat) : Int) * ((rootN n : Nat) : Int)) := fits_of_le f (by rw [Int.natAbs_mul, Int.natAbs_natCast, Int.natAbs_natCast]; exact r1)
    have HR : Hid (∀ w, Calls Tryz.prog 104 #[.string (iB (n : Int))] w (Ret w (pairT (iB ((rootN n : Nat) : Int))))) := hide (fun w => rRoot_good (iB (n : Int)) n w c1 v1)
    have HM := hide (fun w hB hT => s3times_I fr fr frr B w hB hT)
    have e : ((iB (((rootN n : Nat) : Int) * ((rootN n : Nat) : Int))).toList == (iB (n : Int)).toList) = sqI n := by
      rw [ByteArray.toList_eq, ByteArray.toList_eq, iB_list, iB_list]
      unfold sqI
      rw [Bool.eq_iff_iff]
      simp only [decide_eq_true_iff, beq_iff_eq]
      constructor
      · intro h; have := itoa_inj h; exact_mod_cast this
      · intro h; congr 1; exact_mod_cast h
    have g17 : (((iB (n : Int)).size : Int) ≤ 17) = False := eq_false (by omega)
    clear hs hsz h0 fr frr r1 r2 f hT c1 v1
    generalize iB (((rootN n : Nat) : Int) * ((rootN n : Nat) : Int)) = Q at HM e
    generalize iB ((rootN n : Nat) : Int) = R at HR HM ⊢
    generalize iB (n : Int) = X at HR e g17 ⊢
    generalize sqI n = b at e ⊢
    go_enter Tryz.func51, Tryz.ntmps51
    go_wp2_with fail
    refine (HR.out _).mono ?_
    rintro e w1 ⟨rfl, hb1⟩
    have HB1 := hide hb1
    clear hb1
    go_wp2_with fail
    refine (HM.out _ (Nat.le_trans hB HB1.out.size) (HT.out.on HB1.out hB)).mono ?_
    rintro e w2 ⟨rfl, hb2⟩
    have HB2 := hide (HB1.out.trans (hb2.mono HB1.out.size))
    clear hb2
    go_wp2_with fail
    refine bodyPost_ret (results_tmp2 rfl _ _ _) rfl ?_
    exact ⟨rfl, HB2.out⟩
abbrev prRow : Obj := .cells #[.int .i64 2, .int .i64 3, .int .i64 5, .int .i64 7, .int .i64 11, .int .i64 13, .int .i64 17, .int .i64 19, .int .i64 23, .int .i64 29, .int .i64 31, .int .i64 37, .int .i64 41, .int .i64 43, .int .i64 47, .int .i64 53, .int .i64 59, .int .i64 61, .int .i64 67, .int .i64 71, .int .i64 73, .int .i64 79, .int .i64 83, .int .i64 89, .int .i64 97] 3
theorem prRow_cell {w : World} {b k : Nat} (h : w.heap[b]? = some prRow) (hk : k < 25) : w.cell? ⟨b, k, none⟩ = some (.int .i64 (primes25.getD k 0)) := by
  rw [cell_blk h k]
  have key : ∀ k : Fin 25, (#[.int .i64 2, .int .i64 3, .int .i64 5, .int .i64 7, .int .i64 11, .int .i64 13, .int .i64 17, .int .i64 19, .int .i64 23, .int .i64 29, .int .i64 31, .int .i64 37, .int .i64 41, .int .i64 43, .int .i64 47, .int .i64 53, .int .i64 59, .int .i64 61, .int .i64 67, .int .i64 71, .int .i64 73, .int .i64 79, .int .i64 83, .int .i64 89, .int .i64 97] : Array Value)[k.val]? = some (.int .i64 ((primes25.getD k.val 0 : Nat) : Int)) := by
    intro k
    have hk : k.val = 0 ∨ k.val = 1 ∨ k.val = 2 ∨ k.val = 3 ∨ k.val = 4 ∨ k.val = 5 ∨ k.val = 6 ∨ k.val = 7 ∨ k.val = 8 ∨ k.val = 9 ∨ k.val = 10 ∨ k.val = 11 ∨ k.val = 12 ∨ k.val = 13 ∨ k.val = 14 ∨ k.val = 15 ∨ k.val = 16 ∨ k.val = 17 ∨ k.val = 18 ∨ k.val = 19 ∨ k.val = 20 ∨ k.val = 21 ∨ k.val = 22 ∨ k.val = 23 ∨ k.val = 24 := by omega
    rcases hk with h | h | h | h | h | h | h | h | h | h | h | h | h | h | h | h | h | h | h | h | h | h | h | h | h
    all_goals (simp only [h]; rfl)
  exact key ⟨k, hk⟩
set_option maxRecDepth 100000 in
theorem s3primes_at (w : World) : Calls Tryz.prog 100 #[] w (fun e w' => e = .returned (.slice (some ⟨w.heap.size, 0, none⟩) 25 25) ∧ w' = w.alloc prRow) := by
  go_enter Tryz.func100, Tryz.ntmps100
  go_wp2_with fail
  go_ret
  exact ⟨rfl, rfl⟩
end Go.Proofs.YtgddookioipjiaaGreatDoor
namespace Go.Proofs.YtgddookioipjiaaGreatDoor
open Go.RowKit Go.KP Go.KI Go.Shelf
attribute [local go_sem] Oper.semAt_some

/-- The text of a string value. -/
def strOf : Value → ByteArray
  | .string s => s
  | _ => ⟨#[]⟩
set_option maxRecDepth 100000 in
set_option maxHeartbeats 16000000 in
theorem s3reduced_short {m : Nat} (h0 : 0 < m) (f : fits (m : Int)) (hs : (iB (m : Int)).size ≤ 17) (B : Nat) (w : World) (hB : B ≤ w.heap.size) (hT : P10 B w) :
    Calls Tryz.prog 49 #[.string (iB (m : Int))] w (Ret w (.tuple #[.string (iB ((strips primes25 1 m).2 : Int)), .string (iB ((strips primes25 1 m).1 : Int))])) := by
  have HT := hide hT
  have hsz : (iB (m : Int)).size = (Lib.decDigits m).length := by rw [← bytes_len, iB_nonneg (by omega), Int.natAbs_natCast]
  have hm : m < 100000000000000000 := (dec_len_le (n := 17) (by omega)).1 (by omega)
  have HA := hide (fun w => atoi_any (iB (m : Int)) (by rw [iB_list]; exact chk_fits f) (by omega) w)
  rw [iB_list, val_itoa] at HA
  have HI := hide (fun (z : Nat) (hz : z ≤ m) w (hT : P10 B w) => itoa_any (z : Int) (by omega) (by omega) B w hT)
  have HP := hide (fun w => s3primes_at w)
  have g17 : ((iB (m : Int)).size : Int) ≤ 17 := by omega
  have hm0 : 0 < m := h0
  obtain ⟨V2, hV2⟩ : ∃ V, V = iB ((strips primes25 1 m).2 : Int) := ⟨_, rfl⟩
  obtain ⟨V1, hV1⟩ : ∃ V, V = iB ((strips primes25 1 m).1 : Int) := ⟨_, rfl⟩
  rw [← hV1, ← hV2]
  have E1 := hide hV1
  have E2 := hide hV2
  generalize iB (m : Int) = X at *
  clear hs hsz f hT hV1 hV2 h0
  have XP := hide (heap1 w prRow)
  go_enter Tryz.func49, Tryz.ntmps49
  go_wp2_with fail
  refine (HP.out _).mono ?_
  rintro e wS ⟨rfl, rfl⟩
  obtain ⟨wS, hwS⟩ : ∃ W, W = w.alloc prRow := ⟨_, rfl⟩
  rw [← hwS] at XP ⊢
  have GS := hide XP.out.1
  have HB0 := hide XP.out.2.2
  clear hwS XP
  go_wp2_with fail
  refine (HA.out _).mono ?_
  rintro e wA ⟨rfl, hbA⟩
  have GS := hide (below_blk hbA GS.out (lt_blk GS.out))
  have HB1 := hide (HB0.out.trans (hbA.mono HB0.out.size))
  clear hbA HA
  go_wp2_with fail
  go_loopw [5, 7, 8] (fun ll cc i wr => ∃ c left k : Nat, k ≤ 25 ∧ cc = .int .i64 c ∧ ll = .int .i64 left ∧ i = .int .i64 k ∧ c ≤ m ∧ left ≤ m ∧ 0 < left ∧ 0 < c ∧ Hid (strips (primes25.drop k) c left = strips primes25 1 m ∧ c * c * left = m ∧ Below wA.heap.size wA wr)) (fun _ _ i _ => 25 - (intOf i).toNat)
  case atStart => exact ⟨1, m, 0, by omega, rfl, rfl, rfl, by omega, Nat.le_refl _, hm0, by omega, ⟨rfl, by omega, Below.refl _ _⟩⟩
  case round =>
    obtain ⟨c, left, k, hk, rfl, rfl, rfl, hc, hl, hl0, hc0, hin⟩ := hrel
    have IN := hide hin.out
    clear hin
    obtain ⟨wo, hwo⟩ : ∃ wo, wo = wr := ⟨_, rfl⟩
    subst hwo
    by_cases hlt : k < 25
    · have hki : (k : Int) < 25 := by omega
      have hk0 : (0 : Int) ≤ (k : Int) := by omega
      have hcellA : Hid (∀ W, Below wA.heap.size wA W → W.cell? ⟨w.heap.size, k, none⟩ = some (.int .i64 (primes25.getD k 0))) := hide (fun W hb => prRow_cell (below_blk hb GS.out (lt_blk GS.out)) hlt)
      obtain ⟨b1, b2⟩ := prime_bounds hlt
      have HD := hide (strips_drop hlt)
      obtain ⟨q, hq⟩ : ∃ q, q = primes25.getD k 0 := ⟨_, rfl⟩
      rw [← hq] at b1 b2 HD hcellA
      clear hq hlt
      go_wp2_with fail
      go_loopw [5, 7] (fun ll cc wr2 => ∃ c2 l2 : Nat, cc = .int .i64 c2 ∧ ll = .int .i64 l2 ∧ c2 ≤ m ∧ l2 ≤ m ∧ 0 < l2 ∧ 0 < c2 ∧ Hid (stripD q c2 l2 = stripD q c left ∧ c2 * c2 * l2 = m ∧ Below wA.heap.size wA wr2)) (fun ll _ _ => (intOf ll).toNat)
      case atStart => exact ⟨c, left, rfl, rfl, hc, hl, hl0, hc0, ⟨rfl, IN.out.2.1, IN.out.2.2⟩⟩
      clear hc hl hl0 hc0
      case round =>
        obtain ⟨c2, l2, rfl, rfl, hc2, hl2, hl20, hc20, hin2⟩ := hrel
        have I2 := hide hin2.out
        clear hin2
        have hcell := hcellA.out _ I2.out.2.2
        have hcell2 : ∀ n, (wr.drewN n).cell? ⟨w.heap.size, k, none⟩ = some (.int .i64 (q : Int)) := fun n => hcellA.out _ (below_drewN I2.out.2.2 n)
        obtain ⟨Q, hQ⟩ : ∃ Q, Q = q * q := ⟨_, rfl⟩
        have hQi : (q : Int) * (q : Int) = (Q : Int) := by rw [hQ, Int.natCast_mul]
        have hQ1 : 4 ≤ Q ∧ Q ≤ 9409 := by rw [hQ]; exact ⟨Nat.mul_le_mul b1 b1, Nat.mul_le_mul b2 b2⟩
        have hQ0 : ((Q : Int) == 0) = false := by simp only [beq_eq_false_iff_ne, ne_eq]; omega
        obtain ⟨r, hr⟩ : ∃ r, r = l2 % Q := ⟨_, rfl⟩
        have hri : (l2 : Int) % (Q : Int) = (r : Int) := by rw [hr, Int.natCast_emod]
        by_cases h0 : r = 0
        · have hr0 : ((r : Int) == 0) = true := by simp [h0]
          obtain ⟨l3, hl3⟩ : ∃ l3, l3 = l2 / Q := ⟨_, rfl⟩
          have hdi : (l2 : Int) / (Q : Int) = (l3 : Int) := by rw [hl3, Int.natCast_ediv]
          have hst := stripD_step (c := c2) b1 hl20 (by rw [← hQ, ← hr]; exact h0)
          obtain ⟨q1, q2⟩ := strip_less b1 hl20 (by rw [← hQ, ← hr]; exact h0)
          rw [← hQ, ← hl3] at hst q1 q2
          obtain ⟨c3, hc3⟩ : ∃ c3, c3 = c2 * q := ⟨_, rfl⟩
          have hci : (c2 : Int) * (q : Int) = (c3 : Int) := by rw [hc3, Int.natCast_mul]
          rw [← hc3] at hst
          have hm3 : c3 * c3 * l3 = m := by
            have hdm := Nat.div_add_mod l2 Q
            rw [← hr, h0, ← hl3, Nat.add_zero] at hdm
            rw [← I2.out.2.1, ← hdm, hc3, hQ]
            grind
          have hc30 : 0 < c3 := by rw [hc3]; exact Nat.mul_pos hc20 (by omega)
          have hc3m : c3 ≤ m := by
            have h1 : c3 * 1 ≤ c3 * (c3 * l3) := Nat.mul_le_mul (Nat.le_refl _) (Nat.mul_pos hc30 q1)
            rw [← Nat.mul_assoc, hm3] at h1
            omega
          have H3 := hide (⟨hst.symm.trans I2.out.1, hm3⟩ : stripD q c3 l3 = stripD q c left ∧ c3 * c3 * l3 = m)
          have hq2 : l3 < l2 := q2
          clear hst hm3 hc3 hl3 hr hQ h0 q2
          go_wp2_with fail
          go_quiet (fail)
          go_wp2_with fail
          go_quiet (fail)
          go_wp2_with fail
          go_roundw
          case rel => exact ⟨c3, l3, rfl, rfl, hc3m, by omega, q1, hc30, ⟨H3.out.1, H3.out.2, below_drewN (below_drewN I2.out.2.2 _) _⟩⟩
          case measure => simp [intOf]; omega
        · have hr0 : ((r : Int) == 0) = false := by simp only [beq_eq_false_iff_ne, ne_eq]; omega
          have hst := stripD_stop (q := q) (c := c2) hl20 (by rw [← hQ, ← hr]; exact h0)
          have hst2 := HD.out c left
          rw [← I2.out.1, hst] at hst2
          have H3 := hide (hst2.symm.trans IN.out.1)
          clear hst hst2 hr hQ h0
          go_wp2_with fail
          go_quiet (fail)
          go_wp2_with fail
          go_roundw
          case rel => exact ⟨c2, l2, k + 1, by omega, rfl, rfl, by simp, hc2, hl2, hl20, hc20, ⟨H3.out, I2.out.2.1, below_drewN I2.out.2.2 _⟩⟩
          case measure => simp [intOf]; omega
    · obtain rfl : k = 25 := by omega
      have hki : (((25 : Nat) : Int) < 25) = False := eq_false (by omega)
      have HE : Hid ((c, left) = strips primes25 1 m) := hide IN.out.1
      have HI1 := hide (HI.out left hl)
      have HI2 := hide (HI.out c hc)
      rw [show strB (Lib.itoa (left : Int)) = V2 by rw [E2.out, ← HE.out]; rfl] at HI1
      rw [show strB (Lib.itoa (c : Int)) = V1 by rw [E1.out, ← HE.out]; rfl] at HI2
      have HB2 := hide (HB1.out.trans (IN.out.2.2.mono HB1.out.size))
      clear hlt HI HE IN
      go_wp2_with fail
      refine (HI1.out _ (HT.out.on HB2.out hB)).mono ?_
      rintro e w3 ⟨rfl, hb3⟩
      have HB3 := hide (HB2.out.trans (hb3.mono HB2.out.size))
      clear hb3
      go_wp2_with fail
      refine (HI2.out _ (HT.out.on HB3.out hB)).mono ?_
      rintro e w4 ⟨rfl, hb4⟩
      have HB4 := hide (HB3.out.trans (hb4.mono HB3.out.size))
      clear hb4
      go_wp2_with fail
      refine bodyPost_ret (results_tmp2 rfl _ _ _) rfl ?_
      exact ⟨rfl, HB4.out⟩
set_option maxRecDepth 100000 in
set_option maxHeartbeats 16000000 in
theorem s3reduced_long {m : Nat} (hm0 : 0 < m) (f : fits (m : Int)) (hs : 17 < (iB (m : Int)).size) (B : Nat) (w : World) (hB : B ≤ w.heap.size) (hT : P10 B w) :
    Calls Tryz.prog 49 #[.string (iB (m : Int))] w (Ret w (.tuple #[.string (iB ((strips primes25 1 m).2 : Int)), .string (iB ((strips primes25 1 m).1 : Int))])) := by
  have HT := hide hT
  have FM : Hid (∀ z : Nat, z ≤ m → fits (z : Int)) := hide (fun z hz => fits_of_le f (by rw [Int.natAbs_natCast, Int.natAbs_natCast]; exact hz))
  have HP := hide (fun w => s3primes_at w)
  have g17 : ((((iB (m : Int)).size : Nat) : Int) ≤ 17) = False := eq_false (by omega)
  obtain ⟨V2, hV2⟩ : ∃ V, V = iB ((strips primes25 1 m).2 : Int) := ⟨_, rfl⟩
  obtain ⟨V1, hV1⟩ : ∃ V, V = iB ((strips primes25 1 m).1 : Int) := ⟨_, rfl⟩
  rw [← hV1, ← hV2]
  have E1 := hide hV1
  have E2 := hide hV2
  have HX := hide (show iB (m : Int) = iB (m : Int) from rfl)
  obtain ⟨X, hX⟩ : ∃ X, X = iB (m : Int) := ⟨_, rfl⟩
  have HXX := hide hX
  rw [← hX] at g17 ⊢
  have L1 := hide lit1
  clear hs f hT hV1 hV2 hX HX
  have XP := hide (heap1 w prRow)
  go_enter Tryz.func49, Tryz.ntmps49
  go_wp2_with fail
  refine (HP.out _).mono ?_
  rintro e wS ⟨rfl, rfl⟩
  obtain ⟨wS, hwS⟩ : ∃ W, W = w.alloc prRow := ⟨_, rfl⟩
  rw [← hwS] at XP ⊢
  have GS := hide XP.out.1
  have HB0 := hide XP.out.2.2
  clear hwS XP
  go_wp2_with fail
  go_loopw [0, 9, 10] (fun ll cc i wr => ∃ c left k : Nat, k ≤ 25 ∧ ll = .string (iB (left : Int)) ∧ cc = .string (iB (c : Int)) ∧ i = .int .i64 k ∧ c ≤ m ∧ left ≤ m ∧ 0 < left ∧ 0 < c ∧ Hid (strips (primes25.drop k) c left = strips primes25 1 m ∧ c * c * left = m ∧ Below wS.heap.size wS wr)) (fun _ _ i _ => 25 - (intOf i).toNat)
  case atStart => exact ⟨1, m, 0, by omega, by rw [HXX.out], by rw [L1.out], rfl, by omega, Nat.le_refl _, hm0, by omega, ⟨rfl, by omega, Below.refl _ _⟩⟩
  case round =>
    obtain ⟨c, left, k, hk, rfl, rfl, rfl, hc, hl, hl0, hc0, hin⟩ := hrel
    have IN := hide hin.out
    clear hin
    obtain ⟨wo, hwo⟩ : ∃ wo, wo = wr := ⟨_, rfl⟩
    subst hwo
    by_cases hlt : k < 25
    · have hki : (k : Int) < 25 := by omega
      have hk0 : (0 : Int) ≤ (k : Int) := by omega
      have hcellA : Hid (∀ W, Below wS.heap.size wS W → W.cell? ⟨w.heap.size, k, none⟩ = some (.int .i64 (primes25.getD k 0))) := hide (fun W hb => prRow_cell (below_blk hb GS.out (lt_blk GS.out)) hlt)
      obtain ⟨b1, b2⟩ := prime_bounds hlt
      have HD := hide (strips_drop hlt)
      obtain ⟨q, hq⟩ : ∃ q, q = primes25.getD k 0 := ⟨_, rfl⟩
      rw [← hq] at b1 b2 HD hcellA
      clear hq hlt
      obtain ⟨Q, hQ⟩ : ∃ Q, Q = q * q := ⟨_, rfl⟩
      have hQi : (q : Int) * (q : Int) = (Q : Int) := by rw [hQ, Int.natCast_mul]
      have hQ1 : 4 ≤ Q ∧ Q ≤ 9409 := by rw [hQ]; exact ⟨Nat.mul_le_mul b1 b1, Nat.mul_le_mul b2 b2⟩
      have HBW := hide (HB0.out.trans (IN.out.2.2.mono HB0.out.size))
      have HQ := hide hQ
      have fQ : Hid (fits (Q : Int)) := hide (fits_small (n := 4) (by rw [most_eq]; omega) (nat_abs_lt (by omega)))
      have fq : Hid (fits (q : Int)) := hide (fits_small (n := 4) (by rw [most_eq]; omega) (nat_abs_lt (by omega)))
      have HIQ : Hid (∀ w, B ≤ w.heap.size → P10 B w → Calls Tryz.prog 57 #[.int .i64 (Q : Int)] w (Ret w (.string (iB (Q : Int))))) := hide (fun w _ hT => itoa_any (Q : Int) (by omega) (by omega) B w hT)
      have HIq : Hid (∀ w, B ≤ w.heap.size → P10 B w → Calls Tryz.prog 57 #[.int .i64 (q : Int)] w (Ret w (.string (iB (q : Int))))) := hide (fun w _ hT => itoa_any (q : Int) (by omega) (by omega) B w hT)
      have N1 := hide (fun (o : Of (Below wo.heap.size wo)) => cls_call (HT.out.on HBW.out hB) (Nat.le_trans hB HBW.out.size) HIQ.out o o.h.size)
      have hx1 : ∀ x : Of (Below wo.heap.size wo), x.w.cell? ⟨w.heap.size, k, none⟩ = some (.int .i64 (q : Int)) := fun x => hcellA.out _ (IN.out.2.2.trans (x.h.mono IN.out.2.2.size))
      have kn : Nonempty (Of (Below wo.heap.size wo)) := ⟨⟨_, Below.refl _ _⟩⟩
      clear hQ
      obtain ⟨TL, hTL⟩ : ∃ T, T = iB (left : Int) := ⟨_, rfl⟩
      obtain ⟨TC, hTC⟩ : ∃ T, T = iB (c : Int) := ⟨_, rfl⟩
      obtain ⟨TQ, hTQ⟩ : ∃ T, T = iB (Q : Int) := ⟨_, rfl⟩
      rw [← hTL, ← hTC]
      rw [← hTQ] at N1
      have HTL := hide hTL
      have HTC := hide hTC
      have HTQ := hide hTQ
      clear hTL hTC hTQ
      go_wp2_with fail
      refine region_class (C := Cls (Below wo.heap.size wo)) (by kernel_rfl) (by kernel_rfl) (by kernel_rfl) (Cls.mk (Below.refl _ _).drew) ?_
      repeat (go_big_quiet_step (first | rfl | with_reducible exact N1.out _))
      refine wpQuiet_nil ?_
      intro w5 hcl
      have HBS := hide (IN.out.2.2.trans (hcl.out.mono IN.out.2.2.size))
      clear hcl N1 hx1 kn HBW hQi
      go_wp2_with fail
      go_loopw [0, 9] (fun ll cc wr2 => ∃ c2 l2 : Nat, ll = .string (iB (l2 : Int)) ∧ cc = .string (iB (c2 : Int)) ∧ c2 ≤ m ∧ l2 ≤ m ∧ 0 < l2 ∧ 0 < c2 ∧ Hid (stripD q c2 l2 = stripD q c left ∧ c2 * c2 * l2 = m ∧ Below wS.heap.size wS wr2)) (fun ll _ _ => (valI (strOf ll).data.toList).toNat)
      case atStart => exact ⟨c, left, by rw [HTL.out], by rw [HTC.out], hc, hl, hl0, hc0, ⟨rfl, IN.out.2.1, HBS.out⟩⟩
      clear hc hl hl0 hc0
      case round =>
        obtain ⟨c2, l2, rfl, rfl, hc2, hl2, hl20, hc20, hin2⟩ := hrel
        have I2 := hide hin2.out
        clear hin2
        obtain ⟨wi, hwi⟩ : ∃ wi, wi = wr := ⟨_, rfl⟩
        subst hwi
        have HB2 := hide (HB0.out.trans (I2.out.2.2.mono HB0.out.size))
        have HDV := hide (fun w hB hT => rDivide_I (FM.out l2 hl2) fQ.out (by omega) B w hB hT)
        have HZ := iB_zero_test ((l2 : Int) % (Q : Int))
        rw [← Int.natCast_emod, ← Int.natCast_ediv] at HDV
        rw [← Int.natCast_emod] at HZ
        obtain ⟨r, hr⟩ : ∃ r, r = l2 % Q := ⟨_, rfl⟩
        obtain ⟨l3, hl3⟩ : ∃ l3, l3 = l2 / Q := ⟨_, rfl⟩
        rw [← hr, ← hl3] at HDV
        rw [← hr] at HZ
        obtain ⟨TM, hTM⟩ : ∃ T, T = iB (l2 : Int) := ⟨_, rfl⟩
        obtain ⟨TD, hTD⟩ : ∃ T, T = iB (c2 : Int) := ⟨_, rfl⟩
        obtain ⟨TN, hTN⟩ : ∃ T, T = iB (l3 : Int) := ⟨_, rfl⟩
        rw [← hTM, ← HTQ.out, ← hTN] at HDV
        have HTM := hide hTM
        have HTD := hide hTD
        have HTN := hide hTN
        rw [← hTM, ← hTD]
        by_cases h0 : r = 0
        · rw [decide_eq_true (show ((r : Nat) : Int) = 0 by omega)] at HZ
          have hst := stripD_step (c := c2) b1 hl20 (by rw [← HQ.out, ← hr]; exact h0)
          obtain ⟨q1, q2⟩ := strip_less b1 hl20 (by rw [← HQ.out, ← hr]; exact h0)
          rw [← HQ.out, ← hl3] at hst q1 q2
          obtain ⟨c3, hc3⟩ : ∃ c3, c3 = c2 * q := ⟨_, rfl⟩
          have hci : (c2 : Int) * (q : Int) = (c3 : Int) := by rw [hc3, Int.natCast_mul]
          rw [← hc3] at hst
          have hm3 : c3 * c3 * l3 = m := by
            have hdm := Nat.div_add_mod l2 Q
            rw [← hr, h0, ← hl3, Nat.add_zero] at hdm
            rw [← I2.out.2.1, ← hdm, hc3, HQ.out]
            grind
          have hc30 : 0 < c3 := by rw [hc3]; exact Nat.mul_pos hc20 (by omega)
          have hc3m : c3 ≤ m := by
            have h1 : c3 * 1 ≤ c3 * (c3 * l3) := Nat.mul_le_mul (Nat.le_refl _) (Nat.mul_pos hc30 q1)
            rw [← Nat.mul_assoc, hm3] at h1
            omega
          have H3 := hide (⟨hst.symm.trans I2.out.1, hm3⟩ : stripD q c3 l3 = stripD q c left ∧ c3 * c3 * l3 = m)
          have HMU := hide (fun w hB hT => s3times_I (FM.out c2 hc2) fq.out (by rw [hci]; exact FM.out c3 hc3m) B w hB hT)
          rw [hci, ← hTD] at HMU
          obtain ⟨TE, hTE⟩ : ∃ T, T = iB (c3 : Int) := ⟨_, rfl⟩
          rw [← hTE] at HMU
          have HTE := hide hTE
          have hlast : Hid ((valI (iB (l3 : Int)).data.toList).toNat < (valI (iB (l2 : Int)).data.toList).toNat) := hide (by rw [iB_list, iB_list, val_itoa, val_itoa]; omega)
          generalize iB ((r : Nat) : Int) = TR at HDV HZ
          clear hst hm3 hc3 hl3 hr h0 hTM hTD hTN hTE hci
          go_wp2_with fail
          refine (HDV.out _ (Nat.le_trans hB HB2.out.size) (HT.out.on HB2.out hB)).mono ?_
          rintro e w6 ⟨rfl, hb6⟩
          have HI6 := hide (I2.out.2.2.trans (hb6.mono I2.out.2.2.size))
          have HB6 := hide (HB2.out.trans (hb6.mono HB2.out.size))
          have hcell := hcellA.out _ HI6.out
          clear hb6
          go_wp2_with fail
          refine (HIq.out _ (Nat.le_trans hB HB6.out.size) (HT.out.on HB6.out hB)).mono ?_
          rintro e w7 ⟨rfl, hb7⟩
          have HI7 := hide (HI6.out.trans (hb7.mono HI6.out.size))
          have HB7 := hide (HB6.out.trans (hb7.mono HB6.out.size))
          clear hb7 hcell
          go_wp2_with fail
          refine (HMU.out _ (Nat.le_trans hB HB7.out.size) (HT.out.on HB7.out hB)).mono ?_
          rintro e w8 ⟨rfl, hb8⟩
          have HI8 := hide (HI7.out.trans (hb8.mono HI7.out.size))
          clear hb8
          go_wp2_with fail
          go_roundw
          case rel => exact ⟨c3, l3, by rw [HTN.out], by rw [HTE.out], hc3m, by omega, q1, hc30, ⟨H3.out.1, H3.out.2, HI8.out⟩⟩
          case measure =>
            show (valI TN.data.toList).toNat < (valI TM.data.toList).toNat
            rw [HTN.out, HTM.out]
            exact hlast.out
        · rw [decide_eq_false (show ¬ ((r : Nat) : Int) = 0 by omega)] at HZ
          have hst := stripD_stop (q := q) (c := c2) hl20 (by rw [← HQ.out, ← hr]; exact h0)
          have hst2 := HD.out c left
          rw [← I2.out.1, hst] at hst2
          have H3 := hide (hst2.symm.trans IN.out.1)
          generalize iB ((r : Nat) : Int) = TR at HDV HZ
          have hZne : (TR.toList != [48]) = true := by simp only [bne, HZ]; rfl
          clear hst hst2 hr h0 hTM hTD hTN hl3
          go_wp2_with fail
          refine (HDV.out _ (Nat.le_trans hB HB2.out.size) (HT.out.on HB2.out hB)).mono ?_
          rintro e w6 ⟨rfl, hb6⟩
          have HI6 := hide (I2.out.2.2.trans (hb6.mono I2.out.2.2.size))
          clear hb6
          go_wp2_with fail
          go_roundw
          case rel => exact ⟨c2, l2, k + 1, by omega, by rw [HTM.out], by rw [HTD.out], by simp, hc2, hl2, hl20, hc20, ⟨H3.out, I2.out.2.1, HI6.out⟩⟩
          case measure => simp [intOf]; omega
    · obtain rfl : k = 25 := by omega
      have hki : (((25 : Nat) : Int) < 25) = False := eq_false (by omega)
      have HE : Hid ((c, left) = strips primes25 1 m) := hide IN.out.1
      have HB2 := hide (HB0.out.trans (IN.out.2.2.mono HB0.out.size))
      have e2 : iB (left : Int) = V2 := by rw [E2.out, ← HE.out]
      have e1 : iB (c : Int) = V1 := by rw [E1.out, ← HE.out]
      rw [e1, e2]
      clear hlt HE IN e1 e2
      go_wp2_with fail
      refine bodyPost_ret (results_tmp2 rfl _ _ _) rfl ?_
      exact ⟨rfl, HB2.out⟩
theorem s3reduced_I {m : Nat} (h0 : 0 < m) (f : fits (m : Int)) (B : Nat) (w : World) (hB : B ≤ w.heap.size) (hT : P10 B w) :
    Calls Tryz.prog 49 #[.string (iB (m : Int))] w (Ret w (.tuple #[.string (iB ((strips primes25 1 m).2 : Int)), .string (iB ((strips primes25 1 m).1 : Int))])) := by
  by_cases hs : (iB (m : Int)).size ≤ 17
  · exact s3reduced_short h0 f hs B w hB hT
  · exact s3reduced_long h0 f (by omega) B w hB hT
end Go.Proofs.YtgddookioipjiaaGreatDoor
namespace Go.Proofs.YtgddookioipjiaaGreatDoor
open Go.RowKit Go.KP Go.KI Go.Shelf
attribute [local go_sem] Oper.semAt_some

theorem checkE_neg {q : Rat} (rq : roomy q) (hq : q.num < 0) : checkE [T q] [T q] = 2 := by
  unfold checkE
  rw [firstE_zero (fun x hx => by simp at hx; subst hx; exact roomy_chk90 rq), if_neg (by simp), if_pos]
  rw [List.any_cons, negS_T, decide_eq_true hq]
  rfl
theorem roomy_zero : roomy (0 : Rat) := roomy_of (p := 1) ⟨by decide, by decide⟩ (by omega)
set_option maxRecDepth 100000 in
theorem rNormal_zero (B : Nat) (w : World) (hB : B ≤ w.heap.size) (hT : PQ B w) :
    Calls Tryz.prog 14 #[.string (T 0)] w (Ret w (.tuple #[.string ⟨#[48]⟩, .string ⟨#[49]⟩, .int .i64 0])) := by
  have HT := hide hT
  have X0 := hide (heap2 w (.cells #[.string (T 0)] 22) (.cells #[.string (T 0)] 22))
  have HC := hide (rCheck_ok w.heap.size (w.heap.size + 1) [0] [0] (by simp) (by simp) (fun x hx => by simp at hx; subst hx; exact roomy_zero) (fun x hx => by simp at hx; subst hx; decide) B _ (nums1 X0.out.1) (nums1 X0.out.2.1) (Nat.le_trans hB X0.out.2.2.2.size) (hT.on X0.out.2.2.2 hB))
  have HO := hide (fun w hB hT => rOf_T roomy_zero.1 B w hB hT)
  have eN : numB 0 = ⟨#[48]⟩ := bytes_eq (by show (iB 0).data.toList = _; rw [iB_list, itoa_zero])
  rw [eN] at HO
  generalize denB 0 = D at HO
  generalize T 0 = X at *
  clear hT eN
  go_enter Tryz.func14, Tryz.ntmps14
  go_wp2_with fail
  refine HC.out.mono ?_
  rintro e w1 ⟨rfl, hb1⟩
  have HB1 := hide (X0.out.2.2.2.trans (hb1.mono X0.out.2.2.2.size))
  clear hb1
  go_wp2_with fail
  refine (HO.out _ (Nat.le_trans hB HB1.out.size) (HT.out.on HB1.out hB)).mono ?_
  rintro e w2 ⟨rfl, hb2⟩
  have X2 := hide (heap1 w2 (rpairO ⟨#[48]⟩ D))
  have HB2 := hide (HB1.out.trans ((hb2.trans (X2.out.2.2.mono hb2.size)).mono HB1.out.size))
  have k0 := cell_blk X2.out.1 0
  have k1 := cell_blk X2.out.1 1
  have kl := lt_blk X2.out.1
  clear hb2
  go_wp2_with fail
  go_ret3
  exact ⟨rfl, HB2.out⟩
/-- The normal form of any number that is not negative. -/
def nC (q : Rat) : Rat := if q.num = 0 then 0 else normC q
def nL (q : Rat) : Nat := if q.num = 0 then 1 else normL q
theorem rNormal_T {q : Rat} (rq : roomy q) (hq : 0 ≤ q.num) (B : Nat) (w : World) (hB : B ≤ w.heap.size) (hT : PR B w) :
    Calls Tryz.prog 14 #[.string (T q)] w (Ret w (.tuple #[.string (T (nC q)), .string (T ((nL q : Nat) : Rat)), .int .i64 0])) := by
  unfold nC nL
  by_cases h : q.num = 0
  · rw [if_pos h, if_pos h, Rat.num_eq_zero.1 h]
    have := rNormal_zero B w hB hT.pq
    rw [← T0, ← T1] at this
    exact this
  · rw [if_neg h, if_neg h]
    have := rNormal_pos rq (by omega) B w hB hT
    rw [iB_T] at this
    exact this
/-- What the normal form is. -/
theorem nForm {q : Rat} (hq : 0 ≤ q.num) : nC q * nC q * ((nL q : Nat) : Rat) = q ∧ sgnR (nC q) = sgnR q ∧ 0 < nL q ∧ (∀ p ∈ primes25, ¬ nL q % (p * p) = 0) ∧ (nL q = 1 ↔ ∃ r, sqR q = some r) := by
  unfold nC nL
  by_cases h : q.num = 0
  · have h0 := Rat.num_eq_zero.1 h
    subst h0
    rw [if_pos h, if_pos h]
    refine ⟨by decide +kernel, rfl, by omega, by decide, fun _ => ⟨0, ?_⟩, fun _ => rfl⟩
    exact (sqR_some Rat.le_refl).2 ⟨Rat.le_refl, by decide +kernel⟩
  · rw [if_neg h, if_neg h]
    have hp : 0 < q.num := by omega
    obtain ⟨n1, n2, n3, n4⟩ := norm_law hp
    refine ⟨n1, ?_, n3, n4, ?_⟩
    · rw [show sgnR (normC q) = 1 from cmpT_gt n2, sgnR_pos hp]
    · rw [← sq_num_den hp]
      exact (normN_spec (m := q.num.toNat * q.den) (Nat.mul_pos (by omega) q.den_pos)).2.2.2.2
end Go.Proofs.YtgddookioipjiaaGreatDoor
namespace Go.Proofs.YtgddookioipjiaaGreatDoor
open Go.RowKit Go.KP Go.KI Go.Shelf
attribute [local go_sem] Oper.semAt_some

theorem txq {x : Rat} {n d : Nat} {a b : List UInt8} (h1 : x.num = (n : Int)) (h2 : x.den = d) (h3 : d ≠ 1) (ha : Lib.decDigits n = a) (hb : Lib.decDigits d = b) : T x = strB (a ++ 47 :: b) := by
  unfold T ratS
  rw [if_neg (by omega), h1, Lib.itoa_nonneg, h2, ha, hb]
theorem txn {x : Rat} {n : Nat} {a : List UInt8} (h : x = ((n : Nat) : Rat)) (ha : Lib.decDigits n = a) : T x = strB a := by
  rw [h, show T ((n : Nat) : Rat) = iB (n : Int) from (iB_T _).symm, iB_lit n a ha]
abbrev e12 : Rat := ⟨1, 2, by decide, by decide⟩
abbrev e94 : Rat := ⟨9, 4, by decide, by decide⟩
abbrev e32 : Rat := ⟨3, 2, by decide, by decide⟩
abbrev e100 : Rat := ⟨1, 100, by decide, by decide⟩
abbrev e141 : Rat := ⟨141, 100, by decide, by decide⟩
theorem ex8 : T 8 = ⟨#[56]⟩ := txn (n := 8) rfl (a := [56]) (by decide +kernel)
theorem ex2 : T 2 = ⟨#[50]⟩ := txn (n := 2) rfl (a := [50]) (by decide +kernel)
theorem ex12 : T e12 = ⟨#[49, 47, 50]⟩ := txq (n := 1) (d := 2) rfl rfl (by decide) (a := [49]) (b := [50]) (by decide +kernel) (by decide +kernel)
theorem ex94 : T e94 = ⟨#[57, 47, 52]⟩ := txq (n := 9) (d := 4) rfl rfl (by decide) (a := [57]) (b := [52]) (by decide +kernel) (by decide +kernel)
theorem ex32 : T e32 = ⟨#[51, 47, 50]⟩ := txq (n := 3) (d := 2) rfl rfl (by decide) (a := [51]) (b := [50]) (by decide +kernel) (by decide +kernel)
theorem ex100 : T e100 = ⟨#[49, 47, 49, 48, 48]⟩ := txq (n := 1) (d := 100) rfl rfl (by decide) (a := [49]) (b := [49, 48, 48]) (by decide +kernel) (by decide +kernel)
theorem ex141 : T e141 = ⟨#[49, 52, 49, 47, 49, 48, 48]⟩ := txq (n := 141) (d := 100) rfl rfl (by decide) (a := [49, 52, 49]) (b := [49, 48, 48]) (by decide +kernel) (by decide +kernel)
theorem roomy_lit {x : Rat} (h : x.num.natAbs < 10 ^ 3 ∧ x.den < 10 ^ 3) : roomy x := roomy_of (p := 3) h (by omega)
theorem normN_8 : normN 8 = (2, 2) := by decide +kernel
theorem norm8 : normC 8 = 2 ∧ normL 8 = 2 := by
  have e : normN ((8 : Rat).num.toNat * (8 : Rat).den) = (2, 2) := normN_8
  unfold normC normL
  rw [e]
  exact ⟨by decide +kernel, rfl⟩
theorem norm12 : normC e12 = e12 ∧ normL e12 = 2 := by
  have e : normN (e12.num.toNat * e12.den) = (1, 2) := normN_2
  unfold normC normL
  rw [e]
  exact ⟨by decide +kernel, rfl⟩
theorem sqR94 : sqR e94 = some e32 := (sqR_some (by decide +kernel)).2 ⟨by decide +kernel, by decide +kernel⟩
theorem floor141 : floorR 2 e100 = e141 := by
  have e : unitsN 2 e100 1 = 141 := by
    unfold unitsN
    rw [show (2 : Rat).num * ((e100.den : Int) * e100.den) * ((1 : Nat) : Int) / (((2 : Rat).den : Int) * (e100.num * e100.num)) = 20000 by decide +kernel]
    exact rootN_eq (by decide) (by decide)
  unfold floorR
  rw [e]
  decide +kernel
theorem mxe4 (w : World) : (Builtin.max_ #[26, 26, 26, 26] 26 #[.int .i64 0, .int .i64 0, .int .i64 0, .int .i64 0]).run Tryz.prog w = .ok (.int .i64 0) w := by kernel_rfl
set_option maxRecDepth 100000 in
set_option maxHeartbeats 8000000 in
theorem l3awake_any (B : Nat) (w : World) (hB : B ≤ w.heap.size) (hT : PR B w) :
    Calls Tryz.prog 13 #[] w (Ret w (.bool true)) := by
  have HT := hide hT
  have H1 := hide (fun w hB hT => rNormal_pos (q := 8) (roomy_lit (by decide +kernel)) (by decide +kernel) B w hB hT)
  have H2 := hide (fun w hB hT => rNormal_pos (q := e12) (roomy_lit (by decide +kernel)) (by decide +kernel) B w hB hT)
  have H3 := hide (fun w hB hT => rExact_T (q := e94) (roomy_lit (by decide +kernel)) (by decide +kernel) B w hB hT)
  have H4 := hide (fun w hB hT => rFloor_T (q := 2) (u := e100) (roomy_lit (by decide +kernel)) (roomy_lit (by decide +kernel)) (by decide +kernel) (by decide +kernel) B w hB hT)
  rw [norm8.1, norm8.2, ex8, ex2, lit2] at H1
  rw [norm12.1, norm12.2, ex12, lit2] at H2
  rw [sqR94, ex94] at H3
  dsimp only [rootT, rootB] at H3
  rw [ex32] at H3
  rw [floor141, ex2, ex100, ex141] at H4
  have hmx := mxe4
  clear hT
  go_enter Tryz.func13, Tryz.ntmps13
  go_wp2_with fail
  refine (H1.out _ hB HT.out).mono ?_
  rintro e w1 ⟨rfl, hb1⟩
  have HB1 := hide hb1
  clear hb1
  go_wp2_with fail
  refine (H2.out _ (Nat.le_trans hB HB1.out.size) (HT.out.on HB1.out hB)).mono ?_
  rintro e w2 ⟨rfl, hb2⟩
  have HB2 := hide (HB1.out.trans (hb2.mono HB1.out.size))
  clear hb2
  go_wp2_with fail
  refine (H3.out _ (Nat.le_trans hB HB2.out.size) (HT.out.on HB2.out hB).pq).mono ?_
  rintro e w3 ⟨rfl, hb3⟩
  have HB3 := hide (HB2.out.trans (hb3.mono HB2.out.size))
  clear hb3
  go_wp2_with fail
  refine (H4.out _ (Nat.le_trans hB HB3.out.size) (HT.out.on HB3.out hB).pq).mono ?_
  rintro e w4 ⟨rfl, hb4⟩
  have HB4 := hide (HB3.out.trans (hb4.mono HB3.out.size))
  clear hb4
  go_wp2_with fail
  go_ret
  exact ⟨rfl, HB4.out⟩
end Go.Proofs.YtgddookioipjiaaGreatDoor
namespace Go.Proofs.YtgddookioipjiaaGreatDoor
open Go.RowKit Go.KP Go.KI Go.Shelf
attribute [local go_sem] Oper.semAt_some

theorem sgn_ge {q : Rat} (h : 0 ≤ q) : 0 ≤ sgnR q := by
  rcases cmpT_cases q 0 with ⟨h1, _⟩ | ⟨_, h2⟩ | ⟨_, h2⟩
  · exact absurd h1 (Rat.not_lt.2 h)
  · rw [show sgnR q = 0 from h2]; decide
  · rw [show sgnR q = 1 from h2]; decide
theorem beqs (N : ByteArray) : (N.toList == N.toList) = true ∧ (N.toList != N.toList) = false := by simp
end Go.Proofs.YtgddookioipjiaaGreatDoor
namespace Go.Proofs.YtgddookioipjiaaGreatDoor
open Go.RowKit Go.KP Go.KI Go.Shelf
attribute [local go_sem] Oper.semAt_some

theorem check_split1 (q : ByteArray) : (firstE [q] ≠ 0 ∧ checkE [q] [q] = firstE [q]) ∨ (∃ x, roomy x ∧ q = T x ∧ x.num < 0 ∧ firstE [q] = 0 ∧ checkE [q] [q] = 2) ∨ (∃ x, roomy x ∧ q = T x ∧ 0 ≤ x.num ∧ firstE [q] = 0) := by
  by_cases h : firstE [q] = 0
  · have h9 : chk90 q.data.toList = 0 := by
      by_cases h2 : chk90 q.data.toList = 0
      · exact h2
      · have h3 : firstE [q] = chk90 q.data.toList := if_pos h2
        rw [h3] at h
        exact absurd h h2
    obtain ⟨x, rx, rfl⟩ := chk90_roomy h9
    by_cases hx : x.num < 0
    · exact .inr (.inl ⟨x, rx, rfl, hx, h, checkE_neg rx hx⟩)
    · exact .inr (.inr ⟨x, rx, rfl, by omega, h⟩)
  · exact .inl ⟨h, if_pos h⟩
set_option maxRecDepth 100000 in
theorem rNormal_bad {q : ByteArray} (hs : q.size ≤ 1000000) (h : checkE [q] [q] ≠ 0) (B : Nat) (w : World) (hB : B ≤ w.heap.size) (hT : PQ B w) :
    Calls Tryz.prog 14 #[.string q] w (Ret w (.tuple #[.string ⟨#[]⟩, .string ⟨#[]⟩, .int .i64 (checkE [q] [q])])) := by
  have X0 := hide (heap2 w (.cells #[.string q] 22) (.cells #[.string q] 22))
  have HC := hide (rCheck_any w.heap.size (w.heap.size + 1) [q] [q] (by simp) (by simp) (fun x hx => by simp at hx; subst hx; exact hs) B _ (strs1 X0.out.1) (strs1 X0.out.2.1) (Nat.le_trans hB X0.out.2.2.2.size) (hT.on X0.out.2.2.2 hB))
  have hE : (checkE [q] [q] == 0) = false := by simpa using h
  generalize checkE [q] [q] = E at *
  clear h hs hT
  go_enter Tryz.func14, Tryz.ntmps14
  go_wp2_with fail
  refine HC.out.mono ?_
  rintro e w1 ⟨rfl, hb1⟩
  have HB1 := hide (X0.out.2.2.2.trans (hb1.mono X0.out.2.2.2.size))
  clear hb1
  go_wp2_with fail
  refine bodyPost_ret (results_tmp3 rfl _ _ _) rfl ?_
  exact ⟨rfl, HB1.out⟩
set_option maxRecDepth 100000 in
theorem rExact_bad {q : ByteArray} (hs : q.size ≤ 1000000) (h : checkE [q] [q] ≠ 0) (B : Nat) (w : World) (hB : B ≤ w.heap.size) (hT : PQ B w) :
    Calls Tryz.prog 16 #[.string q] w (Ret w (.tuple #[.string ⟨#[]⟩, .bool false, .int .i64 (checkE [q] [q])])) := by
  have X0 := hide (heap2 w (.cells #[.string q] 22) (.cells #[.string q] 22))
  have HC := hide (rCheck_any w.heap.size (w.heap.size + 1) [q] [q] (by simp) (by simp) (fun x hx => by simp at hx; subst hx; exact hs) B _ (strs1 X0.out.1) (strs1 X0.out.2.1) (Nat.le_trans hB X0.out.2.2.2.size) (hT.on X0.out.2.2.2 hB))
  have hE : (checkE [q] [q] == 0) = false := by simpa using h
  generalize checkE [q] [q] = E at *
  clear h hs hT
  go_enter Tryz.func16, Tryz.ntmps16
  go_wp2_with fail
  refine HC.out.mono ?_
  rintro e w1 ⟨rfl, hb1⟩
  have HB1 := hide (X0.out.2.2.2.trans (hb1.mono X0.out.2.2.2.size))
  clear hb1
  go_wp2_with fail
  refine bodyPost_ret (results_tmp3 rfl _ _ _) rfl ?_
  exact ⟨rfl, HB1.out⟩
set_option maxRecDepth 100000 in
theorem s3Normal_first {q : ByteArray} (hs : q.size ≤ 1000000) (h : firstE [q] ≠ 0) (B : Nat) (w : World) (hB : B ≤ w.heap.size) (hT : PQ B w) :
    Calls Tryz.prog 15 #[.string q] w (Ret w (.tuple #[.string ⟨#[]⟩, .string ⟨#[]⟩, .int .i64 (firstE [q])])) := by
  have X0 := hide (heap1 w (.cells #[.string q] 22))
  have HC := hide (s3check_any w.heap.size [q] (by simp) (fun x hx => by simp at hx; subst hx; omega) B _ (strs1 X0.out.1) (Nat.le_trans hB X0.out.2.2.size) (hT.on X0.out.2.2 hB))
  have hE : (firstE [q] == 0) = false := by simpa using h
  generalize firstE [q] = E at *
  clear h hs hT
  go_enter Tryz.func15, Tryz.ntmps15
  go_wp2_with fail
  refine HC.out.mono ?_
  rintro e w1 ⟨rfl, hb1⟩
  have HB1 := hide (X0.out.2.2.trans (hb1.mono X0.out.2.2.size))
  clear hb1
  go_wp2_with fail
  refine bodyPost_ret (results_tmp3 rfl _ _ _) rfl ?_
  exact ⟨rfl, HB1.out⟩
theorem size_T {x : Rat} (rx : roomy x) : (T x).size ≤ 9223372036854775807 := by have := (T_good rx.1).1; omega
set_option maxRecDepth 100000 in
theorem s3Normal_neg {x : Rat} (rx : roomy x) (hx : x.num < 0) (B : Nat) (w : World) (hB : B ≤ w.heap.size) (hT : PQ B w) :
    Calls Tryz.prog 15 #[.string (T x)] w (Ret w (.tuple #[.string ⟨#[]⟩, .string ⟨#[]⟩, .int .i64 2])) := by
  have X0 := hide (heap1 w (.cells #[.string (T x)] 22))
  have HC := hide (s3check_any w.heap.size [T x] (by simp) (fun y hy => by simp at hy; subst hy; exact size_T rx) B _ (strs1 X0.out.1) (Nat.le_trans hB X0.out.2.2.size) (hT.on X0.out.2.2 hB))
  rw [firstE_zero (fun y hy => by simp at hy; subst hy; exact roomy_chk90 rx)] at HC
  have HS := hide (fun w => s3sign_T x w)
  rw [show sgnR x = -1 from cmpT_lt (Rat.not_le.1 fun h => by have := Rat.num_nonneg.2 h; omega)] at HS
  generalize T x = X at *
  clear rx hx hT
  go_enter Tryz.func15, Tryz.ntmps15
  go_wp2_with fail
  refine HC.out.mono ?_
  rintro e w1 ⟨rfl, hb1⟩
  have HB1 := hide (X0.out.2.2.trans (hb1.mono X0.out.2.2.size))
  clear hb1
  go_wp2_with fail
  refine (HS.out _).mono ?_
  rintro e w2 ⟨rfl, rfl⟩
  go_wp2_with fail
  refine bodyPost_ret (results_tmp3 rfl _ _ _) rfl ?_
  exact ⟨rfl, HB1.out⟩
set_option maxRecDepth 100000 in
theorem s3Normal_zero (B : Nat) (w : World) (hB : B ≤ w.heap.size) (hT : PQ B w) :
    Calls Tryz.prog 15 #[.string (T 0)] w (Ret w (.tuple #[.string ⟨#[48]⟩, .string ⟨#[49]⟩, .int .i64 0])) := by
  have X0 := hide (heap1 w (.cells #[.string (T 0)] 22))
  have HC := hide (s3check_any w.heap.size [T 0] (by simp) (fun y hy => by simp at hy; subst hy; exact size_T roomy_zero) B _ (strs1 X0.out.1) (Nat.le_trans hB X0.out.2.2.size) (hT.on X0.out.2.2 hB))
  rw [firstE_zero (fun y hy => by simp at hy; subst hy; exact roomy_chk90 roomy_zero)] at HC
  have HS := hide (fun w => s3sign_T 0 w)
  rw [show sgnR 0 = 0 from rfl] at HS
  generalize T 0 = X at *
  clear hT
  go_enter Tryz.func15, Tryz.ntmps15
  go_wp2_with fail
  refine HC.out.mono ?_
  rintro e w1 ⟨rfl, hb1⟩
  have HB1 := hide (X0.out.2.2.trans (hb1.mono X0.out.2.2.size))
  clear hb1
  go_wp2_with fail
  refine (HS.out _).mono ?_
  rintro e w2 ⟨rfl, rfl⟩
  go_wp2_with fail
  refine (HS.out _).mono ?_
  rintro e w2 ⟨rfl, rfl⟩
  go_wp2_with fail
  refine bodyPost_ret (results_tmp3 rfl _ _ _) rfl ?_
  exact ⟨rfl, HB1.out⟩
theorem quot_div (k : Nat) (x : Rat) : ((((k : Nat) : Int) : Rat) / (((x.den : Nat) : Int) : Rat)) = Rat.divInt (k : Int) (x.den : Int) := by rw [Rat.divInt_eq_div]
set_option maxRecDepth 100000 in
set_option maxHeartbeats 8000000 in
theorem s3Normal_pos {x : Rat} (rx : roomy x) (hx : 0 < x.num) (B : Nat) (w : World) (hB : B ≤ w.heap.size) (hT : PQ B w) :
    Calls Tryz.prog 15 #[.string (T x)] w (Ret w (.tuple #[.string (T (normC x)), .string (iB ((normL x : Nat) : Int)), .int .i64 0])) := by
  have HT := hide hT
  have X0 := hide (heap1 w (.cells #[.string (T x)] 22))
  have HC := hide (s3check_any w.heap.size [T x] (by simp) (fun y hy => by simp at hy; subst hy; exact size_T rx) B _ (strs1 X0.out.1) (Nat.le_trans hB X0.out.2.2.size) (hT.on X0.out.2.2 hB))
  rw [firstE_zero (fun y hy => by simp at hy; subst hy; exact roomy_chk90 rx)] at HC
  have HS := hide (fun w => s3sign_T x w)
  rw [sgnR_pos hx] at HS
  have sx := roomy_sz rx
  have HPA := hide (fun w hB hT => r2Parts_T rx.1 B w hB hT)
  have b1 := fits_mul sx.1 (nat_abs_lt sx.2) (by omega)
  have HTI := hide (fun w hB hT => s3times_I rx.1.1 rx.1.2 b1.1 B w hB hT)
  have em : x.num * (x.den : Int) = ((x.num.toNat * x.den : Nat) : Int) := by rw [Int.natCast_mul, Int.toNat_of_nonneg (Int.le_of_lt hx)]
  obtain ⟨m, hm⟩ : ∃ m, m = x.num.toNat * x.den := ⟨_, rfl⟩
  rw [← hm] at em
  have fm : fits (m : Int) := by rw [← em]; exact b1.1
  have hm0 : 0 < m := by rw [hm]; exact Nat.mul_pos (by omega) x.den_pos
  rw [em] at HTI
  have HRE := hide (fun w hB hT => s3reduced_I hm0 fm B w hB hT)
  obtain ⟨i1, i2, _, _, i5⟩ := strips_spec primes25 1 m (by decide) hm0 (by omega)
  have eC : normC x = Rat.divInt ((normN m).1 : Int) (x.den : Int) := by unfold normC; rw [← hm]
  have eL : normL x = (normN m).2 := by unfold normL; rw [← hm]
  rw [eC, eL]
  have hn : normN m = if sqI (strips primes25 1 m).2 = true then ((strips primes25 1 m).1 * rootN (strips primes25 1 m).2, 1) else strips primes25 1 m := by
    unfold normN closeN sqI
    simp only [decide_eq_true_eq]
  have n1 := (normN_spec hm0).1
  have n2 := (normN_spec hm0).2.1
  generalize strips primes25 1 m = s at *
  have l2 : s.2 ≤ m := by
    have h1 := Nat.le_mul_of_pos_left s.2 (Nat.mul_pos i5 i5)
    omega
  have l1 : s.1 ≤ m := by
    have h1 : s.1 * 1 ≤ s.1 * (s.1 * s.2) := Nat.mul_le_mul (Nat.le_refl _) (Nat.mul_pos i5 i2)
    rw [← Nat.mul_assoc, i1] at h1
    omega
  have ln : (normN m).1 ≤ m := by
    rcases Nat.eq_zero_or_pos (normN m).1 with h | h
    · omega
    · have h1 : (normN m).1 * 1 ≤ (normN m).1 * ((normN m).1 * (normN m).2) := Nat.mul_le_mul (Nat.le_refl _) (Nat.mul_pos h n2)
      rw [← Nat.mul_assoc, n1] at h1
      omega
  have FM : ∀ z : Nat, z ≤ m → fits (z : Int) := fun z hz => fits_of_le fm (by rw [Int.natAbs_natCast, Int.natAbs_natCast]; exact hz)
  have HSQ := hide (fun w hB hT => s3square_I (FM _ l2) B w hB hT)
  have HQU := hide (fun (k : Nat) (hk : k ≤ m) w hB hT => s3quotient_T (x := (((k : Nat) : Int) : Rat)) (y := (((x.den : Nat) : Int) : Rat)) (fitsQ_int (FM k hk)) (fitsQ_int rx.1.2) (show 0 < (x.den : Int) by have := x.den_pos; omega) ⟨by show fits ((k : Int) * 1); rw [Int.mul_one]; exact FM k hk, by show fits ((x.den : Int) * 1); rw [Int.mul_one]; exact rx.1.2⟩ B w hB hT)
  simp only [← iB_T, quot_div] at HQU
  by_cases hq : sqI s.2 = true
  · rw [if_pos hq] at hn
    rw [hq] at HSQ
    rw [hn] at ln ⊢
    dsimp only at ln ⊢
    have hmul : ((s.1 : Nat) : Int) * ((rootN s.2 : Nat) : Int) = ((s.1 * rootN s.2 : Nat) : Int) := by rw [Int.natCast_mul]
    have HT2 := hide (fun w hB hT => s3times_I (FM _ l1) (fits_root (FM _ l2)) (by rw [hmul]; exact FM _ ln) B w hB hT)
    rw [hmul] at HT2
    have HQ := hide (HQU.out _ ln)
    rw [lit1]
    generalize T (Rat.divInt ((s.1 * rootN s.2 : Nat) : Int) (x.den : Int)) = R at *
    generalize iB ((s.1 * rootN s.2 : Nat) : Int) = K2 at *
    generalize iB ((rootN s.2 : Nat) : Int) = RT at *
    generalize iB ((s.1 : Nat) : Int) = S1 at *
    generalize iB ((s.2 : Nat) : Int) = S2 at *
    generalize iB (m : Int) = MM at *
    generalize iB (x.den : Int) = D at *
    generalize iB x.num = N at *
    generalize T x = X at *
    clear rx hx hT sx b1 em hm fm hm0 i1 i2 i5 eC eL hn n1 n2 l1 l2 ln FM HQU hq hmul
    go_enter Tryz.func15, Tryz.ntmps15
    go_wp2_with fail
    refine HC.out.mono ?_
    rintro e w1 ⟨rfl, hb1⟩
    have HB1 := hide (X0.out.2.2.trans (hb1.mono X0.out.2.2.size))
    clear hb1
    go_wp2_with fail
    refine (HS.out _).mono ?_
    rintro e w2 ⟨rfl, rfl⟩
    go_wp2_with fail
    refine (HS.out _).mono ?_
    rintro e w2 ⟨rfl, rfl⟩
    go_wp2_with fail
    refine (HPA.out _ (Nat.le_trans hB HB1.out.size) (HT.out.on HB1.out hB)).mono ?_
    rintro e w2 ⟨rfl, hb2⟩
    have HB2 := hide (HB1.out.trans (hb2.mono HB1.out.size))
    clear hb2
    go_wp2_with fail
    refine (HTI.out _ (Nat.le_trans hB HB2.out.size) (HT.out.p10.on HB2.out hB)).mono ?_
    rintro e w3 ⟨rfl, hb3⟩
    have HB3 := hide (HB2.out.trans (hb3.mono HB2.out.size))
    clear hb3
    go_wp2_with fail
    refine (HRE.out _ (Nat.le_trans hB HB3.out.size) (HT.out.p10.on HB3.out hB)).mono ?_
    rintro e w4 ⟨rfl, hb4⟩
    have HB4 := hide (HB3.out.trans (hb4.mono HB3.out.size))
    clear hb4
    go_wp2_with fail
    refine (HSQ.out _ (Nat.le_trans hB HB4.out.size) (HT.out.p10.on HB4.out hB)).mono ?_
    rintro e w5 ⟨rfl, hb5⟩
    have HB5 := hide (HB4.out.trans (hb5.mono HB4.out.size))
    clear hb5
    go_wp2_with fail
    refine (HT2.out _ (Nat.le_trans hB HB5.out.size) (HT.out.p10.on HB5.out hB)).mono ?_
    rintro e w6 ⟨rfl, hb6⟩
    have HB6 := hide (HB5.out.trans (hb6.mono HB5.out.size))
    clear hb6
    go_wp2_with fail
    refine (HQ.out _ (Nat.le_trans hB HB6.out.size) (HT.out.on HB6.out hB)).mono ?_
    rintro e w7 ⟨rfl, hb7⟩
    have HB7 := hide (HB6.out.trans (hb7.mono HB6.out.size))
    clear hb7
    go_wp2_with fail
    refine bodyPost_ret (results_tmp3 rfl _ _ _) rfl ?_
    exact ⟨rfl, HB7.out⟩
  · rw [if_neg hq] at hn
    have hqf : sqI s.2 = false := by simpa using hq
    rw [hqf] at HSQ
    rw [hn] at ln ⊢
    have HQ := hide (HQU.out _ ln)
    generalize T (Rat.divInt ((s.1 : Nat) : Int) (x.den : Int)) = R at *
    generalize iB ((rootN s.2 : Nat) : Int) = RT at *
    generalize iB ((s.1 : Nat) : Int) = S1 at *
    generalize iB ((s.2 : Nat) : Int) = S2 at *
    generalize iB (m : Int) = MM at *
    generalize iB (x.den : Int) = D at *
    generalize iB x.num = N at *
    generalize T x = X at *
    clear rx hx hT sx b1 em hm fm hm0 i1 i2 i5 eC eL hn n1 n2 l1 l2 ln FM HQU hq hqf
    go_enter Tryz.func15, Tryz.ntmps15
    go_wp2_with fail
    refine HC.out.mono ?_
    rintro e w1 ⟨rfl, hb1⟩
    have HB1 := hide (X0.out.2.2.trans (hb1.mono X0.out.2.2.size))
    clear hb1
    go_wp2_with fail
    refine (HS.out _).mono ?_
    rintro e w2 ⟨rfl, rfl⟩
    go_wp2_with fail
    refine (HS.out _).mono ?_
    rintro e w2 ⟨rfl, rfl⟩
    go_wp2_with fail
    refine (HPA.out _ (Nat.le_trans hB HB1.out.size) (HT.out.on HB1.out hB)).mono ?_
    rintro e w2 ⟨rfl, hb2⟩
    have HB2 := hide (HB1.out.trans (hb2.mono HB1.out.size))
    clear hb2
    go_wp2_with fail
    refine (HTI.out _ (Nat.le_trans hB HB2.out.size) (HT.out.p10.on HB2.out hB)).mono ?_
    rintro e w3 ⟨rfl, hb3⟩
    have HB3 := hide (HB2.out.trans (hb3.mono HB2.out.size))
    clear hb3
    go_wp2_with fail
    refine (HRE.out _ (Nat.le_trans hB HB3.out.size) (HT.out.p10.on HB3.out hB)).mono ?_
    rintro e w4 ⟨rfl, hb4⟩
    have HB4 := hide (HB3.out.trans (hb4.mono HB3.out.size))
    clear hb4
    go_wp2_with fail
    refine (HSQ.out _ (Nat.le_trans hB HB4.out.size) (HT.out.p10.on HB4.out hB)).mono ?_
    rintro e w5 ⟨rfl, hb5⟩
    have HB5 := hide (HB4.out.trans (hb5.mono HB4.out.size))
    clear hb5
    go_wp2_with fail
    refine (HQ.out _ (Nat.le_trans hB HB5.out.size) (HT.out.on HB5.out hB)).mono ?_
    rintro e w6 ⟨rfl, hb6⟩
    have HB6 := hide (HB5.out.trans (hb6.mono HB5.out.size))
    clear hb6
    go_wp2_with fail
    refine bodyPost_ret (results_tmp3 rfl _ _ _) rfl ?_
    exact ⟨rfl, HB6.out⟩
theorem s3Normal_T {q : Rat} (rq : roomy q) (hq : 0 ≤ q.num) (B : Nat) (w : World) (hB : B ≤ w.heap.size) (hT : PQ B w) :
    Calls Tryz.prog 15 #[.string (T q)] w (Ret w (.tuple #[.string (T (nC q)), .string (T ((nL q : Nat) : Rat)), .int .i64 0])) := by
  unfold nC nL
  by_cases h : q.num = 0
  · rw [if_pos h, if_pos h, Rat.num_eq_zero.1 h]
    have := s3Normal_zero B w hB hT
    rw [← T0, ← T1] at this
    exact this
  · rw [if_neg h, if_neg h]
    have := s3Normal_pos rq (by omega) B w hB hT
    rw [iB_T] at this
    exact this
/-- Normal: the same results. -/
theorem normal_same (q : ByteArray) (hs : q.size ≤ 1000000) (B : Nat) : ∃ (a b : ByteArray) (e : Int), Hid (∀ w, B ≤ w.heap.size → PR B w → Calls Tryz.prog 14 #[.string q] w (Ret w (.tuple #[.string a, .string b, .int .i64 e]))) ∧ Hid (∀ w, B ≤ w.heap.size → PR B w → Calls Tryz.prog 15 #[.string q] w (Ret w (.tuple #[.string a, .string b, .int .i64 e]))) := by
  rcases check_split1 q with ⟨h1, h2⟩ | ⟨x, rx, rfl, hx, h1, h2⟩ | ⟨x, rx, rfl, hx, h1⟩
  · refine ⟨_, _, _, hide (fun w hB hT => rNormal_bad hs (by rw [h2]; exact h1) B w hB hT.pq), hide (fun w hB hT => ?_)⟩
    rw [h2]
    exact s3Normal_first hs h1 B w hB hT.pq
  · refine ⟨_, _, _, hide (fun w hB hT => rNormal_bad hs (by rw [h2]; decide) B w hB hT.pq), hide (fun w hB hT => ?_)⟩
    rw [h2]
    exact s3Normal_neg rx hx B w hB hT.pq
  · exact ⟨_, _, _, hide (fun w hB hT => rNormal_T rx hx B w hB hT), hide (fun w hB hT => s3Normal_T rx hx B w hB hT.pq)⟩
set_option maxRecDepth 100000 in
/-- The reference's Exact by its Normal. -/
theorem s3Exact_of {q a b : ByteArray} {e : Int} {B : Nat} (H : ∀ w, B ≤ w.heap.size → PR B w → Calls Tryz.prog 15 #[.string q] w (Ret w (.tuple #[.string a, .string b, .int .i64 e]))) (w : World) (hB : B ≤ w.heap.size) (hT : PR B w) :
    Calls Tryz.prog 17 #[.string q] w (Ret w (if e ≠ 0 ∨ (b.toList == [49]) = false then .tuple #[.string ⟨#[]⟩, .bool false, .int .i64 e] else .tuple #[.string a, .bool true, .int .i64 0])) := by
  have HT := hide hT
  have H1 := hide H
  clear H hT
  by_cases he : e = 0
  · subst he
    cases hb : (b.toList == [49]) with
    | true =>
      rw [if_neg (by simp)]
      go_enter Tryz.func17, Tryz.ntmps17
      go_wp2_with fail
      refine (H1.out _ hB HT.out).mono ?_
      rintro e w1 ⟨rfl, hb1⟩
      have HB1 := hide hb1
      clear hb1
      go_wp2_with fail
      refine bodyPost_ret (results_tmp3 rfl _ _ _) rfl ?_
      exact ⟨rfl, HB1.out⟩
    | false =>
      rw [if_pos (.inr rfl)]
      have hne : (b.toList != [49]) = true := by simp only [bne, hb]; rfl
      go_enter Tryz.func17, Tryz.ntmps17
      go_wp2_with fail
      refine (H1.out _ hB HT.out).mono ?_
      rintro e w1 ⟨rfl, hb1⟩
      have HB1 := hide hb1
      clear hb1
      go_wp2_with fail
      refine bodyPost_ret (results_tmp3 rfl _ _ _) rfl ?_
      exact ⟨rfl, HB1.out⟩
  · rw [if_pos (.inl he)]
    have hne : (e == 0) = false := by simpa using he
    have hne2 : (e != 0) = true := by simpa using he
    have hne3 : (e = 0) = False := eq_false he
    clear he
    go_enter Tryz.func17, Tryz.ntmps17
    go_wp2_with fail
    refine (H1.out _ hB HT.out).mono ?_
    rintro e w1 ⟨rfl, hb1⟩
    have HB1 := hide hb1
    clear hb1
    go_wp2_with fail
    refine bodyPost_ret (results_tmp3 rfl _ _ _) rfl ?_
    exact ⟨rfl, HB1.out⟩
theorem T_one_is (n : Nat) : ((T ((n : Nat) : Rat)).toList == [49]) = decide (n = 1) := by
  rw [show T ((n : Nat) : Rat) = iB (n : Int) from (iB_T _).symm, iB_one_test]
  exact decide_eq_decide.2 (by omega)
/-- Exact: the same results. -/
theorem exact_same (q : ByteArray) (hs : q.size ≤ 1000000) (B : Nat) : ∃ (a : ByteArray) (b : Bool) (e : Int), Hid (∀ w, B ≤ w.heap.size → PR B w → Calls Tryz.prog 16 #[.string q] w (Ret w (.tuple #[.string a, .bool b, .int .i64 e]))) ∧ Hid (∀ w, B ≤ w.heap.size → PR B w → Calls Tryz.prog 17 #[.string q] w (Ret w (.tuple #[.string a, .bool b, .int .i64 e]))) := by
  rcases check_split1 q with ⟨h1, h2⟩ | ⟨x, rx, rfl, hx, h1, h2⟩ | ⟨x, rx, rfl, hx, h1⟩
  · refine ⟨_, _, _, hide (fun w hB hT => rExact_bad hs (by rw [h2]; exact h1) B w hB hT.pq), hide (fun w hB hT => ?_)⟩
    have h := s3Exact_of (fun w hB hT => s3Normal_first hs h1 B w hB hT.pq) w hB hT
    rw [if_pos (.inl h1)] at h
    rw [h2]
    exact h
  · refine ⟨_, _, _, hide (fun w hB hT => rExact_bad hs (by rw [h2]; decide) B w hB hT.pq), hide (fun w hB hT => ?_)⟩
    have h := s3Exact_of (fun w hB hT => s3Normal_neg rx hx B w hB hT.pq) w hB hT
    rw [if_pos (.inl (by decide))] at h
    rw [h2]
    exact h
  · refine ⟨_, _, _, hide (fun w hB hT => rExact_T rx hx B w hB hT.pq), hide (fun w hB hT => ?_)⟩
    have h := s3Exact_of (fun w hB hT => s3Normal_T rx hx B w hB hT.pq) w hB hT
    obtain ⟨n1, n2, n3, _, n5⟩ := nForm hx
    rw [T_one_is] at h
    by_cases h1 : nL x = 1
    · rw [decide_eq_true h1, if_neg (by simp)] at h
      have hr : sqR x = some (nC x) := by
        refine (sqR_some (Rat.num_nonneg.1 hx)).2 ⟨?_, ?_⟩
        · refine Rat.not_lt.1 fun hlt => ?_
          have h3 : sgnR (nC x) = -1 := cmpT_lt hlt
          rw [n2] at h3
          have := sgn_ge (Rat.num_nonneg.1 hx)
          omega
        · have h4 := n1
          rw [h1] at h4
          rw [show ((1 : Nat) : Rat) = 1 from rfl, Rat.mul_one] at h4
          exact h4
      rw [hr]
      exact h
    · rw [decide_eq_false h1, if_pos (.inr rfl)] at h
      have hr : sqR x = none := by
        rcases Option.eq_none_or_eq_some (sqR x) with h3 | ⟨r, h3⟩
        · exact h3
        · exact absurd (n5.2 ⟨r, h3⟩) h1
      rw [hr]
      exact h
end Go.Proofs.YtgddookioipjiaaGreatDoor
