/-
 Texts laid together.
-/
import Derived.Test.YtklgpilgalfckaaGreatDoorMA7
import Derived.Test.YtklgpilgalfckaaGreatDoorMA14
import Derived.Test.YtklgpilgalfckaaGreatDoorMA4
import Derived.Test.YtklgpilgalfckaaGreatDoorMA5
import Derived.Test.YtklgpilgalfckaaGreatDoorMA13
import Derived.Test.YtklgpilgalfckaaGreatDoorMA2
import Derived.Test.YtklgpilgalfckaaGreatDoorMA9
set_option maxRecDepth 100000
set_option maxHeartbeats 16000000
namespace Go.Proofs.YtklgpilgalfckaaGreatDoor
open Go.RowKit Go.KP Go.KI Go.Shelf
attribute [local go_sem] Oper.semAt_some

theorem ygB (k : Nat) : dv ([49] ++ List.replicate k 48) = 10 ^ k := by
 have hz : ∀ n, dv (List.replicate n (48 : UInt8)) = 0 := by
  intro n
  induction n with
  |zero => rfl
  |succ n ih => rw [List.replicate_succ', qV, ih]; rfl
 rw [qh, hz, List.length_replicate]
 show (0 * 10 + (49 - 48)) * 10 ^ k + 0 = 10 ^ k
 omega
theorem yaK (k : Nat) (hk : k ≤ 200) : chkI ([49] ++ List.replicate k 48) = 0 ∧ valI ([49] ++ List.replicate k 48) = ((10 ^ k : Nat) : Int) := by
 have e : [49] ++ List.replicate k 48 = Lib.itoa ((10 ^ k : Nat) : Int) := by
  rw [Lib.itoa_nonneg]
  have h := vJ (l := [49] ++ List.replicate k 48) (by simp) (fun c hc => by
   rcases List.mem_append.1 hc with h | h
   ·simp at h; rw [h]; rfl
   ·rw [List.eq_of_mem_replicate h]; rfl) (fun _ => by simp)
  rw [ygB] at h
  exact h
 rw [e, ym]
 refine ⟨yM (yq (n := 201) (by rw [yC]; omega) ?_), rfl⟩
 rw [Int.natAbs_natCast]
 exact (Nat.pow_lt_pow_iff_right (by omega)).2 (by omega)
theorem yaB {n k len : Nat} (h : n < 10 ^ len) (hk : len ≤ 2 * k) : rootN n ≤ 10 ^ k := by
 refine xX ?_
 have h1 : (10 : Nat) ^ len ≤ 10 ^ (2 * k) := Nat.pow_le_pow_right (by omega) hk
 have h2 : (10 : Nat) ^ (2 * k) = 10 ^ k * 10 ^ k := by rw [← Nat.pow_add]; congr 1; omega
 have h3 : 10 ^ k * 10 ^ k ≤ (10 ^ k + 1) * (10 ^ k + 1) := Nat.mul_le_mul (by omega) (by omega)
 omega
theorem yiD : Norm 1000000000 [2] := ⟨fun z hz => by simp at hz; omega, .inr (by decide)⟩
theorem yfi (s : ByteArray) (n : Nat) (B : Nat) (w : World) (c1 : chkI s.data.toList = 0) (hs : 18 < s.size) (hn : valI s.data.toList = (n : Int)) (h0 : 0 < n) (hB : B ≤ w.heap.size) (hT : P10 B w) :
 Calls Tryz.prog 148 #[.string s] w (Ret w (pairV (resS ((rootN n : Nat) : Int)) (resE ((rootN n : Nat) : Int)))) := by
 have HT := hide hT
 have l1' := (yL c1).2
 rw [yg] at l1'
 have H1 := hide (xq s (by omega) w)
 rw [c1] at H1
 have HRD := hide (fun w => yU s c1 w)
 have hsi := (qg c1).1
 rw [hn, Lib.itoa_nonneg] at hsi
 have hne : s.data.toList ≠ [] := by rw [hsi]; exact yw _
 obtain ⟨hp, hh⟩ := yT hne
 have hp0 : (0 : Int) < (s.size : Int) := by omega
 have h45 : ((s[0].toNat : Int) == 45) = false := by
  have h1 : s[0] ≠ 45 := fun e => by
   rw [e, hsi] at hh
   exact zU _ hh
  have : s[0].toNat ≠ 45 := fun h => h1 (UInt8.toNat_inj.1 h)
  simp only [beq_eq_false_iff_ne, ne_eq]
  omega
 have hz : (s.toList == [48]) = false := by
  rw [ByteArray.toList_eq]
  have : s.data.toList ≠ [48] := fun e => by
   have h2 := hn
   rw [e, ← yP, ym] at h2
   omega
  simpa using this
 have hl18 : ((s.size : Int) ≤ 18) = False := eq_false (by omega)
 obtain ⟨k, hk⟩ := xe ((s.size + 1) / 2)
 have hki : ((s.size : Int) + 1) / 2 = (k : Int) := by omega
 have hkl : k ≤ 200 := by omega
 obtain ⟨st1, st2⟩ := yaK k hkl
 obtain ⟨rp, hrp⟩ := xe (strB (Lib.repeatL [48] k))
 have hrpl : rp.data.toList = List.replicate k 48 := by rw [hrp, yh, repeat48]
 have hrps : rp.size ≤ 200 := by rw [← yg, hrpl, List.length_replicate]; exact hkl
 have HRP := hide (fun w => xS ⟨#[48]⟩ k w (by omega) (by decide))
 rw [show (⟨#[48]⟩ : ByteArray).data.toList = [48] from rfl, ← hrp] at HRP
 have hcat : ((⟨#[49]⟩ : ByteArray) ++ rp).data.toList = [49] ++ List.replicate k 48 := by
  rw [← hrpl]
  simp
 rw [← hcat] at st1 st2
 have HRX := hide (fun w => yU (⟨#[49]⟩ ++ rp) st1 w)
 have HST := hide (show rootN n ≤ 10 ^ k by
  refine yaB (len := s.size) ?_ (by omega)
  have := dec_lt n
  rw [← hsi, yg] at this
  exact this)
 have hcs : (9223372036854775807 < (⟨#[49]⟩ : ByteArray).size + rp.size) = False := eq_false (by
  have : (⟨#[49]⟩ : ByteArray).size = 1 := rfl
  omega)
 have HS2 := hide st2; have H0 := hide h0; have HN := hide hn
 have hfd : ∀ (w : World) (m : Bool) (a : Option Addr) (n c : Nat), (Instr.field 207 (.agg #[.bool m, .slice a n c]) 1).run Tryz.prog w = .ok (.slice a n c) w := fun _ _ _ _ _ => by kernel_rfl
 clear hsi hne hh c1 hs hn hT l1' hk st1 st2 hrp hrpl hcat h0
 go_enter Tryz.func148, Tryz.ntmps148
 go_wp2_with fail
 refine H1.out.mono ?_
 rintro e w1 ⟨rfl, hb1⟩
 have HB1 := hide hb1
 clear hb1 H1
 go_wp2_with fail
 refine (HRD.out _).mono ?_
 rintro e w2 ⟨m1, a1, l1, rfl, hb2, o1, n1, q1, k1⟩
 obtain ⟨av, cv, hvf, _, _⟩ := o1.form
 subst hvf
 have HB2 := bt HB1 hb2
 have O1 := hide (LimbAt.yx o1); have N1 := hide n1
 have E1 := hide (show lv 1000000000 l1 = n by
  have h := HN.out
  rw [← q1] at h
  have := jn m1 (lv 1000000000 l1)
  rw [h] at this
  omega)
 clear hb2 HRD o1 n1 q1 HB1
 go_wp2_with fail
 refine (HRP.out _).mono ?_
 rintro e w3 ⟨rfl, hb3⟩
 have O3 := hide ((O1.out.below hb3 (Nat.le_refl _)).mono hb3.size)
 have HB3 := bt HB2 hb3
 clear hb3 HRP HB2 O1
 go_wp2_with fail
 refine (HRX.out _).mono ?_
 rintro e w4 ⟨m2, a2, l2, rfl, hb4, o2, n2, q2, k2⟩
 obtain ⟨av2, cv2, hvf, _, _⟩ := o2.form
 subst hvf
 have O4 := hide ((O3.out.below hb4 (Nat.le_refl _)).mono hb4.size)
 have HB4 := bt HB3 hb4
 have O2 := hide (LimbAt.yx o2); have N2 := hide n2
 have E2 := hide (show rootN n ≤ lv 1000000000 l2 by
  rw [HS2.out] at q2
  have := jn m2 (lv 1000000000 l2)
  rw [q2, Int.natAbs_natCast] at this
  rw [← this]
  exact HST.out)
 clear hb4 o2 n2 q2 HRX O3 HB3
 go_wp2_with fail
 clear hfd
 go_loopw [6] (fun p wr => ∃ (ap : Option Addr) (cp : Nat) (x : List Nat), p = .slice ap x.length cp ∧ x.length ≤ 50 ∧ Hid (LimbAt wr.heap.size wr (.slice ap x.length cp) x ∧ Norm 1000000000 x ∧ rootN n ≤ lv 1000000000 x ∧ Below w4.heap.size w4 wr)) (fun p wr => lv 1000000000 (limbsAt wr p))
 case atStart => exact ⟨av2, cv2, l2, rfl, by omega, O2.out, N2.out, E2.out, Below.refl _ _⟩
 case round =>
  clear O2 N2 E2 k2
  obtain ⟨ap, cp, x, rfl, hx, hin⟩ := hrel
  have I1 := hide hin.out.1; have N3 := hide hin.out.2.1; have RX := hide hin.out.2.2.1; have HBW := hide hin.out.2.2.2
  clear hin
  have HM0 := hide (zM I1.out)
  have hxp : 0 < lv 1000000000 x := Nat.lt_of_lt_of_le (qS H0.out) RX.out
  have hxne : x ≠ [] := fun e => by rw [e] at hxp; exact absurd hxp (by decide)
  have HXP := hide hxp
  have HD := hide (jU (.slice av l1.length cv) (.slice ap x.length cp) l1 x wr.heap.size wr ((O4.out.below HBW.out (Nat.le_refl _)).mono HBW.out.size) I1.out (Nat.le_refl _) N1.out N3.out hxne (by omega) (by omega))
  clear hxp hxne
  go_wp2_with fail
  refine HD.out.mono ?_
  rintro e w5 ⟨vq, vr, q, r, rfl, hb5, oq, or_, nq, nr, eq, er, lq, lr⟩
  obtain ⟨aq, cq, hvf⟩ := oq.form
  subst hvf
  obtain ⟨ar, cr, hvf⟩ := or_.form
  subst hvf
  rw [E1.out] at eq
  have J1 := hide ((I1.out.below hb5 (Nat.le_refl _)).mono hb5.size)
  have HB5 := hide (HBW.out.trans (hb5.mono HBW.out.size))
  have HC := hide (zV 198 plusP plusFn (.slice ap x.length cp) (.slice aq q.length cq) x q w5.heap.size w5 J1.out oq (Nat.le_refl _) N3.out.lt nq.lt (by omega) (by omega))
  have hsum := yda N3.out.lt nq.lt
  rw [eq] at hsum
  obtain ⟨l3, hl3⟩ := xe (trimL (combL plusP x q))
  rw [← hl3] at HC hsum
  have h3l : l3.length ≤ 200 := by
   have := hsum.2.2
   omega
  have N4 := hide hsum.1; have E3 := hide hsum.2.1
  clear hb5 oq or_ nq nr eq er lq lr HD I1 HBW hsum hl3
  go_wp2_with fail
  refine HC.out.mono ?_
  rintro e w6 ⟨v3, rfl, hb6, o3⟩
  obtain ⟨av3, cv3, hvf, _, _⟩ := o3.form
  subst hvf
  obtain ⟨g0, gs0, gb0⟩ := heap1 w6 (rowO [2])
  have HBa := hide ((hb6.trans (gb0.mono hb6.size)))
  have HD2 := hide (jU (.slice av3 l3.length cv3) (.slice (some ⟨w6.heap.size, 0, none⟩) 1 1) l3 [2] (w6.alloc (rowO [2])).heap.size (w6.alloc (rowO [2])) (LimbAt.yx (o3.keep gb0)) (yV g0 (by unfold maxLen; simp)) (Nat.le_refl _) N4.out yiD (by simp) (by omega) (by simp))
  have HB6 := hide (HB5.out.trans (HBa.out.mono HB5.out.size))
  have J2 := hide ((J1.out.below HBa.out (Nat.le_refl _)).mono HBa.out.size)
  clear hb6 o3 g0 gs0 gb0 HC HB5 J1 HBa
  go_wp2_with fail
  refine HD2.out.mono ?_
  rintro e w7 ⟨vq, vr, q2, r2, rfl, hb7, oq, or_, nq, nr, eq, er, lq, lr⟩
  obtain ⟨aq2, cq2, hvf⟩ := oq.form
  subst hvf
  obtain ⟨ar2, cr2, hvf⟩ := or_.form
  subst hvf
  have eq2 : lv 1000000000 q2 = (lv 1000000000 x + n / lv 1000000000 x) / 2 := by
   rw [eq, E3.out]
   rfl
  have J3 := hide ((J2.out.below hb7 (Nat.le_refl _)).mono hb7.size)
  have HB7 := bt HB6 hb7
  have HCM := hide (vO (.slice aq2 q2.length cq2) (.slice ap x.length cp) q2 x w7.heap.size w7 oq J3.out (Nat.le_refl _) nq N3.out (by omega) (by omega))
  have OQ := hide oq; have NQ := hide nq; have EQ := hide eq2
  clear hb7 oq or_ nq nr eq er lr HD2 HB6 J2 eq2
  go_wp2_with fail
  refine HCM.out.mono ?_
  rintro e w8 ⟨rc, rfl, hcr, hb8⟩
  have J4 := hide ((J3.out.below hb8 (Nat.le_refl _)).mono hb8.size)
  have OQ8 := hide ((OQ.out.below hb8 (Nat.le_refl _)).mono hb8.size)
  have HB8 := bt HB7 hb8
  clear hb8 HCM HB7 J3 OQ
  by_cases hge : lv 1000000000 x ≤ lv 1000000000 q2
  ·have hr0 : 0 ≤ rc := by
    rcases Int.lt_or_le rc 0 with h | h
    ·have := hcr.1.1 h
     omega
    ·exact h
   have HEN := hide (ko (n := n) HXP.out RX.out (by rw [← EQ.out]; exact hge))
   have HR := hide (zw false (.slice ap x.length cp) x w8.heap.size w8 J4.out (Nat.le_refl _) N3.out (by omega) ((HT.out.on (HB4.out.trans (HB8.out.mono HB4.out.size)) hB).mono (Nat.le_trans hB (HB4.out.trans (HB8.out.mono HB4.out.size)).size)))
   rw [show valS false (lv 1000000000 x) = ((rootN n : Nat) : Int) by rw [HEN.out]; rfl] at HR
   have HBF := hide (HB4.out.trans (HB8.out.mono HB4.out.size))
   clear hge hcr
   go_wp2_with fail
   refine HR.out.mono ?_
   rintro e w9 ⟨rfl, hb9⟩
   have HB9 := hide (HBF.out.trans (hb9.mono HBF.out.size))
   clear hb9 HR
   go_wp2_with fail
   refine bodyPost_ret (results_tmp2 rfl _ _ _) rfl ?_
   exact ⟨rfl, HB9.out⟩
  ·have hr0 : (0 ≤ rc) = False := eq_false (fun h => by
    have h1 : rc < 0 := hcr.1.2 (by omega)
    omega)
   have HLT := hide (show lv 1000000000 q2 < lv 1000000000 x by omega)
   have HGE := hide (show rootN n ≤ lv 1000000000 q2 by rw [EQ.out]; exact xJ HXP.out)
   have hql : q2.length ≤ 50 := by
    have := norm_le NQ.out N3.out.lt (Nat.le_of_lt HLT.out)
    omega
   clear hge hcr
   go_wp2_with fail
   go_roundw
   case rel => exact ⟨aq2, cq2, q2, rfl, hql, OQ8.out, NQ.out, HGE.out, HB8.out⟩
   case measure =>
    rw [zM OQ8.out, HM0.out]
    exact HLT.out
theorem yio {s r : ByteArray} {n : Nat} (h1 : s.data.toList = Lib.itoa (n : Int)) (h3 : r.data.toList = Lib.itoa ((rootN n : Nat) : Int)) (f1 : fits (n : Int)) (h0 : 0 < n) (B : Nat) (w : World) (hB : B ≤ w.heap.size) (hT : P10 B w) :
 Calls Tryz.prog 148 #[.string s] w (Ret w (pairT r)) := by
 have c1 : chkI s.data.toList = 0 := by rw [h1]; exact yM f1
 have hv : valI s.data.toList = (n : Int) := by rw [h1, ym]
 have ff : fits ((rootN n : Nat) : Int) := by
  refine yi f1 ?_
  rw [Int.natAbs_natCast, Int.natAbs_natCast]
  obtain ⟨g1, _⟩ := yX n
  have hr := qS h0
  have : rootN n * 1 ≤ rootN n * rootN n := Nat.mul_le_mul_left _ hr
  omega
 by_cases hl : s.size ≤ 18
 ·have e := yeV s n B w c1 hl hv h0 hB hT
  rw [pairV, vP h3] at e
  exact e
 ·have e := yfi s n B w c1 (by omega) hv h0 hB hT
  rw [pairV, (vQ ff).1, (vQ ff).2, vP h3] at e
  exact e
end Go.Proofs.YtklgpilgalfckaaGreatDoor
namespace Go.KI
open Go
def sqI (n : Nat) : Bool := decide (rootN n * rootN n = n)
theorem yhl (q : Rat) : (q.num : Rat) / ((q.den : Nat) : Rat) = q := by
 have h := Rat.num_divInt_den q
 rw [Rat.divInt_eq_div] at h
 exact h
end Go.KI
namespace Go.Proofs.YtklgpilgalfckaaGreatDoor
open Go.RowKit Go.KP Go.KI Go.Shelf
attribute [local go_sem] Oper.semAt_some

theorem iB_T (z : Int) : iB z = T (z : Rat) := by
 apply yp
 rw [yv, yI, jW]
theorem xt {z : Int} (h : fits z) : fitsQ (z : Rat) := ⟨h, ybG⟩
theorem ycO {x y : Int} (f1 : fits x) (f2 : fits y) (f3 : fits (x * y)) (B : Nat) (w : World) (hB : B ≤ w.heap.size) (hT : P10 B w) :
 Calls Tryz.prog 94 #[.string (iB x), .string (iB y)] w (Ret w (.string (iB (x * y)))) := by
 have HT := hide hT
 have H1 := hide (fun w hB hT => yis f1 f2 f3 B w hB hT)
 clear f1 f2 f3 hT
 generalize iB (x * y) = Z at H1 ⊢
 generalize iB x = X at H1 ⊢
 generalize iB y = Y at H1 ⊢
 go_enter Tryz.func94, Tryz.ntmps94
 go_wp2_with fail
 refine (H1.out _ hB HT.out).mono ?_
 rintro e w1 ⟨rfl, hb1⟩
 have HB1 := hide hb1
 clear hb1
 go_wp2_with fail
 go_ret
 exact ⟨rfl, HB1.out⟩
theorem yhQ {x y : Int} (f1 : fits x) (f2 : fits y) (hy : 0 < y) (B : Nat) (w : World) (hB : B ≤ w.heap.size) (hT : P10 B w) :
 Calls Tryz.prog 147 #[.string (iB x), .string (iB y)] w (Ret w (.tuple #[.string (iB (x / y)), .string (iB (x % y))])) := by
 have HT := hide hT
 have H1 := hide (fun w hB hT => yf4 f1 f2 hy B w hB hT)
 clear f1 f2 hy hT
 generalize iB (x / y) = Z at H1 ⊢
 generalize iB (x % y) = R at H1 ⊢
 generalize iB x = X at H1 ⊢
 generalize iB y = Y at H1 ⊢
 go_enter Tryz.func147, Tryz.ntmps147
 go_wp2_with fail
 refine (H1.out _ hB HT.out).mono ?_
 rintro e w1 ⟨rfl, hb1⟩
 have HB1 := hide hb1
 clear hb1
 go_wp2_with fail
 refine bodyPost_ret (results_tmp2 rfl _ _ _) rfl ?_
 exact ⟨rfl, HB1.out⟩
theorem wY {x y : Int} (f1 : fits x) (f2 : fits y) (hy : y ≠ 0) (B : Nat) (w : World) (hB : B ≤ w.heap.size) (hT : PQ B w) :
 Calls Tryz.prog 97 #[.string (iB x), .string (iB y)] w (Ret w (.string (T ((x : Rat) / (y : Rat))))) := by
 have HT := hide hT
 have hc : cmpC (x : Rat) (y : Rat) := by
  refine ⟨?_, ?_⟩
  ·show fits (x * 1)
   rw [Int.mul_one]
   exact f1
  ·show fits (y * 1)
   rw [Int.mul_one]
   exact f2
 have hy0 : (y : Rat) ≠ 0 := fun e => hy (by exact_mod_cast e)
 have H1 : Hid (∀ w, B ≤ w.heap.size → PQ B w → Calls Tryz.prog 149 #[.string (iB x), .string (iB y)] w (Ret w (.tuple #[.string (T ((x : Rat) / (y : Rat))), .int .i64 0]))) :=
  hide (fun w hB hT => yhX (by rw [iB_T, yI]) (by rw [iB_T, yI]) (xt f1) (xt f2) hy0 hc B w hB hT)
 clear f1 f2 hy hT hc hy0
 generalize T ((x : Rat) / (y : Rat)) = Z at H1 ⊢
 generalize iB x = X at H1 ⊢
 generalize iB y = Y at H1 ⊢
 go_enter Tryz.func97, Tryz.ntmps97
 go_wp2_with fail
 refine (H1.out _ hB HT.out).mono ?_
 rintro e w1 ⟨rfl, hb1⟩
 have HB1 := hide hb1
 clear hb1
 go_wp2_with fail
 go_ret
 exact ⟨rfl, HB1.out⟩
theorem ygQ {n : Nat} (f : fits (n : Int)) (B : Nat) (w : World) (hB : B ≤ w.heap.size) (hT : P10 B w) :
 Calls Tryz.prog 96 #[.string (iB (n : Int))] w (Ret w (.tuple #[.string (iB ((rootN n : Nat) : Int)), .bool (sqI n)])) := by
 have HT := hide hT
 obtain ⟨r1, r2⟩ := yX n
 have hsz : (iB (n : Int)).size = (Lib.decDigits n).length := by rw [← yg, zx (by omega), Int.natAbs_natCast]
 by_cases hs : (iB (n : Int)).size ≤ 17
 ·have hn : n < 100000000000000000 := (yn (n := 17) (by omega)).1 (by omega)
  have HN : Hid (∀ w, Calls Tryz.prog 92 #[.string (iB (n : Int))] w (Ret w (.tuple #[.int .i64 (n : Int), .bool true]))) := hide (fun w => by
   have h := vZ (iB (n : Int)) (by rw [yv]; exact yM f) hs w
   rw [yv, ym] at h
   exact h)
  have HR := hide (fun w => jH n (by omega) w)
  have hr : rootN n < 1000000000 := by
   refine Nat.lt_of_not_le fun h => ?_
   have := Nat.mul_le_mul h h
   omega
  have HI : Hid (∀ w, B ≤ w.heap.size → P10 B w → Calls Tryz.prog 123 #[.int .i64 ((rootN n : Nat) : Int)] w (Ret w (.string (iB ((rootN n : Nat) : Int))))) := hide (fun w _ hT => yl ((rootN n : Nat) : Int) (by omega) (by omega) B w hT)
  have e : sqI n = (((rootN n : Nat) : Int) * ((rootN n : Nat) : Int) == (n : Int)) := by
   unfold sqI
   rw [Bool.eq_iff_iff]
   simp only [decide_eq_true_iff, beq_iff_eq]
   constructor
   ·intro h; exact_mod_cast h
   ·intro h; exact_mod_cast h
  rw [e]
  have hm : (rootN n) * (rootN n) < 1000000000000000000 := by omega
  have hmi : ((rootN n : Nat) : Int) * ((rootN n : Nat) : Int) < 1000000000000000000 := by
   have h : ((rootN n * rootN n : Nat) : Int) < 1000000000000000000 := by omega
   rw [Int.natCast_mul] at h
   exact h
  have hm0 : (0 : Int) ≤ ((rootN n : Nat) : Int) * ((rootN n : Nat) : Int) := Int.mul_nonneg (by omega) (by omega)
  generalize iB ((rootN n : Nat) : Int) = R at HI ⊢
  generalize ((rootN n : Nat) : Int) = r at HR HI hmi hm0 ⊢
  have v1 : IntKind.i64.wrap (r * r) = r * r := IntWalk.i64_in _ (by omega)
  obtain ⟨b, hb⟩ := xe ((r * r == (n : Int)))
  rw [← hb]
  have HB := hide hb
  generalize iB (n : Int) = X at HN ⊢
  clear hm hmi hm0 hr hn hs hsz e r1 r2 f hT hb
  go_enter Tryz.func96, Tryz.ntmps96
  go_wp2_with fail
  refine (HN.out _).mono ?_
  rintro e w1 ⟨rfl, hb1⟩
  have HB1 := hide hb1
  clear hb1
  go_wp2_with fail
  refine (HR.out _).mono ?_
  rintro e w2 ⟨rfl, hb2⟩
  have HB2 := bt HB1 hb2
  clear hb2
  go_wp2_with fail
  refine (HI.out _ (Nat.le_trans hB HB2.out.size) (HT.out.on HB2.out hB)).mono ?_
  rintro e w3 ⟨rfl, hb3⟩
  have HB3 := bt HB2 hb3
  clear hb3
  go_wp2_with fail
  refine bodyPost_ret (results_tmp2 rfl _ _ _) rfl ?_
  exact ⟨by rw [HB.out]; rfl, HB3.out⟩
 ·have h0 : 0 < n := Nat.pos_of_ne_zero fun e => hs (by rw [e] at hsz; rw [show (Lib.decDigits 0).length = 1 by rw [zP]; rfl] at hsz; rw [e]; omega)
  have fr : fits ((rootN n : Nat) : Int) := yi f (by
   rw [Int.natAbs_natCast, Int.natAbs_natCast]
   have := qS h0
   exact Nat.le_trans (Nat.le_mul_of_pos_left _ this) r1)
  have frr : fits (((rootN n : Nat) : Int) * ((rootN n : Nat) : Int)) := yi f (by rw [Int.natAbs_mul, Int.natAbs_natCast, Int.natAbs_natCast]; exact r1)
  have HN := hide (fun w => yeK (iB (n : Int)) (by omega) w)
  have HR := hide (fun w hB hT => yio (yv _) (yv _) f h0 B w hB hT)
  have HM := hide (fun w hB hT => ycO fr fr frr B w hB hT)
  have e : ((iB (((rootN n : Nat) : Int) * ((rootN n : Nat) : Int))).toList == (iB (n : Int)).toList) = sqI n := by
   rw [ByteArray.toList_eq, ByteArray.toList_eq, yv, yv]
   unfold sqI
   rw [Bool.eq_iff_iff]
   simp only [decide_eq_true_iff, beq_iff_eq]
   constructor
   ·intro h; have := vg h; exact_mod_cast this
   ·intro h; congr 1; exact_mod_cast h
  clear hs hsz h0 fr frr r1 r2 f hT
  generalize iB (((rootN n : Nat) : Int) * ((rootN n : Nat) : Int)) = Q at HM e
  generalize iB ((rootN n : Nat) : Int) = R at HR HM ⊢
  generalize iB (n : Int) = X at HN HR e ⊢
  generalize sqI n = b at e ⊢
  go_enter Tryz.func96, Tryz.ntmps96
  go_wp2_with fail
  refine (HN.out _).mono ?_
  rintro e w1 ⟨rfl, hb1⟩
  have HB1 := hide hb1
  clear hb1
  go_wp2_with fail
  refine (HR.out _ (Nat.le_trans hB HB1.out.size) (HT.out.on HB1.out hB)).mono ?_
  rintro e w2 ⟨rfl, hb2⟩
  have HB2 := bt HB1 hb2
  clear hb2
  go_wp2_with fail
  refine (HM.out _ (Nat.le_trans hB HB2.out.size) (HT.out.on HB2.out hB)).mono ?_
  rintro e w3 ⟨rfl, hb3⟩
  have HB3 := bt HB2 hb3
  clear hb3
  go_wp2_with fail
  refine bodyPost_ret (results_tmp2 rfl _ _ _) rfl ?_
  exact ⟨rfl, HB3.out⟩
end Go.Proofs.YtklgpilgalfckaaGreatDoor
namespace Go.KI
open Go
end Go.KI
namespace Go.Proofs.YtklgpilgalfckaaGreatDoor
open Go.RowKit Go.KP Go.KI Go.Shelf
attribute [local go_sem] Oper.semAt_some

theorem yb6 {n : Nat} (h : fits (n : Int)) : fits ((rootN n : Nat) : Int) := by
 rcases Nat.eq_zero_or_pos n with h0 | h0
 ·subst h0
  have e : rootN 0 = 0 := kR (by omega) (by omega)
  rw [e]
  exact h
 ·refine yi h ?_
  rw [Int.natAbs_natCast, Int.natAbs_natCast]
  exact Nat.le_trans (Nat.le_mul_of_pos_left _ (qS h0)) (yX n).1
theorem nums1 {w : World} {b : Nat} {p : Rat} (h : w.heap[b]? = some (.cells #[.string (T p)] 26 (0, 0))) : NumsAt w b [p] := by
 refine ⟨yd h, fun i x hx => ?_⟩
 match i with
 | 0 => simp at hx; rw [← hx]; exact ya h 0
 |i + 1 => simp at hx
theorem yhJ (q : Rat) : ((T q).toList == [48]) = decide (q.num = 0) := by
 rw [ybt (yI q)]
 have h0 : ratS 0 = [48] := by rw [← yI, T0]
 refine decide_eq_decide.2 ⟨fun e => by rw [xz (e.trans h0.symm)]; rfl, fun e => by rw [Rat.num_eq_zero.1 e, h0]⟩
end Go.Proofs.YtklgpilgalfckaaGreatDoor
namespace Go.KI
open Go
theorem yh5 {u : Rat} (hu : 0 < u.num) : 0 < u := by
 rcases Rat.le_iff_lt_or_eq.1 (Rat.num_nonneg.1 (Int.le_of_lt hu)) with h | h
 ·exact h
 ·rw [← h] at hu; exact absurd hu (by decide)
theorem yaW (x y : Rat) : (x < y ∧ cmpR x y = -1) ∨ (x = y ∧ cmpR x y = 0) ∨ (y < x ∧ cmpR x y = 1) := by
 unfold cmpR
 by_cases h : x < y
 ·rw [if_pos h]; exact .inl ⟨h, rfl⟩
 ·rw [if_neg h]
  by_cases h2 : y < x
  ·rw [if_pos h2]; exact .inr (.inr ⟨h2, rfl⟩)
  ·rw [if_neg h2]; exact .inr (.inl ⟨Rat.le_antisymm (Rat.not_lt.1 h2) (Rat.not_lt.1 h), rfl⟩)
theorem yid {x y : Rat} (h : y < x) : cmpR x y = 1 := by
 rcases yaW x y with ⟨h1, _⟩ | ⟨h1, _⟩ | ⟨_, h1⟩
 ·exact absurd h (Rat.not_lt.2 (Rat.le_of_lt h1))
 ·rw [h1] at h; exact absurd h Rat.lt_irrefl
 ·exact h1
def sgnR (x : Rat) : Int := cmpR x 0
end Go.KI
namespace Go.Proofs.YtklgpilgalfckaaGreatDoor
open Go.RowKit Go.KP Go.KI Go.Shelf
attribute [local go_sem] Oper.semAt_some

theorem ygK {q : Rat} (h : roomy q) : sz 90 q := ⟨(yn (by omega)).1 h.2.1, (yn (by omega)).1 h.2.2⟩
theorem yg4 {x y : Int} {p q : Nat} (hx : x.natAbs < 10 ^ p) (hy : y.natAbs < 10 ^ q) (h : p + q ≤ 300) : fits (x * y) ∧ (x * y).natAbs < 10 ^ (p + q) := by
 have e : (x * y).natAbs < 10 ^ (p + q) := by rw [Int.natAbs_mul]; exact qs hx hy
 exact ⟨yq (by rw [yC]; omega) e, e⟩
theorem yhL {q : Rat} (h : q < 0) : q.num < 0 := by
 rcases Int.lt_or_le q.num 0 with h1 | h1
 ·exact h1
 ·exact absurd h (Rat.not_lt.2 (Rat.num_nonneg.1 h1))
theorem yhC {q : Rat} (h : 0 < q) : 0 < q.num := by
 have h1 := Rat.num_nonneg.2 (Rat.le_of_lt h)
 have h2 : q.num ≠ 0 := fun e => by rw [Rat.num_eq_zero.1 e] at h; exact absurd h Rat.lt_irrefl
 omega
theorem kd {n p : Nat} (h : n < 10 ^ p) : ((n : Nat) : Int).natAbs < 10 ^ p := by rw [Int.natAbs_natCast]; exact h
theorem yg1 {f : Nat} {args : Array Value} {v : Value} {B n : Nat} {W0 : World} (hT : P10 B W0) (hB : B ≤ n) (H : ∀ w, B ≤ w.heap.size → P10 B w → Calls Tryz.prog f args w (Ret w v)) (x : Of (Below n W0)) (hx : n ≤ x.w.heap.size) :
 Calls Tryz.prog f args x.w fun e w' => e = .returned v ∧ Cls (Below n W0) w' :=
 (H x.w (by omega) (hT.on x.h hB)).mono fun _ _ ⟨h, hb⟩ => ⟨h, Cls.mk (x.h.trans (hb.mono hx))⟩
theorem yir (q : Rat) : ((T q).data.toList.head? == some 45) = decide (q.num < 0) := by
 rw [yI]
 by_cases h : q.num < 0
 ·rw [decide_eq_true h, qI.2 h]; rfl
 ·rw [decide_eq_false h]
  exact beq_false_of_ne fun e => h (qI.1 e)

theorem yht {q : Rat} (h : 0 < q.num) : sgnR q = 1 := yid (yh5 h)
theorem yiC (n : Nat) (l : List UInt8) (h : Lib.decDigits n = l) : iB (n : Int) = strB l := by
 unfold iB
 rw [Lib.itoa_nonneg, h]
theorem lit1 : iB ((1 : Nat) : Int) = ⟨#[49]⟩ := yiC 1 [49] (by decide +kernel)
end Go.Proofs.YtklgpilgalfckaaGreatDoor
namespace Go.KI
open Go
def steps1 (q : Nat) : Nat → Nat → List (Nat × Nat)
 | 0, _ => []
 |f + 1, m => if m % (q * q) = 0 then (q, m / (q * q)) :: steps1 q f (m / (q * q)) else []
theorem ycY {q : Nat} (hq : 2 ≤ q) : ∀ (f g m : Nat), 0 < m → m ≤ f → m ≤ g → steps1 q f m = steps1 q g m := by
 intro f
 induction f with
 |zero => intro g m h1 h2; omega
 |succ f ih =>
  intro g m h1 h2 h3
  obtain ⟨g, rfl⟩ : ∃ g', g = g' + 1 := ⟨g - 1, by omega⟩
  unfold steps1
  split
  ·next h =>
   obtain ⟨a, b⟩ := zh hq h1 h
   rw [ih g _ a (by omega) (by omega)]
  ·rfl
def lastM (l : List (Nat × Nat)) (m : Nat) : Nat := match l.getLast? with | some s => s.2 | none => m
theorem zY (s : Nat × Nat) (l : List (Nat × Nat)) (m : Nat) : lastM (s :: l) m = lastM l s.2 := by
 unfold lastM
 cases l with
 |nil => rfl
 |cons a b => rw [List.getLast?_cons_cons]; cases h : (a :: b).getLast? with
  |none => simp at h
  |some x => rfl
def stepsAll : List Nat → Nat → List (Nat × Nat)
 | [], _ => []
 |q :: l, m => steps1 q m m ++ stepsAll l (lastM (steps1 q m m) m)
def remS (i m : Nat) : List (Nat × Nat) := stepsAll (primes25.drop i) m
theorem yhf (m : Nat) : remS 25 m = [] := rfl
theorem ydo {i : Nat} (h : i < 25) (m : Nat) : remS i m = steps1 (primes25.getD i 0) m m ++ remS (i + 1) (lastM (steps1 (primes25.getD i 0) m m) m) := by
 unfold remS
 have e : primes25.drop i = primes25.getD i 0 :: primes25.drop (i + 1) := by
  rw [List.drop_eq_getElem_cons (by exact h)]
  congr 1
  rw [List.getD_eq_getElem?_getD, List.getElem?_eq_getElem h]
  rfl
 rw [e]
 rfl
theorem ygz {i m : Nat} (h : i < 25) (hq : 2 ≤ primes25.getD i 0) (hm : 0 < m) (hd : m % (primes25.getD i 0 * primes25.getD i 0) = 0) :
 remS i m = (primes25.getD i 0, m / (primes25.getD i 0 * primes25.getD i 0)) :: remS i (m / (primes25.getD i 0 * primes25.getD i 0)) := by
 rw [ydo h m, ydo h (m / _)]
 generalize primes25.getD i 0 = q at hq hd ⊢
 obtain ⟨a, b⟩ := zh hq hm hd
 have e : steps1 q m m = (q, m / (q * q)) :: steps1 q (m / (q * q)) (m / (q * q)) := by
  obtain ⟨f, rfl⟩ : ∃ f, m = f + 1 := ⟨m - 1, by omega⟩
  conv => lhs; unfold steps1
  rw [if_pos hd, ycY hq f _ _ a (by omega) (Nat.le_refl _)]
 rw [e, zY]
 rfl
theorem ygi {i m : Nat} (h : i < 25) (hm : 0 < m) (hd : ¬ m % (primes25.getD i 0 * primes25.getD i 0) = 0) : remS i m = remS (i + 1) m := by
 rw [ydo h m]
 obtain ⟨f, hf⟩ : ∃ f, m = f + 1 := ⟨m - 1, by omega⟩
 have e : steps1 (primes25.getD i 0) m m = [] := by
  conv => lhs; rw [hf]; unfold steps1
  rw [← hf, if_neg hd]
 rw [e]
 rfl
def allS (m : Nat) : List (Nat × Nat) := remS 0 m
def stepAt (m k : Nat) : Nat × Nat := (allS m).getD k (0, 0)
def prodK (m k : Nat) : Nat := ((allS m).take k).foldl (fun c s => c * s.1) 1
def leftK (m k : Nat) : Nat := lastM ((allS m).take k) m
theorem ydJ {q : Nat} (hq : 2 ≤ q) : ∀ (f c m : Nat), 0 < m → m ≤ f → ((steps1 q f m).foldl (fun c s => c * s.1) c, lastM (steps1 q f m) m) = strip q f c m := by
 intro f
 induction f with
 |zero => intro c m h1 h2; omega
 |succ f ih =>
  intro c m h1 h2
  unfold steps1 strip
  split
  ·next h =>
   obtain ⟨a, b⟩ := zh hq h1 h
   rw [List.foldl_cons, zY]
   exact ih (c * q) (m / (q * q)) a (by omega)
  ·rfl
theorem kE (l r : List (Nat × Nat)) (m : Nat) : lastM (l ++ r) m = lastM r (lastM l m) := by
 induction l generalizing m with
 |nil => rfl
 |cons a l ih => rw [List.cons_append, zY, zY, ih]
theorem ycB : ∀ (l : List Nat) (c m : Nat), (∀ q ∈ l, 2 ≤ q) → 0 < m → 0 < c → ((stepsAll l m).foldl (fun c s => c * s.1) c, lastM (stepsAll l m) m) = strips l c m := by
 intro l
 induction l with
 |nil => intro c m _ _ _; rfl
 |cons q l ih =>
  intro c m hl hm hc
  have hq := hl q (by simp)
  have h1 := ydJ hq m c m hm (Nat.le_refl _)
  have hs := yae hq m c m (Nat.le_refl _) hm hc
  unfold stepsAll strips
  rw [List.foldl_append, kE]
  have e1 : (steps1 q m m).foldl (fun c s => c * s.1) c = (stripD q c m).1 := congrArg Prod.fst h1
  have e2 : lastM (steps1 q m m) m = (stripD q c m).2 := congrArg Prod.snd h1
  rw [e1, e2]
  exact ih _ _ (fun x hx => hl x (by simp [hx])) hs.2.1 hs.2.2.2.2
theorem yer {m : Nat} (hm : 0 < m) : (prodK m (allS m).length, leftK m (allS m).length) = strips primes25 1 m := by
 unfold prodK leftK
 rw [List.take_length]
 exact ycB primes25 1 m (by decide) hm (by omega)
theorem yaF (m : Nat) : prodK m 0 = 1 ∧ leftK m 0 = m := ⟨rfl, rfl⟩
theorem yaR {m k : Nat} (h : k < (allS m).length) : prodK m (k + 1) = prodK m k * (stepAt m k).1 ∧ leftK m (k + 1) = (stepAt m k).2 := by
 unfold prodK leftK stepAt
 have e : (allS m).take (k + 1) = (allS m).take k ++ [(allS m).getD k (0, 0)] := by
  rw [List.take_add_one, List.getElem?_eq_getElem h, List.getD_eq_getElem?_getD, List.getElem?_eq_getElem h]
  rfl
 rw [e, List.foldl_append, kE]
 exact ⟨rfl, rfl⟩
theorem drop_at {m k : Nat} {s : Nat × Nat} {r : List (Nat × Nat)} (h : (allS m).drop k = s :: r) : k < (allS m).length ∧ stepAt m k = s ∧ (allS m).drop (k + 1) = r := by
 have hl : k < (allS m).length := by
  rcases Nat.lt_or_ge k (allS m).length with h1 | h1
  ·exact h1
  ·rw [List.drop_eq_nil_of_le h1] at h
   cases h
 rw [List.drop_eq_getElem_cons hl] at h
 injection h with h1 h2
 refine ⟨hl, ?_, h2⟩
 unfold stepAt
 rw [List.getD_eq_getElem?_getD, List.getElem?_eq_getElem hl]
 exact h1
theorem ygU {m k : Nat} (hk : k ≤ (allS m).length) (h : (allS m).drop k = []) : k = (allS m).length := by
 have := congrArg List.length h
 rw [List.length_drop] at this
 simp at this
 omega
def ChainS : Nat → List (Nat × Nat) → Prop
 | _, [] => True
 |m, s :: r => s.2 * (s.1 * s.1) = m ∧ 0 < s.1 ∧ 0 < s.2 ∧ ChainS s.2 r
theorem ycA : ∀ (l r : List (Nat × Nat)) (m : Nat), ChainS m l → ChainS (lastM l m) r → ChainS m (l ++ r) := by
 intro l
 induction l with
 |nil => intro r m _ h; exact h
 |cons a l ih =>
  intro r m h1 h2
  rw [zY] at h2
  exact ⟨h1.1, h1.2.1, h1.2.2.1, ih r a.2 h1.2.2.2 h2⟩
theorem ycb {q : Nat} (hq : 2 ≤ q) : ∀ (f m : Nat), 0 < m → ChainS m (steps1 q f m) := by
 intro f
 induction f with
 |zero => intro m _; trivial
 |succ f ih =>
  intro m hm
  unfold steps1
  split
  ·next h =>
   obtain ⟨a, b⟩ := zh hq hm h
   refine ⟨?_, by show 0 < q; omega, a, ih _ a⟩
   show m / (q * q) * (q * q) = m
   have := Nat.div_add_mod m (q * q)
   rw [h, Nat.add_zero, Nat.mul_comm] at this
   exact this
  ·trivial
theorem yev : ∀ (l : List (Nat × Nat)) (m : Nat), 0 < m → ChainS m l → 0 < lastM l m := by
 intro l
 induction l with
 |nil => intro m h _; exact h
 |cons a l ih =>
  intro m _ h
  rw [zY]
  exact ih _ h.2.2.1 h.2.2.2
theorem ygk : ∀ (l : List Nat) (m : Nat), (∀ q ∈ l, 2 ≤ q) → 0 < m → ChainS m (stepsAll l m) := by
 intro l
 induction l with
 |nil => intro m _ _; trivial
 |cons q l ih =>
  intro m hl hm
  have hq := hl q (by simp)
  have h1 := ycb hq m m hm
  exact ycA _ _ _ h1 (ih _ (fun x hx => hl x (by simp [hx])) (yev _ _ hm h1))
theorem ye9 : ∀ (l : List (Nat × Nat)) (m c k : Nat), 0 < m → 0 < c → ChainS m l →
 (l.take k).foldl (fun c s => c * s.1) c * (l.take k).foldl (fun c s => c * s.1) c * lastM (l.take k) m = c * c * m ∧ 0 < lastM (l.take k) m ∧ 0 < (l.take k).foldl (fun c s => c * s.1) c := by
 intro l
 induction l with
 |nil => intro m c k hm hc _; rw [List.take_nil]; exact ⟨rfl, hm, hc⟩
 |cons a l ih =>
  intro m c k hm hc h
  cases k with
  |zero => exact ⟨rfl, hm, hc⟩
  |succ k =>
   rw [List.take_succ_cons, List.foldl_cons, zY]
   obtain ⟨i1, i2, i3⟩ := ih a.2 (c * a.1) k h.2.2.1 (Nat.mul_pos hc h.2.1) h.2.2.2
   refine ⟨?_, i2, i3⟩
   rw [i1, ← h.1]
   grind
theorem yaa {m : Nat} (hm : 0 < m) (k : Nat) : prodK m k * prodK m k * leftK m k = m ∧ 0 < leftK m k ∧ 0 < prodK m k := by
 have h := ye9 (allS m) m 1 k hm (by omega) (ygk primes25 m (by decide) hm)
 simp only [Nat.one_mul] at h
 exact h
theorem kX {m : Nat} (hm : 0 < m) (k : Nat) : prodK m k ≤ m ∧ leftK m k ≤ m := by
 obtain ⟨h1, h2, h3⟩ := yaa hm k
 have a : prodK m k * 1 ≤ prodK m k * (prodK m k * leftK m k) := Nat.mul_le_mul (Nat.le_refl _) (Nat.mul_pos h3 h2)
 have b : 1 * leftK m k ≤ prodK m k * prodK m k * leftK m k := Nat.mul_le_mul (Nat.mul_pos h3 h3) (Nat.le_refl _)
 rw [← Nat.mul_assoc, h1] at a
 rw [h1] at b
 omega
theorem yhO {m k : Nat} (hm : 0 < m) (h : k < (allS m).length) : (stepAt m k).1 ≤ m := by
 have h1 := (kX hm (k + 1)).1
 rw [(yaR h).1] at h1
 have h3 := (yaa hm k).2.2
 have := Nat.mul_le_mul h3 (Nat.le_refl (stepAt m k).1)
 omega
theorem ydH {m : Nat} (hm : 0 < m) : normN m = if sqI (leftK m (allS m).length) = true then (prodK m (allS m).length * rootN (leftK m (allS m).length), 1) else (prodK m (allS m).length, leftK m (allS m).length) := by
 unfold normN closeN
 rw [← yer hm]
 unfold sqI
 by_cases h : rootN (leftK m (allS m).length) * rootN (leftK m (allS m).length) = leftK m (allS m).length
 ·rw [if_pos h, if_pos (decide_eq_true h)]
 ·rw [if_neg h, if_neg (by simpa using h)]
end Go.KI
namespace Go.KP
open Go Go.RowKit

structure QuietO (O : Nat → Prop) (B : Nat) (S : Nat → Prop) (W W2 : World) : Prop where
 os : W2.os = W.os
 tape : W2.tape = W.tape
 output : W2.output = W.output
 size : W.heap.size ≤ W2.heap.size
 block : ∀ b, ¬ O b → (b < B ∨ S b) → b < W.heap.size → W2.heap[b]? = W.heap[b]?
theorem Quiet.toO {B : Nat} {S : Nat → Prop} {W W2 : World} (h : Quiet B S W W2) (O : Nat → Prop) : QuietO O B S W W2 :=
 ⟨h.os, h.tape, h.output, h.size, fun b _ hb hl => h.block b hb hl⟩
theorem QuietO.refl (O : Nat → Prop) (B : Nat) (S : Nat → Prop) (W : World) : QuietO O B S W W := ⟨rfl, rfl, rfl, Nat.le_refl _, fun _ _ _ _ => rfl⟩
theorem QuietO.trans {O : Nat → Prop} {B : Nat} {S : Nat → Prop} {a b c : World} (h : QuietO O B S a b) (k : QuietO O B S b c) : QuietO O B S a c :=
 ⟨k.os.trans h.os, k.tape.trans h.tape, k.output.trans h.output, Nat.le_trans h.size k.size, fun i hn hi hl => (k.block i hn hi (Nat.lt_of_lt_of_le hl h.size)).trans (h.block i hn hi hl)⟩
theorem QuietO.jv {O : Nat → Prop} {B n : Nat} {S : Nat → Prop} {a w w2 : World} (h : QuietO O B S a w) (hb : Below n w w2) (hn : w.heap.size ≤ n) : QuietO O B S a w2 :=
 h.trans ⟨hb.os, hb.tape, hb.output, hb.size, fun b _ _ hl => hb.block b (by omega)⟩
theorem QuietO.set {O : Nat → Prop} {B : Nat} {S : Nat → Prop} {a w : World} (h : QuietO O B S a w) {p : Addr} (hp : O p.block) (u : Value) : QuietO O B S a (w.setCell p u) :=
 h.trans ⟨rfl, rfl, rfl, by simp [World.setCell], fun b hn _ _ => Below.heap_setCell _ _ _ _ (fun e => hn (by rw [e]; exact hp))⟩
def StaysO (O : Nat → Prop) (B : Nat) (J : (Nat → Prop) → World → Prop) : Prop := ∀ S W W2, J S W → QuietO O B S W W2 → J S W2
variable {P : Program}

def IterOwn (P : Program) (gf : Nat) (lb : Array Value) (encs : Nat → Array Value) (N : Nat) (Ke : Nat → World → Prop) (O : Nat → Prop) (w : World) : Prop :=
 ∀ (l : Nat) (J : Nat → (Nat → Prop) → World → Prop) (Jx : (Nat → Prop) → World → Prop) (W : World),
  (∀ b, O b → b < W.heap.size ∧ W.heap[b]? = w.heap[b]?) → (∀ k, StaysO O W.heap.size (J k)) → StaysO O W.heap.size Jx → (∀ k S W1, J k S W1 → ∀ b, S b → b < W1.heap.size) → (∀ k S W1, k ≤ N → J k S W1 → Ke k W1) →
  (∀ k S W1, k < N → J k S W1 → W.heap.size ≤ W1.heap.size →
    YieldAt Fence.wide 0 P l (encs k) W1 fun e W2 => ∃ S', Upd W.heap.size S S' W1 W2 ∧ (∀ b, O b → W2.heap[b]? = W1.heap[b]?) ∧
     ((e = .returned (.bool true) ∧ J (k + 1) S' W2) ∨ (e = .returned (.bool false) ∧ Jx S' W2))) →
  J 0 (fun _ => False) W →
  CallsIn Fence.wide 0 P gf (#[.func (.yield l) #[] #[]] ++ lb) W fun e W2 => (∃ v, e = .returned v) ∧ ∃ S, J N S W2 ∨ Jx S W2

def bodyEndO (B : Nat) (O : Nat → Prop) (I : (Nat → Prop) → World → Prop) (Ix : Code → (Nat → Prop) → World → Prop) (S : Nat → Prop) (W : World) : Exit → Act → World → Prop
 | .normal, _, W2 => ∃ S', Upd B S S' W W2 ∧ (∀ b, O b → W2.heap[b]? = W.heap[b]?) ∧ I S' W2
 | .ret, _, W2 => ∃ S', Upd B S S' W W2 ∧ (∀ b, O b → W2.heap[b]? = W.heap[b]?) ∧ Ix .ret S' W2
 | .exit id, _, W2 => ∃ S', Upd B S S' W W2 ∧ (∀ b, O b → W2.heap[b]? = W.heap[b]?) ∧ Ix (.exit id) S' W2
 | .goto t, _, W2 => ∃ S', Upd B S S' W W2 ∧ (∀ b, O b → W2.heap[b]? = W.heap[b]?) ∧ Ix (.goto t) S' W2
 | .panic _, _, _ => False
 | .outgrown, _, _ => False

theorem ydg {g : Operand} {ps : Array Tmp} {assign body : Code} {Q : Exit → Act → World → Prop} {a : Act} {w : World}
 {gf : Nat} {lb : Array Value} (hg : a.eval g = .func (.func gf) #[] lb) (eg : ∀ args w, (callFunc gf args).run P w = .ok (.enter gf args) w)
 {encs : Nat → Array Value} {N : Nat} {Ke : Nat → World → Prop} {O : Nat → Prop} {w0 : World} (hseq : IterOwn P gf lb encs N Ke O w0) (hO : ∀ b, O b → b < w.heap.size ∧ w.heap[b]? = w0.heap[b]?) (hps : ∀ k, (encs k).size = ps.size)
 (I : Nat → (Nat → Prop) → World → Prop) (Ix : Code → (Nat → Prop) → World → Prop) (hI : ∀ k, StaysO O w.heap.size (I k)) (hIx : ∀ c, StaysO O w.heap.size (Ix c)) (h0 : I 0 (fun _ => False) w) (hke : ∀ k S W, k ≤ N → I k S W → Ke k W)
 (Ax : Nat → (Nat → Prop) → Act → World → Prop)
 (hAx : ∀ k S a1 W l r r2, Ax k S a1 W → W.heap[l]? = some (.loop r) → Ax k S a1 (W.putObj l (.loop r2)))
 (hassign : ∀ (l k : Nat) (S : Nat → Prop) (W : World) (K : Act → World → Prop), w.heap.size ≤ W.heap.size → (∀ b, S b → b < W.heap.size) → (∀ a1 W1, Quiet w.heap.size S W W1 → Upd w.heap.size S S W W1 → Ax k S a1 W1 → K a1 W1) →
   assign.wpIn (Fence.wide.inRound l) 0 P (Exit.then K (fun _ _ _ => False)) { tmps := (ps.zip (encs k)).foldl (fun t (p, v) => t.setIfInBounds p v) a.tmps, defers := [] } W)
 (hS : ∀ k S W, I k S W → ∀ b, S b → b < W.heap.size)
 (hbody : ∀ (l k : Nat) (S : Nat → Prop) (a1 : Act) (W : World), k < N → I k S W → Ax k S a1 W → w.heap.size ≤ W.heap.size →
   body.wpIn (Fence.wide.inRound l) 0 P (bodyEndO w.heap.size O (I (k + 1)) Ix S W) a1 W)
 (hdone : ∀ (D : Nat) (S : Nat → Prop) (W : World), w.heap.size ≤ D → I N S W → W.heap[D]? = some (.deferred (some [])) → Q .normal { a with defers := { target := .collected D, args := #[] } :: a.defers } W)
 (hstop : ∀ (D : Nat) (c : Code) (S : Nat → Prop) (W : World), w.heap.size ≤ D → Ix c S W → W.heap[D]? = some (.deferred (some [])) → c.wpIn Fence.wide 0 P Q { a with defers := { target := .collected D, args := #[] } :: a.defers } W) :
 (Code.rangeFunc g ps assign body).wpIn Fence.wide 0 P Q a w := by
 refine wpIn_rangeFunc ?_
 intro fn _
 obtain ⟨rec, hrec⟩ : ∃ rec : LoopState → Option Code → Loop, rec = fun st pe => { state := st, pending := pe, fn, tmps := a.tmps, params := ps, assign, body, defers := w.heap.size } := ⟨_, rfl⟩
 obtain ⟨W1, hW1⟩ : ∃ W1, (w.alloc (.deferred (some []))).alloc (.loop (rec .ready none)) = W1 := ⟨_, rfl⟩
 have hL1 : W1.heap[w.heap.size + 1]? = some (.loop (rec .ready none)) := by
  rw [← hW1]; have h := World.alloc_heap_new (w.alloc (.deferred (some []))) (.loop (rec .ready none)); rwa [World.size_alloc] at h
 have hK1 : W1.heap[w.heap.size]? = some (.deferred (some [])) := by
  rw [← hW1]; exact (Below.heap_alloc _ _ _ (by simp)).trans (World.alloc_heap_new w _)
 have hq1 : Quiet w.heap.size (fun _ => False) w W1 := by rw [← hW1]; exact ((Quiet.refl _ _ w).alloc _).alloc _
 have hs1 : W1.heap.size = w.heap.size + 2 := by rw [← hW1]; simp
 have hn0 : ¬ O w.heap.size := fun h => by have := (hO _ h).1; omega
 have hn1 : ¬ O (w.heap.size + 1) := fun h => by have := (hO _ h).1; omega
 have hO1 : ∀ b, O b → b < W1.heap.size ∧ W1.heap[b]? = w0.heap[b]? := fun b hb => by
  obtain ⟨h1, h2⟩ := hO b hb
  exact ⟨by omega, (hq1.block b (.inl h1) h1).trans h2⟩
 have inner : ∀ (i : Nat) (S S' : Nat → Prop) (W W2 : World), w.heap.size ≤ i → i < w.heap.size + 2 → i < W.heap.size → ¬ S i → Upd w.heap.size S S' W W2 → W2.heap[i]? = W.heap[i]? ∧ ¬ S' i := fun i S S' W W2 h1 _ h3 h4 hu => hu.block i h1 h3 h4
 refine ⟨w.heap.size + 1, [{ target := .collected w.heap.size, args := #[] }], W1, { target := .fn (.func gf) lb, args := #[.func (.yield (w.heap.size + 1)) #[] #[]] }, W1, gf,
  #[.func (.yield (w.heap.size + 1)) #[] #[]] ++ lb, W1, ?_, ?_, ?_, ?_, fun h => by simp [Fence.wide] at h, ?_⟩
 ·rw [← hW1, hrec]; exact run_enterLoop_outer _ _ _ _ _
 ·simp only [resolve, hg]
  simp [go_sem]
 ·exact fun _ _ => trivial
 ·simp [invoke, go_sem, eg]
 ·refine (hseq (w.heap.size + 1)
   (fun k S W => I k S W ∧ ¬ S w.heap.size ∧ ¬ S (w.heap.size + 1) ∧ W1.heap.size ≤ W.heap.size ∧ W.heap[w.heap.size + 1]? = some (.loop (rec .ready none)) ∧ W.heap[w.heap.size]? = some (.deferred (some [])))
   (fun S W => ∃ c, Ix c S W ∧ ¬ S w.heap.size ∧ ¬ S (w.heap.size + 1) ∧ W1.heap.size ≤ W.heap.size ∧ W.heap[w.heap.size + 1]? = some (.loop (rec .done (some c))) ∧ W.heap[w.heap.size]? = some (.deferred (some [])))
   W1 hO1 ?_ ?_ (fun k S W1 h => hS k S W1 h.1) (fun k S W1 hk h => hke k S W1 hk h.1) ?_ ⟨hI 0 _ _ _ h0 (hq1.toO O), fun h => h, fun h => h, Nat.le_refl _, hL1, hK1⟩).mono ?_
  ·rintro k S W W2 ⟨hi, n1, n2, hsz, hl, hk⟩ hq
   have hw : w.heap.size + 1 < W.heap.size := (Array.getElem?_eq_some_iff.1 hl).1
   exact ⟨hI k _ _ _ hi ⟨hq.os, hq.tape, hq.output, hq.size, fun b hn hb hlt => hq.block b hn (hb.imp (fun h => by omega) id) hlt⟩, n1, n2, Nat.le_trans hsz hq.size,
    (hq.block _ hn1 (.inl (by omega)) hw).trans hl, (hq.block _ hn0 (.inl (by omega)) (by omega)).trans hk⟩
  ·rintro S W W2 ⟨c, hi, n1, n2, hsz, hl, hk⟩ hq
   have hw : w.heap.size + 1 < W.heap.size := (Array.getElem?_eq_some_iff.1 hl).1
   exact ⟨c, hIx c _ _ _ hi ⟨hq.os, hq.tape, hq.output, hq.size, fun b hn hb hlt => hq.block b hn (hb.imp (fun h => by omega) id) hlt⟩, n1, n2, Nat.le_trans hsz hq.size,
    (hq.block _ hn1 (.inl (by omega)) hw).trans hl, (hq.block _ hn0 (.inl (by omega)) (by omega)).trans hk⟩
  ·rintro k S W hkN ⟨hi, n1, n2, hsz, hl, hk⟩ _
   have hlt : w.heap.size + 1 < W.heap.size := (Array.getElem?_eq_some_iff.1 hl).1
   have hy := run_yield (P := P) (args := encs k) hl (by rw [hrec]; exact hps k)
   rw [hrec] at hy
   refine ⟨fn, _, assign, body, hy, roundIn_of_wpIn trivial (hassign _ k S W _ (by omega) (hS k S W hi) ?_)⟩
   intro a1 Wa hqa hua hax
   have hla := (inner (w.heap.size + 1) _ _ _ _ (by omega) (by omega) hlt n2 hua).1.trans hl
   have hka := (inner w.heap.size _ _ _ _ (by omega) (by omega) (by omega) n1 hua).1.trans hk
   have hsa := hua.size
   refine ⟨_, run_beginRound hla (by rw [hrec]), ?_⟩
   have hlt2 : w.heap.size + 1 < Wa.heap.size := by omega
   have hia := hI k _ _ _ hi (hqa.toO O)
   obtain ⟨W2, hW2⟩ : ∃ W2, Wa.putObj (w.heap.size + 1) (.loop { rec .ready none with state := .busy }) = W2 := ⟨_, rfl⟩
   have hq2 : Quiet w.heap.size S Wa W2 := by rw [← hW2]; exact zi _ _ _ (by omega) n2
   have hax2 : Ax k S a1 W2 := by rw [← hW2]; exact hAx _ _ _ _ _ _ _ hax hla
   have hl2 : W2.heap[w.heap.size + 1]? = some (.loop { rec .ready none with state := .busy }) := by rw [← hW2]; exact World.putObj_heap_same hlt2
   have hk2 : W2.heap[w.heap.size]? = some (.deferred (some [])) := by rw [← hW2]; exact (World.putObj_heap_other (by omega)).trans hka
   have hs2 : W2.heap.size = Wa.heap.size := by rw [← hW2]; simp
   rw [hW2]
   refine wpIn_mono (hbody _ k S a1 W2 hkN (hI k _ _ _ hia (hq2.toO O)) hax2 (by omega)) ?_
   have fin : ∀ (jump : Option Code) (S' : Nat → Prop) (W3 : World), Upd w.heap.size S S' W2 W3 → (∀ b, O b → W3.heap[b]? = W2.heap[b]?) →
    ∃ W4, (Instr.endRound (w.heap.size + 1) jump).run P W3 = .ok (.bool jump.isNone) W4 ∧ Upd W1.heap.size S S' W W4 ∧ (∀ b, O b → W4.heap[b]? = W.heap[b]?) ∧ Quiet w.heap.size S' W3 W4 ∧
          ¬ S' w.heap.size ∧ ¬ S' (w.heap.size + 1) ∧ W1.heap.size ≤ W4.heap.size ∧
          W4.heap[w.heap.size + 1]? = some (.loop (rec (if jump.isNone then .ready else .done) jump)) ∧ W4.heap[w.heap.size]? = some (.deferred (some [])) := fun jump S' W3 hu ho3 => by
    have hl3 := (inner (w.heap.size + 1) _ _ _ _ (by omega) (by omega) (by omega) n2 hu)
    have hk3 := (inner w.heap.size _ _ _ _ (by omega) (by omega) (by omega) n1 hu)
    have hl4 := hl3.1.trans hl2
    have hs3 := hu.size
    have hr := run_endRound (P := P) jump hl4
    have e : ({ rec .ready none with state := if jump.isNone then LoopState.ready else LoopState.done, pending := jump } : Loop) = rec (if jump.isNone then .ready else .done) jump := by rw [hrec]
    simp only at hr
    rw [e] at hr
    have hq4 : Quiet w.heap.size S' W3 (W3.putObj (w.heap.size + 1) (.loop (rec (if jump.isNone then .ready else .done) jump))) := zi _ _ _ (by omega) hl3.2
    refine ⟨_, hr, ⟨by simp; omega, fun b hB hlt' hs' => ?_⟩, fun b hb => ?_, hq4, hk3.2, hl3.2, by simp; omega, World.putObj_heap_same (by omega), (World.putObj_heap_other (by omega)).trans (hk3.1.trans hk2)⟩
    ·obtain ⟨g1, g2⟩ := hua.block b (by omega) hlt' hs'
     obtain ⟨g3, g4⟩ := hu.block b (by omega) (by omega) g2
     refine ⟨(World.putObj_heap_other (by omega)).trans (g3.trans ?_), g4⟩
     rw [← hW2, World.putObj_heap_other (by omega)]
     exact g1
    ·obtain ⟨h1, _⟩ := hO b hb
     refine (hq4.block b (.inl h1) (by omega)).trans ((ho3 b hb).trans ?_)
     exact (hq2.block b (.inl h1) (by omega)).trans (hqa.block b (.inl h1) (by omega))
   rintro e a3 W3 hp
   cases e with
   |normal =>
    obtain ⟨S', hu, ho3, hi3⟩ := hp
    obtain ⟨W4, hr, hu4, ho4, hq4, m1, m2, m3, hl4, hk4⟩ := fin none S' W3 hu ho3
    exact ⟨_, _, hr, S', hu4, ho4, .inl ⟨rfl, hI _ _ _ _ hi3 (hq4.toO O), m1, m2, m3, hl4, hk4⟩⟩
   |ret =>
    obtain ⟨S', hu, ho3, hi3⟩ := hp
    obtain ⟨W4, hr, hu4, ho4, hq4, m1, m2, m3, hl4, hk4⟩ := fin (some .ret) S' W3 hu ho3
    exact ⟨_, _, hr, S', hu4, ho4, .inr ⟨rfl, .ret, hIx _ _ _ _ hi3 (hq4.toO O), m1, m2, m3, hl4, hk4⟩⟩
   |exit id =>
    obtain ⟨S', hu, ho3, hi3⟩ := hp
    obtain ⟨W4, hr, hu4, ho4, hq4, m1, m2, m3, hl4, hk4⟩ := fin (some (.exit id)) S' W3 hu ho3
    exact ⟨_, _, hr, S', hu4, ho4, .inr ⟨rfl, .exit id, hIx _ _ _ _ hi3 (hq4.toO O), m1, m2, m3, hl4, hk4⟩⟩
   |goto t =>
    obtain ⟨S', hu, ho3, hi3⟩ := hp
    obtain ⟨W4, hr, hu4, ho4, hq4, m1, m2, m3, hl4, hk4⟩ := fin (some (.goto t)) S' W3 hu ho3
    exact ⟨_, _, hr, S', hu4, ho4, .inr ⟨rfl, .goto t, hIx _ _ _ _ hi3 (hq4.toO O), m1, m2, m3, hl4, hk4⟩⟩
   |panic ch => exact hp.elim
   |outgrown => exact hp.elim
  ·rintro e W2 ⟨⟨v, rfl⟩, S, (⟨hi, n1, n2, hsz, hl, hk⟩ | ⟨c, hi, n1, n2, hsz, hl, hk⟩)⟩
   ·refine ⟨none, _, by have h := run_endLoop (P := P) hl (by rw [hrec]; simp); rw [hrec] at h; exact h, ?_⟩
    exact hdone _ S _ (Nat.le_refl _) (hI _ _ _ _ hi ((zi _ _ _ (by omega) n2).toO O)) ((World.putObj_heap_other (by omega)).trans hk)
   ·refine ⟨some c, _, by have h := run_endLoop (P := P) hl (by rw [hrec]; simp); rw [hrec] at h; exact h, ?_⟩
    exact hstop _ c S _ (Nat.le_refl _) (hIx _ _ _ _ hi ((zi _ _ _ (by omega) n2).toO O)) ((World.putObj_heap_other (by omega)).trans hk)
open Go
theorem yc8 {P : Program} {F : Fence} {n : Nat} {ops : Array Oper} {rest : List Oper} {o : Oper} {a : Act} {w : World} {Q : Exit → Act → World → Prop} (hgd : o.guard = none) (ty : TypeId) (x : Operand) (ho : o.op = .load ty x)
 (g : Nat) (hx : a.eval x = .pointer (some ⟨g, 0, none⟩)) (t : TypeId) (cs : Array Value) (fr : Nat × Nat) (d : TypeDesc) (hg : w.heap[g]? = some (.cells cs t fr))
 (hu : P.underlying ty = some d) (hd : (match d with | .struct _ | .array _ _ => true | _ => false) = true) (hi : (P.info? ty).map (·.size) = some cs.size)
 (h : wpListIn F n P ops Q rest (a.put o.dst (.agg cs)) w) : wpListIn F n P ops Q (o :: rest) a w := by
 refine wpListIn_plain hgd fun K hK => ?_
 unfold Oper.wpIn
 refine ⟨?_, ?_⟩
 ·simp [Oper.about, ho]
 ·rw [Oper.semAt_plain F _ _ (by rw [ho]; intro c hc'; cases hc')]
  simp only [execOp, ho, hx, Instr.loadAt, Instr.sureAddr, Sem.run_bind, Sem.run_pure, Result.andThen_ok, run_loadVar_row w g t ty cs fr d hg hu hd hi]
  exact hK _ _ h
end Go.KP
namespace Go.Proofs.YtklgpilgalfckaaGreatDoor
open Go.RowKit Go.KP Go.KI Go.Shelf
attribute [local go_sem] Oper.semAt_some

abbrev boxS (s : ByteArray) : Obj := .cells #[.string s] 9
theorem yfL (k : Nat) : primeB k = iB ((primes25.getD k 0 : Nat) : Int) := by
 apply yp
 rw [zx (by omega), Int.natAbs_natCast]
 exact yh _
theorem ydw (s : ByteArray) (w : World) :
 Calls Tryz.prog 95 #[.string s] w (fun e w' => e = .returned (.func (.func 146) #[] #[.pointer (some ⟨w.heap.size, 0, none⟩)]) ∧ w' = w.alloc (boxS s)) := by
 go_enter Tryz.func95, Tryz.ntmps95
 go_wp2_with fail
 go_ret
 exact ⟨rfl, rfl⟩
def boxN (bx : Nat) (W : World) : Nat := match W.heap[bx]? with | some (.cells cs _ _) => (match cs[0]? with | some (Value.string s) => (valI s.data.toList).toNat | _ => 0) | _ => 0
theorem yfJ {bx : Nat} {W : World} {r : Nat} (h : W.heap[bx]? = some (boxS (iB (r : Int)))) : boxN bx W = r := by
 unfold boxN
 rw [h]
 simp [yv, ym]
theorem wy {bx : Nat} {W : World} {s : ByteArray} (h : W.heap[bx]? = some (boxS s)) (t : ByteArray) : (W.setCell ⟨bx, 0, none⟩ (.string t)).heap[bx]? = some (boxS t) := by
 simp only [World.setCell, Array.getElem?_modify, h, Option.map_some, if_true]
 rfl
theorem yau (m : Nat) (hm : 0 < m) (hf : fits (m : Int)) (bx : Nat) (B : Nat) (w : World) (hb : w.heap[bx]? = some (boxS (iB (m : Int)))) (hB : B ≤ bx) :
 IterOwn Tryz.prog 146 #[.pointer (some ⟨bx, 0, none⟩)] (fun k => #[.string (iB ((stepAt m k).1 : Int)), .string (iB ((stepAt m k).2 : Int))]) (allS m).length (fun _ W => PR B W) (fun b => b = bx) w := by
 intro l J Jx W hown hJ hJx hJS hKe hY h0
 refine callsIn_of_wp Tryz.func146 rfl trivial ?_ rfl
 simp only [Tryz.ntmps146, List.size_toArray, List.length_cons, List.length_nil, Nat.reduceAdd, Nat.reduceSub, Array.replicate_succ, Array.replicate_zero, List.push_toArray, List.append_toArray, List.nil_append, List.cons_append]
 have HBX := hide (show bx < W.heap.size ∧ W.heap[bx]? = some (boxS (iB (m : Int))) from ⟨(hown bx rfl).1, (hown bx rfl).2.trans hb⟩)
 obtain ⟨tt, fr, hg1⟩ := (hKe 0 _ _ (Nat.zero_le _) h0).pr
 have HJ := hide hJ; have HJx := hide hJx; have HJS := hide hJS; have HY := hide hY; have H0 := hide h0; have HK := hide hKe
 have HF := hide hf
 clear hJ hJx hJS hY h0 hKe hb hown hf
 gi_wp2_with (refine yc8 rfl 192 _ rfl 0 rfl tt _ fr _ hg1 Tryz.underlying192 rfl (by kernel_rfl) ?_)
 clear hg1
 gi_loopw [9] (fun i wr => ∃ (j k r : Nat) (S : Nat → Prop), j ≤ 25 ∧ i = .int .i64 j ∧ 0 < r ∧ Hid (k ≤ (allS m).length ∧ (allS m).drop k = remS j r ∧ r ≤ m ∧ J k S wr ∧ bx < wr.heap.size ∧ wr.heap[bx]? = some (boxS (iB (r : Int))) ∧ W.heap.size ≤ wr.heap.size)) (fun i _ => 25 - (intOf i).toNat)
 case atStart => exact ⟨0, 0, m, _, by omega, rfl, hm, Nat.zero_le _, rfl, Nat.le_refl _, H0.out, HBX.out.1, HBX.out.2, Nat.le_refl _⟩
 case round =>
  obtain ⟨j, k, r, S, hj, rfl, hr0, hin⟩ := hrel
  have IN := hide hin.out
  clear hin
  by_cases hlt : j < 25
  ·have hji : (j : Int) < 25 := by omega
   have hpx := fun w => pidx hlt w
   obtain ⟨b1, b2⟩ := qi hlt
   rw [yfL] at hpx
   have HST := hide (fun r => @ygz j r hlt b1)
   have HNX := hide (fun r => @ygi j r hlt)
   obtain ⟨q, hq⟩ := xe (primes25.getD j 0)
   rw [← hq] at hpx b1 b2 HST HNX
   have HP := hide (HK.out k S wr IN.out.1 IN.out.2.2.2.1)
   have fq : fits (q : Int) := yq (n := 3) (by rw [yC]; omega) (by omega)
   have hqq : 4 ≤ q * q ∧ q * q ≤ 9409 := ⟨Nat.mul_le_mul b1 b1, Nat.mul_le_mul b2 b2⟩
   have fqq : fits ((q : Int) * (q : Int)) := yq (n := 5) (by rw [yC]; omega) (by rw [Int.natAbs_mul, Int.natAbs_natCast]; omega)
   have HM := hide (fun w hB hT => ycO fq fq fqq B w hB hT)
   have HSM := hide hm
   have FQQ := hide fqq
   have QQ := hide (show (q : Int) * (q : Int) = ((q * q : Nat) : Int) from (Int.natCast_mul q q).symm)
   clear hq fq fqq hm hlt
   gi_wp2
   refine ⟨trivial, rfl, (callsIn_wide.2 (HM.out _ (Nat.le_trans hB (Nat.le_of_lt IN.out.2.2.2.2.1)) HP.out.pq.p10)).mono ?_⟩
   rintro e w1 ⟨rfl, hb1⟩
   have IN1 := hide (show k ≤ (allS m).length ∧ (allS m).drop k = remS j r ∧ r ≤ m ∧ J k S w1 ∧ bx < w1.heap.size ∧ w1.heap[bx]? = some (boxS (iB (r : Int))) ∧ W.heap.size ≤ w1.heap.size from
    ⟨IN.out.1, IN.out.2.1, IN.out.2.2.1, HJ.out k _ _ _ IN.out.2.2.2.1 ((QuietO.refl _ _ _ wr).jv hb1 (Nat.le_refl _)), Nat.lt_of_lt_of_le IN.out.2.2.2.2.1 hb1.size, yc hb1 IN.out.2.2.2.2.2.1 IN.out.2.2.2.2.1, Nat.le_trans IN.out.2.2.2.2.2.2 hb1.size⟩)
   clear hb1 IN HP hpx HM
   gi_wp2
   gi_loopw [6] (fun _ wr2 => ∃ (k r : Nat) (S : Nat → Prop), 0 < r ∧ Hid (k ≤ (allS m).length ∧ (allS m).drop k = remS j r ∧ r ≤ m ∧ J k S wr2 ∧ bx < wr2.heap.size ∧ wr2.heap[bx]? = some (boxS (iB (r : Int))) ∧ W.heap.size ≤ wr2.heap.size)) (fun _ wr2 => boxN bx wr2)
   case atStart => exact ⟨k, r, S, hr0, IN1.out⟩
   clear IN1 hr0
   case round =>
    obtain ⟨k, r, S, hr0, hin⟩ := hrel
    have I2 := hide hin.out
    clear hin
    have c0 := ya I2.out.2.2.2.2.2.1 0
    have l0 := I2.out.2.2.2.2.1
    have HP := hide (HK.out k S _ I2.out.1 I2.out.2.2.2.1)
    have fr := hide (show fits (r : Int) from yi HF.out (by have := I2.out.2.2.1; omega))
    have HD := hide (fun w hB hT => yhQ fr.out FQQ.out (by have := QQ.out; omega) B w hB hT)
    by_cases hd : r % (q * q) = 0
    ·have HS := hide ((HST.out r hr0 hd))
     obtain ⟨R, hR⟩ := xe (r / (q * q))
     have e1 : (r : Int) / ((q : Int) * (q : Int)) = (R : Int) := by rw [QQ.out, hR, Int.natCast_ediv]
     have e2 : (r : Int) % ((q : Int) * (q : Int)) = 0 := by rw [QQ.out, ← Int.natCast_emod, hd]; rfl
     obtain ⟨p1, p2⟩ := zh b1 hr0 hd
     rw [← hR] at p1 p2 HS
     rw [e1, e2] at HD
     have hz : ((iB 0).toList == [48]) = true := by rw [qe]; rfl
     clear e1 e2 hd hR
     gi_wp2
     refine ⟨trivial, rfl, (callsIn_wide.2 (HD.out _ (Nat.le_trans hB (Nat.le_of_lt l0)) HP.out.pq.p10)).mono ?_⟩
     rintro e w3 ⟨rfl, hb3⟩
     have HB3 := hide (yc hb3 I2.out.2.2.2.2.2.1 l0)
     have l3 : bx < w3.heap.size := Nat.lt_of_lt_of_le l0 hb3.size
     have hdr := drop_at (I2.out.2.1.trans HS.out)
     have hJ4 : J k S (w3.setCell ⟨bx, 0, none⟩ (.string (iB (R : Int)))) := HJ.out k _ _ _ I2.out.2.2.2.1 (QuietO.set (O := fun b => b = bx) (p := ⟨bx, 0, none⟩) ((QuietO.refl (fun b => b = bx) W.heap.size S wr).jv hb3 (Nat.le_refl _)) rfl _)
     have hs4 : W.heap.size ≤ (w3.setCell ⟨bx, 0, none⟩ (.string (iB (R : Int)))).heap.size := by
      have := hb3.size
      have := I2.out.2.2.2.2.2.2
      simp [World.setCell]
      omega
     have hyy := HY.out k S _ hdr.1 hJ4 hs4
     rw [hdr.2.1] at hyy
     dsimp only at hyy
     obtain ⟨fn, tmps, assign, body, hy, hR⟩ := hyy
     have HR := hide hR
     have H4 := hide (And.intro hdr.1 (And.intro hdr.2.2 (And.intro hs4 (wy HB3.out (iB (R : Int))))))
     have HRM := hide (show R ≤ m by have := I2.out.2.2.1; omega)
     have HBN := hide (yfJ I2.out.2.2.2.2.2.1)
     have c3 := ya HB3.out 0
     have f3 := yf HB3.out 0
     clear hR hdr hJ4 hs4 hb3 c0 l0 HD HP fr HS I2
     gi_wp2
     refine ⟨rfl, HR.out.mono ?_⟩
     rintro e W5 ⟨S3, hu3, ho3, (⟨rfl, hJ3⟩ | ⟨rfl, hJx3⟩)⟩
     ·have HJ3 := hide hJ3
      have H5 := hide (show W5.heap[bx]? = some (boxS (iB (R : Int))) from (ho3 bx rfl).trans H4.out.2.2.2)
      have H6 := hide (Nat.le_trans H4.out.2.2.1 hu3.size)
      clear hu3 ho3 hJ3 hy HR c3 f3 l3 HB3
      gi_wp2
      go_roundw
      case rel => exact ⟨k + 1, R, S3, p1, H4.out.1, H4.out.2.1, HRM.out, HJ3.out, yd H5.out, H5.out, H6.out⟩
      case measure =>
       rw [HBN.out, yfJ H5.out]
       exact p2
     ·clear hu3 ho3 hy HR c3 f3 l3 HB3
      gi_wp2
      refine bodyPost_ret (results_none rfl _ _ _) rfl ?_
      exact ⟨⟨_, rfl⟩, S3, .inr hJx3⟩
    ·have HS := hide (HNX.out r hr0 hd)
     have e2 : (r : Int) % ((q : Int) * (q : Int)) = ((r % (q * q) : Nat) : Int) := by rw [QQ.out, Int.natCast_emod]
     rw [e2] at HD
     have hz : ((iB ((r % (q * q) : Nat) : Int)).toList == [48]) = false := by
      rw [qe, decide_eq_false_iff_not]
      omega
     generalize iB ((r % (q * q) : Nat) : Int) = Z at HD hz
     generalize iB ((r : Int) / ((q : Int) * (q : Int))) = Y at HD
     clear e2 hd
     gi_wp2
     refine ⟨trivial, rfl, (callsIn_wide.2 (HD.out _ (Nat.le_trans hB (Nat.le_of_lt l0)) HP.out.pq.p10)).mono ?_⟩
     rintro e w3 ⟨rfl, hb3⟩
     have H3 := hide (show k ≤ (allS m).length ∧ (allS m).drop k = remS (j + 1) r ∧ r ≤ m ∧ J k S w3 ∧ bx < w3.heap.size ∧ w3.heap[bx]? = some (boxS (iB (r : Int))) ∧ W.heap.size ≤ w3.heap.size from
      ⟨I2.out.1, I2.out.2.1.trans HS.out, I2.out.2.2.1, HJ.out k _ _ _ I2.out.2.2.2.1 ((QuietO.refl _ _ _ wr).jv hb3 (Nat.le_refl _)), Nat.lt_of_lt_of_le l0 hb3.size, yc hb3 I2.out.2.2.2.2.2.1 l0, Nat.le_trans I2.out.2.2.2.2.2.2 hb3.size⟩)
     clear hb3 c0 l0 HD HP fr I2 HS
     gi_wp2
     go_roundw
     case rel => exact ⟨j + 1, k, r, S, by omega, by simp, hr0, H3.out⟩
     case measure => simp [intOf]; omega
  ·obtain rfl : j = 25 := by omega
   have HE := hide (ygU IN.out.1 (IN.out.2.1.trans (yhf r)))
   clear hlt
   gi_wp2
   refine bodyPost_end (results_none rfl _ _ _) rfl ?_
   exact ⟨⟨_, rfl⟩, S, .inl (by rw [← HE.out]; exact IN.out.2.2.2.1)⟩
end Go.Proofs.YtklgpilgalfckaaGreatDoor
namespace Go.KI
open Go
theorem ycn {q : Rat} (h1 : (Lib.decDigits q.num.natAbs).length ≤ 90) (h2 : (Lib.decDigits q.den).length ≤ 90) (h0 : 0 < q.num) : fits ((q.num.toNat * q.den : Nat) : Int) := by
 refine yq (n := 180) (by rw [yC]; omega) ?_
 rw [Int.natAbs_natCast]
 have a := (yn (n := 90) (by omega)).1 h1
 have b := (yn (n := 90) (by omega)).1 h2
 have e : q.num.toNat = q.num.natAbs := by omega
 rw [e]
 exact qs a b
end Go.KI
namespace Go.Proofs.YtklgpilgalfckaaGreatDoor
open Go.RowKit Go.KP Go.KI Go.Shelf
attribute [local go_sem] Oper.semAt_some

theorem yel {g : Nat} {args : Array Value} {v : Value} {B m : Nat} {w0 : World} (h : ∀ w, B ≤ w.heap.size → PQ B w → Calls Tryz.prog g args w (Ret w v)) (hT : PQ B w0) (hB : B ≤ m) (hm : m ≤ w0.heap.size) (x : Of (Below m w0)) :
 Calls Tryz.prog g args x.w fun e w' => e = .returned v ∧ Cls (Below m w0) w' :=
 (h x.w (by have := x.h.size; omega) (hT.on x.h hB)).mono fun _ _ ⟨h, hb⟩ => ⟨h, Cls.mk (x.h.trans (hb.mono (by have := x.h.size; omega)))⟩
instance ofBelow (n : Nat) (w : World) : Nonempty (Of (Below n w)) := ⟨⟨w, Below.refl n w⟩⟩
theorem qW {w : World} {b c o : Nat} {x : Obj} (h : w.heap[b]? = some x) (hne : c ≠ b) (v : Value) : (w.setCell ⟨c, o, none⟩ v).heap[b]? = some x := by
 simp only [World.setCell]
 rw [Array.getElem?_modify, if_neg hne]
 exact h
theorem yaQ {n b c : Nat} {w w1 : World} (h : Below n w w1) (hb : n ≤ b) (hc : n ≤ c) (u v : Value) : Below n w ((w1.setCell ⟨b, 0, none⟩ u).setCell ⟨c, 0, none⟩ v) :=
 h.trans ⟨rfl, rfl, rfl, by simp [World.setCell], fun j hj => (Below.heap_setCell _ _ _ _ (by show j ≠ c; omega)).trans (Below.heap_setCell _ _ _ _ (by show j ≠ b; omega))⟩
theorem ycQ {q : Rat} (fq : roomy q) (h0 : 0 < q.num) (hs : 17 < (numB q).size + (denB q).size) (B : Nat) (w : World) (hB : B ≤ w.heap.size) (hT : PR B w) :
 Calls Tryz.prog 55 #[.string (T q)] w (Ret w (.tuple #[.string (T (normC q)), .string (iB (normL q : Nat)), .int .i64 0])) := by
 have HT := hide hT
 have X0 := hide (heap2 w (.cells #[.string (T q)] 26) (.cells #[.string (T q)] 26))
 have HC := hide (wk w.heap.size (w.heap.size + 1) [q] [q] (by simp) (by simp) (fun x hx => by simp at hx; rw [hx]; exact fq) (fun x hx => by simp at hx; rw [hx]; omega) B _ (nums1 X0.out.1) (nums1 X0.out.2.1) (Nat.le_trans hB X0.out.2.2.2.size) (hT.pq.on X0.out.2.2.2 hB))
 have HO := hide (fun w hB hT => yfU fq.1 B w hB hT)
 obtain ⟨m, hm⟩ := xe (q.num.toNat * q.den)
 have fm : fits (m : Int) := by rw [hm]; exact ycn fq.2.1 fq.2.2 h0
 have hm0 : 0 < m := by rw [hm]; exact Nat.mul_pos (by omega) q.den_pos
 have hN : numB q = iB q.num := rfl
 have hD : denB q = iB (q.den : Int) := rfl
 have hnd : q.num * (q.den : Int) = (m : Int) := by
  rw [hm, Int.natCast_mul]
  congr 1
  omega
 have HM := hide (fun w hB hT => ycO fq.1.1 fq.1.2 (by rw [hnd]; exact fm) B w hB hT)
 rw [hnd] at HM
 have hz : ((iB q.num).toList == [48]) = false := by
  rw [qe, decide_eq_false_iff_not]
  omega
 have hsz : ((((numB q).size : Int) + ((denB q).size : Int)) ≤ 17) = False := eq_false (by omega)
 have fN := qU fq.1.1
 have fD := qU fq.1.2
 have hnorm : T (normC q) = T (((normN m).1 : Rat) / (q.den : Rat)) ∧ iB (normL q : Nat) = iB ((normN m).2 : Nat) := by
  unfold normC normL
  rw [← hm, Rat.divInt_eq_div]
  exact ⟨rfl, rfl⟩
 rw [hnorm.1, hnorm.2]
 obtain ⟨V1, hV1⟩ := xe (T (((normN m).1 : Rat) / (q.den : Rat)))
 obtain ⟨V2, hV2⟩ := xe (iB ((normN m).2 : Nat))
 rw [← hV1, ← hV2]
 have fd := fq.1.2
 have hd0 := q.den_pos
 rw [hN, hD] at HO hsz
 generalize hNN : iB q.num = N at HM HO hz hsz fN
 generalize hDD : iB (q.den : Int) = D at HM HO hsz fD
 generalize hXX : T q = X at HC HO X0 ⊢
 obtain ⟨dd, hdd⟩ := xe q.den
 rw [← hdd] at fd hd0 hDD hV1
 have HV1 := hide hV1
 have HV2 := hide hV2
 have FM := hide fm
 have FD := hide fd
 have HDD := hide hDD
 clear hV1 hV2 fm fd hDD
 clear hdd hXX hNN hm hN hD hnd hnorm hs h0 fq hT
 refine (callsIn_wide (n := 0)).1 ?_
 refine callsIn_of_wp_marks Tryz.func55 rfl trivial ?_ rfl
 simp only [Tryz.ntmps55, List.size_toArray, List.length_cons, List.length_nil, Nat.reduceAdd, Nat.reduceSub, Array.replicate_succ, Array.replicate_zero, List.push_toArray, List.append_toArray, List.nil_append, List.cons_append]
 gi_wp2_with fail
 refine ⟨trivial, rfl, (callsIn_wide.2 HC.out).mono ?_⟩
 rintro e w1 ⟨rfl, hb1⟩
 have HB1 := hide (X0.out.2.2.2.trans (hb1.mono X0.out.2.2.2.size))
 clear hb1 HC X0
 gi_wp2_with fail
 refine ⟨trivial, rfl, (callsIn_wide.2 (HO.out _ (Nat.le_trans hB HB1.out.size) (HT.out.on HB1.out hB).pq)).mono ?_⟩
 rintro e w2 ⟨rfl, hb2⟩
 have X2 := hide (heap1 w2 (rpairO N D))
 have G2 := hide X2.out.1
 have HB2 := hide (HB1.out.trans ((hb2.trans (X2.out.2.2.mono hb2.size)).mono HB1.out.size))
 have hsz2 := HB1.out.size
 have hsz2b := hb2.size
 clear hb2 X2
 have k0 := ya G2.out 0
 have k1 := ya G2.out 1
 have kl := yd G2.out
 gi_wp2_with fail
 refine ⟨trivial, rfl, (callsIn_wide.2 (HM.out _ (Nat.le_trans hB HB2.out.size) (HT.out.on HB2.out hB).pq.p10)).mono ?_⟩
 rintro e w3 ⟨rfl, hb3⟩
 have G3 := bh hb3 G2
 have HB3 := bt HB2 hb3
 have hsz3 : w2.heap.size < w3.heap.size := Nat.lt_of_lt_of_le kl hb3.size
 clear hb3 k0 k1 kl G2
 gi_wp2_with fail
 refine ⟨trivial, rfl, (callsIn_wide.2 (ydw (iB (m : Int)) _)).mono ?_⟩
 rintro e w4 ⟨rfl, hw4⟩
 obtain ⟨Y1, Y2, Y3, Y4, Y5⟩ := heap3 w3 (boxS ⟨#[49]⟩) (boxS (iB (m : Int))) (boxS (iB (m : Int)))
 rw [← hw4] at Y1 Y2 Y3 Y4 Y5
 have y4 := Y4
 have C0 := hide Y1; have L0 := hide Y2; have B0 := hide Y3
 have P0 := hide (yc Y5 G3.out (yd G3.out))
 have HB4 := hide (HB3.out.trans (Y5.mono HB3.out.size))
 clear Y1 Y2 Y3 Y4 Y5 hw4 G3
 have B4 := hide (Nat.le_trans hB HB3.out.size)
 gi_wp2_with fail
 refine ydg (gf := 146) (lb := #[.pointer (some ⟨w3.heap.size + 1 + 1, 0, none⟩)]) rfl (enters_of Tryz.func146 (by kernel_rfl) rfl)
  (yau m hm0 FM.out (w3.heap.size + 2) B w4 B0.out (Nat.le_trans B4.out (by omega))) (fun b hb => ⟨by rw [hb, y4]; omega, rfl⟩) (fun _ => rfl)
  (fun k S W => S = (fun _ => False) ∧ W.heap[w2.heap.size]? = some (rpairO N D) ∧ W.heap[w3.heap.size]? = some (boxS (iB ((prodK m k : Nat) : Int))) ∧ W.heap[w3.heap.size + 1]? = some (boxS (iB ((leftK m k : Nat) : Int))) ∧ Below w.heap.size w W)
  (fun _ _ _ => False) ?hI (fun _ _ _ _ h _ => h) ?h0 ?hke
  (fun k S a1' W => a1' = { tmps := #[.string X, undef, .string ⟨#[]⟩, .string ⟨#[]⟩, .int .i64 0, .int .i64 0, .pointer (some ⟨w2.heap.size, 0, none⟩), undef, undef, undef, undef, undef, undef, .pointer (some ⟨w3.heap.size, 0, none⟩), .pointer (some ⟨w3.heap.size + 1, 0, none⟩), .string (iB ((stepAt m k).1 : Int)), .string (iB ((stepAt m k).2 : Int)), undef, undef, .string X, .slice (some ⟨w.heap.size, 0, none⟩) 1 1, .string X, .slice (some ⟨w.heap.size + 1, 0, none⟩) 1 1, .int .i64 0, .int .i64 0, .bool false, undef, .string X, rpairV N D, .pointer (some ⟨w2.heap.size, 0, none⟩), .string N, .bool false, .pointer (some ⟨w2.heap.size, 0, none⟩), .string N, .int .i64 N.size, .pointer (some ⟨w2.heap.size, 1, none⟩), .string D, .int .i64 D.size, .int .i64 ((N.size : Int) + (D.size : Int)), .bool false, undef, undef, undef, undef, undef, undef, undef, undef, undef, undef, undef, undef, undef, undef, undef, undef, undef, undef, undef, undef, .pointer (some ⟨w2.heap.size, 0, none⟩), .string N, .pointer (some ⟨w2.heap.size, 1, none⟩), .string D, .string (iB (m : Int)), .string (iB (m : Int)), .func (.func 146) #[] #[.pointer (some ⟨w3.heap.size + 1 + 1, 0, none⟩)], .string (iB ((stepAt m k).1 : Int)), .string (iB ((stepAt m k).2 : Int)), undef, undef, undef, undef, undef, undef, undef, undef, undef, undef, undef, undef, undef, undef, undef, undef, undef, undef], defers := [] })
  ?hAx ?hassign ?hS ?hbody ?hdone ?hstop
 case hI =>
  rintro k S W W2 ⟨rfl, h1, h2, h3, h4⟩ hq
  have e : ∀ {b : Nat} {o : Obj}, b < w3.heap.size + 2 → W.heap[b]? = some o → W2.heap[b]? = some o := fun {b} {o} hb h => (hq.block b (by omega) (.inl (by omega)) (yd h)).trans h
  have hs1 := HB3.out.size
  exact ⟨rfl, e (by omega) h1, e (by omega) h2, e (by omega) h3, ⟨hq.os.trans h4.os, hq.tape.trans h4.tape, hq.output.trans h4.output, Nat.le_trans h4.size hq.size, fun j hj => (hq.block j (by omega) (.inl (by omega)) (by have := h4.size; omega)).trans (h4.block j hj)⟩⟩
 case h0 => exact ⟨rfl, P0.out, by rw [(yaF m).1, show ((1 : Nat) : Int) = 1 from rfl, iB1]; exact C0.out, by rw [(yaF m).2]; exact L0.out, HB4.out⟩
 case hke =>
  rintro k S W _ ⟨rfl, _, _, _, h4⟩
  exact HT.out.on h4 hB
 case hAx =>
  rintro k S a1' W l r r2 h _
  exact h
 case hassign =>
  intro lp k S W K hsz hSlt hK
  have HK := hide hK
  clear hK
  gi_wp2
  exact HK.out _ _ (Quiet.refl _ _ _) (Upd.refl _ _ _) rfl
 case hS =>
  rintro k S W ⟨rfl, _⟩ b hb
  exact hb.elim
 case hstop =>
  intro D c S W _ h
  exact h.elim
 case hbody =>
  rintro lp k S a1' W hk ⟨rfl, h1, h2, h3, h4⟩ rfl hsz
  obtain ⟨s1, s2⟩ := yaR hk
  have hmul : ((prodK m k : Nat) : Int) * (((stepAt m k).1 : Nat) : Int) = ((prodK m (k + 1) : Nat) : Int) := by rw [s1, Int.natCast_mul]
  have HMU := hide (fun w hB hT => ycO (x := ((prodK m k : Nat) : Int)) (y := (((stepAt m k).1 : Nat) : Int)) (yi FM.out (by have := (kX hm0 k).1; omega)) (yi FM.out (by have := yhO hm0 hk; omega)) (by rw [hmul]; exact yi FM.out (by have := (kX hm0 (k + 1)).1; omega)) B w hB hT)
  rw [hmul] at HMU
  have S2 := hide s2
  have G1 := hide h1; have G2 := hide h2; have G3 := hide h3; have G4 := hide h4
  have c0 := ya h2 0
  have cl := yd h2
  clear hmul s1 s2 h1 h2 h3 h4 C0 L0 B0 P0
  gi_wp2
  refine ⟨trivial, rfl, (CallsIn.inRound lp (callsIn_wide.2 (HMU.out W (Nat.le_trans hB G4.out.size) (HT.out.on G4.out hB).pq.p10))).mono ?_⟩
  rintro e W2 ⟨rfl, hb2⟩
  have K1 := bh hb2 G1; have K2 := bh hb2 G2; have K3 := bh hb2 G3; have K4 := hide (G4.out.trans (hb2.mono G4.out.size))
  have BB := hide hb2
  clear hb2 c0 cl
  have c0 := ya K2.out 0
  have cl := yd K2.out
  have d0 := ya K3.out 0
  have dl := yd K3.out
  have f0 := yf K2.out 0
  have g0 := yf K3.out 0
  have hs1 := HB3.out.size
  gi_wp2
  refine ⟨_, (((Upd.refl _ _ W).jv BB.out (Nat.le_refl _)).setBox (p := ⟨w3.heap.size, 0, none⟩) (show w3.heap.size < w4.heap.size by omega) _).setBox (p := ⟨w3.heap.size + 1, 0, none⟩) (show w3.heap.size + 1 < w4.heap.size by omega) _, ?_, rfl, ?_, ?_, ?_, ?_⟩
  ·rintro b rfl
   rw [Below.heap_setCell _ _ _ _ (show w3.heap.size + 2 ≠ w3.heap.size + 1 by omega), Below.heap_setCell _ _ _ _ (show w3.heap.size + 2 ≠ w3.heap.size by omega)]
   exact BB.out.block _ (by omega)
  ·exact qW (qW K1.out (by omega) _) (by omega) _
  ·exact qW (wy K2.out _) (by omega) _
  ·rw [S2.out]
   exact wy (qW K3.out (by omega) _) _
  ·exact yaQ K4.out (by omega) (by omega) _ _
 case hdone =>
  rintro D' S W hD' ⟨rfl, h1, h2, h3, h4⟩ hDf
  obtain ⟨n, hn⟩ := xe ((allS m).length)
  rw [← hn] at h2 h3
  obtain ⟨q1, q2, q3⟩ := yaa hm0 n
  obtain ⟨q4, q5⟩ := kX hm0 n
  have hNS := ydH hm0
  rw [← hn] at hNS
  obtain ⟨c, hc⟩ := xe (prodK m n)
  obtain ⟨l, hl⟩ := xe (leftK m n)
  rw [← hc] at h2 q1 q3 q4 hNS
  rw [← hl] at h3 q1 q2 q5 hNS
  have fl : fits (l : Int) := yi FM.out (by omega)
  have HE := hide (fun w hB hT => ygQ fl B w hB hT)
  have hdz : ((dd : Nat) : Int) ≠ 0 := by omega
  have hs1 := HB3.out.size
  have hld := yd hDf
  have G1 := hide h1; have G2 := hide h2; have G3 := hide h3; have G4 := hide h4; have GD := hide hDf
  have d0 := ya h3 0
  have dl := yd h3
  clear h1 h2 h3 h4 hDf C0 L0 B0 P0 hc hl hn
  obtain ⟨b, hb⟩ := xe (sqI l)
  rw [← hb] at HE hNS
  cases b
  ·rw [if_neg (by simp)] at hNS
   have e1 : T (((c : Nat) : Rat) / (dd : Rat)) = V1 := by rw [HV1.out, hNS]
   have e2 : iB (l : Int) = V2 := by rw [HV2.out, hNS]
   have HFR := hide (fun w hB hT => wY (x := ((c : Nat) : Int)) (y := ((dd : Nat) : Int)) (yi FM.out (by omega)) FD.out hdz B w hB hT)
   rw [show (((c : Nat) : Int) : Rat) = ((c : Nat) : Rat) from rfl, show (((dd : Nat) : Int) : Rat) = ((dd : Nat) : Rat) from rfl, e1, HDD.out] at HFR
   rw [e2] at HE G3 d0
   generalize iB ((c : Nat) : Int) = CB at HFR G2
   generalize iB ((rootN l : Nat) : Int) = RB at HE
   clear e1 e2 hNS hb q1 q2 q3 q4 q5 fl hdz
   gi_wp2
   refine ⟨trivial, rfl, (callsIn_wide.2 (HE.out W (Nat.le_trans hB G4.out.size) (HT.out.on G4.out hB).pq.p10)).mono ?_⟩
   rintro e W2 ⟨rfl, hb2⟩
   have K1 := bh hb2 G1; have K2 := bh hb2 G2; have K3 := hide (yc hb2 G3.out dl); have K4 := hide (G4.out.trans (hb2.mono G4.out.size)); have KD := hide (yc hb2 GD.out hld)
   have ld2 : D' < W2.heap.size := Nat.lt_of_lt_of_le hld hb2.size
   clear hb2 d0 dl G1 G2 G3 HE
   gi_wp2
   have hTn := HT.out.on K4.out hB
   have hBn := Nat.le_trans hB K4.out.size
   have KF := hide (fun x => yel (m := W2.heap.size) (w0 := W2) HFR.out hTn.pq hBn (Nat.le_refl _) x)
   have hx1 : ∀ x : Of (Below W2.heap.size W2), ∀ o, x.w.cell? ⟨w2.heap.size, o, none⟩ = W2.cell? ⟨w2.heap.size, o, none⟩ := fun x o => x.h.cell (p := ⟨w2.heap.size, o, none⟩) (yd K1.out)
   have hx2 : ∀ x : Of (Below W2.heap.size W2), ∀ o, x.w.cell? ⟨w3.heap.size, o, none⟩ = W2.cell? ⟨w3.heap.size, o, none⟩ := fun x o => x.h.cell (p := ⟨w3.heap.size, o, none⟩) (yd K2.out)
   have hx3 : ∀ x : Of (Below W2.heap.size W2), ∀ o, x.w.cell? ⟨w3.heap.size + 1, o, none⟩ = W2.cell? ⟨w3.heap.size + 1, o, none⟩ := fun x o => x.h.cell (p := ⟨w3.heap.size + 1, o, none⟩) (yd K3.out)
   have c1 := fun o => ya K1.out o
   have c2 := fun o => ya K2.out o
   have c3 := fun o => ya K3.out o
   clear hTn hBn
   refine xd ?_
   refine zL (C := Cls (Below W2.heap.size W2)) (by kernel_rfl) (by kernel_rfl) (by kernel_rfl) (Cls.mk (Below.refl _ _).drew) ?_
   repeat (go_big_quiet_step (with_reducible exact KF.out _))
   refine wpQuiet_nil ?_
   intro W5 hcl
   have HB5 := hide (K4.out.trans (hcl.out.mono K4.out.size))
   have GD5 := hide (yc hcl.out KD.out (yd KD.out))
   clear hcl hx1 hx2 hx3 c1 c2 c3
   refine vM ?_
   gi_wp2
   refine ⟨by simp, .inl ⟨_, _, rfl, run_takeDeferred GD5.out, ?_⟩⟩
   refine ⟨_, results_tmp3 rfl _ _ _, rfl, ?_⟩
   exact HB5.out.trans (belowK_b (w := w) (Nat.le_refl _) _ D' _ _ (by have := HB5.out.size; omega) GD5.out rfl rfl)
  ·rw [if_pos rfl] at hNS
   have e1 : T ((((c * rootN l : Nat) : Nat) : Rat) / (dd : Rat)) = V1 := by rw [HV1.out, hNS]
   have e2 : (⟨#[49]⟩ : ByteArray) = V2 := by rw [HV2.out, hNS, ← iB1]; rfl
   have hr0 : rootN l ≤ l := Nat.le_trans (Nat.le_mul_of_pos_left _ (qS q2)) (yX l).1
   have hcr : c * rootN l ≤ m := by
    have h1 : c * rootN l ≤ c * l := Nat.mul_le_mul (Nat.le_refl _) hr0
    have h2 : 1 * (c * l) ≤ c * (c * l) := Nat.mul_le_mul q3 (Nat.le_refl _)
    rw [Nat.one_mul, ← Nat.mul_assoc, q1] at h2
    omega
   have hmul : ((c : Nat) : Int) * ((rootN l : Nat) : Int) = ((c * rootN l : Nat) : Int) := (Int.natCast_mul _ _).symm
   have HMU := hide (fun w hB hT => ycO (x := ((c : Nat) : Int)) (y := ((rootN l : Nat) : Int)) (yi FM.out (by omega)) (yi FM.out (by omega)) (by rw [hmul]; exact yi FM.out (by omega)) B w hB hT)
   rw [hmul] at HMU
   have HFR := hide (fun w hB hT => wY (x := ((c * rootN l : Nat) : Int)) (y := ((dd : Nat) : Int)) (yi FM.out (by omega)) FD.out hdz B w hB hT)
   rw [show (((c * rootN l : Nat) : Int) : Rat) = ((c * rootN l : Nat) : Rat) from rfl, show (((dd : Nat) : Int) : Rat) = ((dd : Nat) : Rat) from rfl, e1, HDD.out] at HFR
   subst e2
   generalize iB ((c * rootN l : Nat) : Int) = CR at HFR HMU
   generalize iB ((c : Nat) : Int) = CB at HMU G2
   generalize iB ((rootN l : Nat) : Int) = RB at HE HMU
   generalize iB (l : Int) = LB at HE G3 d0
   clear e1 hNS hb q1 q2 q3 q4 q5 fl hdz hr0 hcr hmul
   gi_wp2
   refine ⟨trivial, rfl, (callsIn_wide.2 (HE.out W (Nat.le_trans hB G4.out.size) (HT.out.on G4.out hB).pq.p10)).mono ?_⟩
   rintro e W2 ⟨rfl, hb2⟩
   have K1 := bh hb2 G1; have K2 := bh hb2 G2; have K3 := hide (yc hb2 G3.out dl); have K4 := hide (G4.out.trans (hb2.mono G4.out.size)); have KD := hide (yc hb2 GD.out hld)
   have ld2 : D' < W2.heap.size := Nat.lt_of_lt_of_le hld hb2.size
   clear hb2 d0 dl G1 G2 G3 HE
   have c0 := ya K2.out 0
   have cl := yd K2.out
   gi_wp2
   refine ⟨trivial, rfl, (callsIn_wide.2 (HMU.out W2 (Nat.le_trans hB K4.out.size) (HT.out.on K4.out hB).pq.p10)).mono ?_⟩
   rintro e W3 ⟨rfl, hb3⟩
   have M1 := bh hb3 K1; have M2 := bh hb3 K2; have M3 := bh hb3 K3; have M4 := hide (K4.out.trans (hb3.mono K4.out.size)); have MD := hide (yc hb3 KD.out ld2)
   clear hb3 c0 cl K1 K2 K3 K4 KD ld2
   have c0 := ya M2.out 0
   have cl := yd M2.out
   have d0 := ya M3.out 0
   have dl := yd M3.out
   have f0 := yf M2.out 0
   have g0 := yf M3.out 0
   gi_wp2
   clear c0 cl d0 dl f0 g0
   obtain ⟨W4, hW4⟩ := xe ((W3.setCell ⟨w3.heap.size, 0, none⟩ (.string CR)).setCell ⟨w3.heap.size + 1, 0, none⟩ (.string ⟨#[49]⟩))
   rw [← hW4]
   have K1 := hide (show W4.heap[w2.heap.size]? = some (rpairO N D) from by rw [hW4]; exact qW (qW M1.out (by omega) _) (by omega) _)
   have K2 := hide (show W4.heap[w3.heap.size]? = some (boxS CR) from by rw [hW4]; exact qW (wy M2.out _) (by omega) _)
   have K3 := hide (show W4.heap[w3.heap.size + 1]? = some (boxS ⟨#[49]⟩) from by rw [hW4]; exact wy (qW M3.out (by omega) _) _)
   have K4 := hide (show Below w.heap.size w W4 from by rw [hW4]; exact yaQ M4.out (by omega) (by omega) _ _)
   have KD := hide (show W4.heap[D']? = some (.deferred (some [])) from by rw [hW4]; exact qW (qW MD.out (by omega) _) (by omega) _)
   clear hW4 M1 M2 M3 M4 MD
   have hTn := HT.out.on K4.out hB
   have hBn := Nat.le_trans hB K4.out.size
   have KF := hide (fun x => yel (m := W4.heap.size) (w0 := W4) HFR.out hTn.pq hBn (Nat.le_refl _) x)
   have hx1 : ∀ x : Of (Below W4.heap.size W4), ∀ o, x.w.cell? ⟨w2.heap.size, o, none⟩ = W4.cell? ⟨w2.heap.size, o, none⟩ := fun x o => x.h.cell (p := ⟨w2.heap.size, o, none⟩) (yd K1.out)
   have hx2 : ∀ x : Of (Below W4.heap.size W4), ∀ o, x.w.cell? ⟨w3.heap.size, o, none⟩ = W4.cell? ⟨w3.heap.size, o, none⟩ := fun x o => x.h.cell (p := ⟨w3.heap.size, o, none⟩) (yd K2.out)
   have hx3 : ∀ x : Of (Below W4.heap.size W4), ∀ o, x.w.cell? ⟨w3.heap.size + 1, o, none⟩ = W4.cell? ⟨w3.heap.size + 1, o, none⟩ := fun x o => x.h.cell (p := ⟨w3.heap.size + 1, o, none⟩) (yd K3.out)
   have c1 := fun o => ya K1.out o
   have c2 := fun o => ya K2.out o
   have c3 := fun o => ya K3.out o
   clear hTn hBn
   refine xd ?_
   refine zL (C := Cls (Below W4.heap.size W4)) (by kernel_rfl) (by kernel_rfl) (by kernel_rfl) (Cls.mk (Below.refl _ _).drew) ?_
   repeat (go_big_quiet_step (with_reducible exact KF.out _))
   refine wpQuiet_nil ?_
   intro W5 hcl
   have HB5 := hide (K4.out.trans (hcl.out.mono K4.out.size))
   have GD5 := hide (yc hcl.out KD.out (yd KD.out))
   clear hcl hx1 hx2 hx3 c1 c2 c3
   refine vM ?_
   gi_wp2
   refine ⟨by simp, .inl ⟨_, _, rfl, run_takeDeferred GD5.out, ?_⟩⟩
   refine ⟨_, results_tmp3 rfl _ _ _, rfl, ?_⟩
   exact HB5.out.trans (belowK_b (w := w) (Nat.le_refl _) _ D' _ _ (by have := HB5.out.size; omega) GD5.out rfl rfl)

theorem ydz {q : Rat} (fq : roomy q) (h0 : 0 < q.num) (B : Nat) (w : World) (hB : B ≤ w.heap.size) (hT : PR B w) :
 Calls Tryz.prog 55 #[.string (T q)] w (Ret w (.tuple #[.string (T (normC q)), .string (iB (normL q : Nat)), .int .i64 0])) := by
 by_cases hs : (numB q).size + (denB q).size ≤ 17
 ·exact ju fq h0 hs B w hB hT
 ·exact ycQ fq h0 (by omega) B w hB hT
theorem ygG {q : Rat} (h0 : 0 < q.num) : normC q * normC q * (normL q : Rat) = q ∧ 0 < normC q ∧ 0 < normL q ∧ (∀ p ∈ primes25, ¬ normL q % (p * p) = 0) := by
 have hm : 0 < q.num.toNat * q.den := Nat.mul_pos (by omega) q.den_pos
 obtain ⟨n1, n2, n3, n4, _⟩ := jd hm
 have e1 : ((normN (q.num.toNat * q.den)).1 : Rat) * ((normN (q.num.toNat * q.den)).1 : Rat) * ((normN (q.num.toNat * q.den)).2 : Rat) = ((q.num.toNat : Nat) : Rat) * ((q.den : Nat) : Rat) := by
  rw [← Rat.natCast_mul, ← Rat.natCast_mul, n1, Rat.natCast_mul]
 have e2 : ((q.num.toNat : Nat) : Rat) = (q.num : Rat) := by
  have e : ((q.num.toNat : Nat) : Int) = q.num := by omega
  rw [← Rat.intCast_natCast, e]
 have hq := yhl q
 have hd : (0 : Rat) < ((q.den : Nat) : Rat) := by exact_mod_cast q.den_pos
 have hc : (0 : Rat) < ((normN (q.num.toNat * q.den)).1 : Rat) := by exact_mod_cast n3
 unfold normC normL
 rw [Rat.divInt_eq_div]
 show ((normN (q.num.toNat * q.den)).1 : Rat) / ((q.den : Nat) : Rat) * (((normN (q.num.toNat * q.den)).1 : Rat) / ((q.den : Nat) : Rat)) * ((normN (q.num.toNat * q.den)).2 : Rat) = q ∧ 0 < ((normN (q.num.toNat * q.den)).1 : Rat) / ((q.den : Nat) : Rat) ∧ _ ∧ _
 refine ⟨?_, ?_, n2, n4⟩
 ·rw [e2] at e1
  have hdi : (q.num : Rat) = q * ((q.den : Nat) : Rat) := by
   have h2 : ((q.den : Nat) : Rat) ≠ 0 := fun e => by rw [e] at hd; exact absurd hd Rat.lt_irrefl
   generalize hx : (q.num : Rat) = x at hq
   generalize hy : ((q.den : Nat) : Rat) = y at hq h2
   rw [← hq, Rat.div_def, Rat.mul_assoc, Rat.inv_mul_cancel _ h2, Rat.mul_one]
  generalize ((normN (q.num.toNat * q.den)).1 : Rat) = c at e1 ⊢
  generalize ((normN (q.num.toNat * q.den)).2 : Rat) = l at e1 ⊢
  generalize ((q.den : Nat) : Rat) = d at e1 hdi hd ⊢
  rw [hdi] at e1
  rw [Rat.div_def]
  have h1 : d * d⁻¹ = 1 := Rat.mul_inv_cancel _ (fun e => by rw [e] at hd; exact absurd hd Rat.lt_irrefl)
  grind
 ·rw [Rat.div_def]
  exact Rat.mul_pos hc (Rat.inv_pos.2 hd)
end Go.Proofs.YtklgpilgalfckaaGreatDoor
namespace Go.KI
open Go
def okS (s : ByteArray) : Prop := s.size ≤ 20 ∧ chkQ s.data.toList = 0
instance (s : ByteArray) : Decidable (okS s) := inferInstanceAs (Decidable (_ ∧ _))
end Go.KI
namespace Go.Proofs.YtklgpilgalfckaaGreatDoor
open Go.RowKit Go.KP Go.KI Go.Shelf
attribute [local go_sem] Oper.semAt_some

def StrsAt (w : World) (b : Nat) (l : List ByteArray) : Prop := b < w.heap.size ∧ ∀ (i : Nat) s, l[i]? = some s → w.cell? ⟨b, i, none⟩ = some (.string s)
theorem StrsAt.below {w w2 : World} {b : Nat} {l : List ByteArray} {n : Nat} (h : StrsAt w b l) (hb : Below n w w2) (hn : b < n) : StrsAt w2 b l :=
 ⟨Nat.lt_of_lt_of_le h.1 hb.size, fun i q hq => by rw [← h.2 i q hq]; exact hb.cell (p := ⟨b, i, none⟩) hn⟩
theorem strs1 {w : World} {b : Nat} {p : ByteArray} (h : w.heap[b]? = some (.cells #[.string p] 26 (0, 0))) : StrsAt w b [p] := by
 refine ⟨yd h, fun i x hx => ?_⟩
 match i with
 | 0 => simp at hx; rw [← hx]; exact ya h 0
 |i + 1 => simp at hx
theorem T1 : T 1 = ⟨#[49]⟩ := by
 rw [show T 1 = iB ((1 : Nat) : Int) from (iB_T _).symm]
 exact lit1
end Go.Proofs.YtklgpilgalfckaaGreatDoor
