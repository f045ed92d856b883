/-
 Texts laid together.
-/
import Derived.Test.YtklgpilgalfckaaGreatDoorMA19
import Derived.Test.YtklgpilgalfckaaGreatDoorMA14
set_option maxRecDepth 100000
set_option maxHeartbeats 16000000
namespace Go.Proofs.YtklgpilgalfckaaGreatDoor
open Go.RowKit Go.KP Go.KI Go.Shelf
attribute [local go_sem] Oper.semAt_some

theorem ydP {z : Int} (h : (iB z).size ≤ 18) : z.natAbs < 1000000000000000000 := by
 rw [← yg, yv] at h
 refine (yn (n := 18) (by omega)).1 ?_
 rcases yo z with ⟨_, a⟩ | ⟨_, a⟩
 ·rw [a, List.length_cons] at h; omega
 ·rw [a] at h; exact h
theorem yhU {z : Int} (h : 0 ≤ z) : dv (iB z).data.toList = z.natAbs ∧ ∀ c ∈ (iB z).data.toList, isDg c = true := by
 rw [zx h]
 exact ⟨yD _, yE _⟩
theorem ygm {n d : Int} (hd : 0 < d) : (d / (Nat.gcd n.natAbs d.natAbs : Nat) = 1 → iB (n / (Nat.gcd n.natAbs d.natAbs : Nat)) = T (Rat.divInt n d)) ∧
 (d / (Nat.gcd n.natAbs d.natAbs : Nat) ≠ 1 → iB (n / (Nat.gcd n.natAbs d.natAbs : Nat)) ++ ⟨#[47]⟩ ++ iB (d / (Nat.gcd n.natAbs d.natAbs : Nat)) = T (Rat.divInt n d)) := by
 have h := ybh (n := n) hd
 constructor
 ·intro h1
  rw [if_pos h1] at h
  apply yp
  rw [yv, yI, h]
 ·intro h1
  rw [if_neg h1] at h
  apply yp
  rw [yI, h]
  simp [iB, strB]
structure MakeOk (n d : Int) : Prop where
 pos : 0 < d
 fn : fits n
 fd : fits d
theorem yaD {n d : Int} (hd : d ≠ 0) (fn : fits n) (fd : fits d) (B : Nat) (w : World) (hB : B ≤ w.heap.size) (hT : P10 B w) :
 Calls Tryz.prog 140 #[.string (iB n), .string (iB d)] w (Ret w (.tuple #[.string (T (Rat.divInt n d)), .int .i64 0])) := by
 have HT := hide hT
 obtain ⟨n', d', hpos, fn', fd', hX, hst⟩ : ∃ n' d' : Int, 0 < d' ∧ fits n' ∧ fits d' ∧ Rat.divInt n d = Rat.divInt n' d' ∧ ((n' = n ∧ d' = d ∧ ¬ d < 0) ∨ (d < 0 ∧ d' = -d ∧ n' = -n)) := by
  by_cases h : d < 0
  ·exact ⟨-n, -d, by omega, yi fn (by omega), yi fd (by omega), (Rat.divInt_eq_divInt_iff hd (by omega)).2 (by rw [Int.mul_neg, Int.neg_mul]), .inr ⟨h, rfl, rfl⟩⟩
  ·exact ⟨n, d, by omega, fn, fd, rfl, .inl ⟨rfl, rfl, h⟩⟩
 rw [hX]
 clear hX
 obtain ⟨hn0, ehn⟩ := kb n
 obtain ⟨hd0, ehd⟩ := kb d
 have zn := qe n
 have hszN := qU fn
 have hszD := qU fd
 have hpn : (0 : Int) < ((iB n).size : Int) := by omega
 have hpd : (0 : Int) < ((iB d).size : Int) := by omega
 have hpn1 : (1 : Int) ≤ ((iB n).size : Int) := by omega
 have hpd1 : (1 : Int) ≤ ((iB d).size : Int) := by omega
 have hcat : (9223372036854775807 < 1 + (iB n).size) = False := eq_false (by omega)
 have hcases : (((((iB d)[0]'hd0).toNat : Nat) : Int) == 45) = false ∧ iB n = iB n' ∧ iB d = iB d' ∨
  ((((((iB d)[0]'hd0).toNat : Nat) : Int) == 45) = true ∧ (iB d).extract 1 (iB d).size = iB d' ∧
    ((((((iB n)[0]'hn0).toNat : Nat) : Int) == 45) = true ∧ (iB n).extract 1 (iB n).size = iB n' ∨
     ((((((iB n)[0]'hn0).toNat : Nat) : Int) == 45) = false ∧ (((iB n).toList == [48]) = true ∧ iB n = iB n' ∨ ((iB n).toList == [48]) = false ∧ (⟨#[45]⟩ : ByteArray) ++ iB n = iB n')))) := by
  rcases hst with ⟨rfl, rfl, h⟩ | ⟨h, rfl, rfl⟩
  ·exact .inl ⟨by rw [ehd, decide_eq_false h], rfl, rfl⟩
  ·refine .inr ⟨by rw [ehd, decide_eq_true h], zS h, ?_⟩
   by_cases hn : n < 0
   ·exact .inl ⟨by rw [ehn, decide_eq_true hn], zS hn⟩
   ·refine .inr ⟨by rw [ehn, decide_eq_false hn], ?_⟩
    by_cases hz : n = 0
    ·exact .inl ⟨by rw [zn, decide_eq_true hz], by rw [hz]; rfl⟩
    ·exact .inr ⟨by rw [zn, decide_eq_false hz], yeZ (by omega)⟩
 clear hst ehn ehd zn fn fd hd
 obtain ⟨hn2, ehn2⟩ := kb n'
 have hs1 := qU fn'
 have hs2 := qU fd'
 have hq1 : (1 : Int) ≤ ((iB n').size : Int) := by omega
 have hq0 : (0 : Int) < ((iB n').size : Int) := by omega
 have hway : (((iB n').size : Int) ≤ 18 ∧ ((iB d').size : Int) ≤ 18) ∨ (((iB n').size : Int) ≤ 18 ∧ (((iB d').size : Int) ≤ 18) = False) ∨ (((iB n').size : Int) ≤ 18) = False := by
  by_cases a : (iB n').size ≤ 18
  ·by_cases b : (iB d').size ≤ 18
   ·exact .inl ⟨by omega, by omega⟩
   ·exact .inr (.inl ⟨by omega, eq_false (by omega)⟩)
  ·exact .inr (.inr (eq_false (by omega)))
 have HQ := hide (fun (h1 : ((iB n').size : Int) ≤ 18) (h2 : ((iB d').size : Int) ≤ 18) => show ∃ (u v : Nat), (u : Int) < 1000000000000000000 ∧ (d' = (v : Int)) ∧ (0 ≤ n' → n' = (u : Int)) ∧ (n' < 0 → n' = -(u : Int)) ∧
  (∀ w, Calls Tryz.prog 136 #[.string (iB d')] w (Ret w (.int .i64 v))) ∧
  (0 ≤ n' → ∀ w, Calls Tryz.prog 136 #[.string (iB n')] w (Ret w (.int .i64 u))) ∧
  (n' < 0 → ∀ w, Calls Tryz.prog 136 #[.string (iB (-n'))] w (Ret w (.int .i64 u))) ∧
  (∀ w, Calls Tryz.prog 83 #[.int .i64 n', .int .i64 v] w (Ret w (.string (T (Rat.divInt n' d'))))) from by
  have b1 := ydP (z := n') (by omega)
  have b2 := ydP (z := d') (by omega)
  refine ⟨n'.natAbs, d'.natAbs, by omega, by omega, fun _ => by omega, fun _ => by omega, ?_, ?_, ?_, ?_⟩
  ·intro w
   have e := yhU (z := d') (by omega)
   have h := zH (iB d') e.2 (by omega) w
   rw [e.1] at h
   exact h
  ·intro h0 w
   have e := yhU (z := n') h0
   have h := zH (iB n') e.2 (by omega) w
   rw [e.1] at h
   exact h
  ·intro h0 w
   have e := yhU (z := -n') (by omega)
   have l : (iB (-n')).size ≤ 18 := by
    have e2 := congrArg ByteArray.size (zS h0)
    rw [ByteArray.size_extract] at e2
    omega
   have h := zH (iB (-n')) e.2 l w
   rw [e.1, Int.natAbs_neg] at h
   exact h
  ·intro w
   have h := jl n' d'.natAbs (by omega) (by omega) (by omega) w
   rw [show ((d'.natAbs : Nat) : Int) = d' by omega] at h
   rw [show ((d'.natAbs : Nat) : Int) = d' by omega]
   exact h)
 obtain ⟨g, hg⟩ := xe (Nat.gcd n'.natAbs d'.natAbs)
 have hgp : 0 < g := by rw [hg]; exact Nat.gcd_pos_of_pos_right _ (by omega)
 have hgd : g ≤ d'.natAbs := by rw [hg]; exact Nat.gcd_le_right _ (by omega)
 have fg : fits ((g : Nat) : Int) := yi fd' (by omega)
 have HG := hide (fun w hB hT => yiE fn' fd' B w hB hT)
 have HV1 := hide (fun w hB hT => wP fn' fg (by omega) B w hB hT)
 have HV2 := hide (fun w hB hT => wP fd' fg (by omega) B w hB hT)
 rw [← hg] at HG
 have mt := ygm (n := n') hpos
 rw [← hg] at mt
 have fN1 : fits (n' / (g : Int)) := yi fn' (by
  rw [Int.natAbs_ediv_of_dvd (by rw [hg]; exact Int.ofNat_dvd_left.2 (Nat.gcd_dvd_left _ _)), Int.natAbs_natCast]
  exact Nat.div_le_self _ _)
 have fD1 : fits (d' / (g : Int)) := yi fd' (by
  rw [Int.natAbs_ediv_of_dvd (by rw [hg]; exact Int.ofNat_dvd_left.2 (Nat.gcd_dvd_right _ _)), Int.natAbs_natCast]
  exact Nat.div_le_self _ _)
 obtain ⟨N1, hN1⟩ := xe (n' / (g : Int))
 obtain ⟨D1, hD1⟩ := xe (d' / (g : Int))
 obtain ⟨R1, hR1⟩ := xe (iB (n' % (g : Int)))
 obtain ⟨R2, hR2⟩ := xe (iB (d' % (g : Int)))
 have hD1p : 0 ≤ D1 := by rw [hD1]; exact Int.ediv_nonneg (by omega) (by omega)
 rw [← hN1] at HV1 fN1 mt
 rw [← hD1] at HV2 fD1 mt
 rw [← hR1] at HV1
 rw [← hR2] at HV2
 obtain ⟨hn3, ehn3⟩ := kb N1
 have s1 := qU fN1
 have s1p : (0 : Int) < ((iB N1).size : Int) := by omega
 have s1q : (1 : Int) ≤ ((iB N1).size : Int) := by omega
 have s2 : (iB D1).size ≤ 300 := by
  rw [← yg, zx hD1p]
  exact zb.1 fD1
 have s2i : ((300 : Int) < ((iB D1).size : Int)) = False := eq_false (by omega)
 have s2n : (300 < (iB D1).size) = False := eq_false (by omega)
 have hM : (((((iB N1)[0]'hn3).toNat : Nat) : Int) == 45) = false ∧ ((300 : Int) < ((iB N1).size : Int)) = False ∨ (((((iB N1)[0]'hn3).toNat : Nat) : Int) == 45) = true ∧ ∃ M : ByteArray, (iB N1).extract 1 (iB N1).size = M ∧ ((300 : Int) < (M.size : Int)) = False := by
  by_cases h : N1 < 0
  ·refine .inr ⟨by rw [ehn3, decide_eq_true h], _, zS h, eq_false ?_⟩
   have := zb.1 fN1
   have e : (iB (-N1)).size = (Lib.decDigits N1.natAbs).length := by rw [← yg, zx (by omega), Int.natAbs_neg]
   omega
  ·refine .inl ⟨by rw [ehn3, decide_eq_false h], eq_false ?_⟩
   have := zb.1 fN1
   have e : (iB N1).size = (Lib.decDigits N1.natAbs).length := by rw [← yg, zx (by omega)]
   omega
 have hE : ((iB D1).toList == [49]) = true ∧ iB N1 = T (Rat.divInt n' d') ∨ ((iB D1).toList == [49]) = false ∧ iB N1 ++ ⟨#[47]⟩ ++ iB D1 = T (Rat.divInt n' d') := by
  rw [ydk]
  by_cases h : D1 = 1
  ·exact .inl ⟨decide_eq_true h, mt.1 h⟩
  ·exact .inr ⟨decide_eq_false h, mt.2 h⟩
 have c1 : (9223372036854775807 < (iB N1).size + 1) = False := eq_false (by omega)
 have c2 : (9223372036854775807 < (iB N1).size + 1 + (iB D1).size) = False := eq_false (by omega)
 have HM := hide hM
 have HE := hide hE
 have hsg : (((((iB n')[0]'hn2).toNat : Nat) : Int) == 45) = true ∧ n' < 0 ∧ (iB n').extract 1 (iB n').size = iB (-n') ∨ (((((iB n')[0]'hn2).toNat : Nat) : Int) == 45) = false ∧ 0 ≤ n' := by
  by_cases h : n' < 0
  ·exact .inl ⟨by rw [ehn2, decide_eq_true h], h, zS h⟩
  ·exact .inr ⟨by rw [ehn2, decide_eq_false h], by omega⟩
 obtain ⟨X, hX⟩ := xe (T (Rat.divInt n' d'))
 rw [← hX] at HQ HE ⊢
 obtain ⟨GB, hGB⟩ := xe (iB ((g : Nat) : Int))
 rw [← hGB] at HG HV1 HV2
 obtain ⟨NB, hNB⟩ := xe (iB N1)
 obtain ⟨DB, hDB⟩ := xe (iB D1)
 clear hM hE mt fN1 fD1 ehn3 ehn2 hN1 hD1 hR1 hR2 hD1p hg hgp hgd fg hX hGB hT s2 fn' fd' hs1 hs2
 subst hNB
 subst hDB
 generalize iB n = NN at hn0 hpn hpn1 hcat hszN hcases ⊢
 generalize iB d = DD at hd0 hpd hpd1 hszD hcases ⊢
 generalize iB (-n') = N3 at hsg HQ
 generalize iB n' = N2 at hn2 hq1 hq0 hcases hsg hway HQ HG HV1
 generalize iB d' = D2 at hcases hway HQ HG HV2
 rcases hcases with ⟨z1, rfl, rfl⟩ | ⟨z1, e2, ⟨z2, e1⟩ | ⟨z2, ⟨z3, rfl⟩ | ⟨z3, e1⟩⟩⟩
 case inl =>
  rcases hway with ⟨a1, a2⟩ | ⟨a1, a2⟩ | a1
  ·obtain ⟨u, v, hu, hv, hp, hm, HS2, HS1, HS3, HQQ⟩ := HQ.out a1 a2
   have HU2 := hide HS2
   rcases hsg with ⟨s1, hneg, e3⟩ | ⟨s1, hnn⟩
   ·have hn' := hm hneg
    have HU1 := hide (HS3 hneg)
    have HU3 := hide HQQ
    rw [hn'] at HU3
    clear HQ HG HV1 HV2 HM HE hv hp hm HS2 HS1 HS3 HQQ hn' hneg c1 c2 s2i s2n s1p s1q
    go_enter Tryz.func140, Tryz.ntmps140
    go_wp2_with fail
    refine (HU1.out _).mono ?_
    rintro e w1 ⟨rfl, hb1⟩
    have HB1 := hide hb1
    clear hb1
    go_wp2_with fail
    refine (HU2.out _).mono ?_
    rintro e w2 ⟨rfl, hb2⟩
    have HB2 := bt HB1 hb2
    clear hb2
    go_wp2_with fail
    refine (HU3.out _).mono ?_
    rintro e w3 ⟨rfl, hb3⟩
    have HB3 := bt HB2 hb3
    clear hb3
    go_wp2_with fail
    refine bodyPost_ret (results_tmp2 rfl _ _ _) rfl ?_
    exact ⟨rfl, HB3.out⟩
   ·have hn' := hp hnn
    have HU1 := hide (HS1 hnn)
    have HU3 := hide HQQ
    rw [hn'] at HU3
    clear HQ HG HV1 HV2 HM HE hv hp hm HS2 HS1 HS3 HQQ hn' hnn c1 c2 s2i s2n s1p s1q
    go_enter Tryz.func140, Tryz.ntmps140
    go_wp2_with fail
    refine (HU1.out _).mono ?_
    rintro e w1 ⟨rfl, hb1⟩
    have HB1 := hide hb1
    clear hb1
    go_wp2_with fail
    refine (HU2.out _).mono ?_
    rintro e w2 ⟨rfl, hb2⟩
    have HB2 := bt HB1 hb2
    clear hb2
    go_wp2_with fail
    refine (HU3.out _).mono ?_
    rintro e w3 ⟨rfl, hb3⟩
    have HB3 := bt HB2 hb3
    clear hb3
    go_wp2_with fail
    refine bodyPost_ret (results_tmp2 rfl _ _ _) rfl ?_
    exact ⟨rfl, HB3.out⟩
  all_goals
   clear HQ hsg
   rcases HE.out with ⟨t1, e9⟩ | ⟨t1, e9⟩ <;> rcases HM.out with ⟨m1, m2⟩ | ⟨m1, M, m3, m2⟩
   all_goals
    have E9 := hide e9
    clear e9 HE HM
    go_enter Tryz.func140, Tryz.ntmps140
    go_wp2_with fail
    refine (HG.out _ hB HT.out).mono ?_
    rintro e w1 ⟨rfl, hb1⟩
    have HB1 := hide hb1
    clear hb1
    go_wp2_with fail
    refine (HV1.out _ (Nat.le_trans hB HB1.out.size) (HT.out.on HB1.out hB)).mono ?_
    rintro e w2 ⟨rfl, hb2⟩
    have HB2 := bt HB1 hb2
    clear hb2
    go_wp2_with fail
    refine (HV2.out _ (Nat.le_trans hB HB2.out.size) (HT.out.on HB2.out hB)).mono ?_
    rintro e w3 ⟨rfl, hb3⟩
    have HB3 := bt HB2 hb3
    clear hb3
    go_wp2_with fail
    refine bodyPost_ret (results_tmp2 rfl _ _ _) rfl ?_
    exact ⟨by rw [← E9.out]; first | rfl | (simp; done), HB3.out⟩
 case inr.inl =>
  rcases hway with ⟨a1, a2⟩ | ⟨a1, a2⟩ | a1
  ·obtain ⟨u, v, hu, hv, hp, hm, HS2, HS1, HS3, HQQ⟩ := HQ.out a1 a2
   have HU2 := hide HS2
   rcases hsg with ⟨s1, hneg, e3⟩ | ⟨s1, hnn⟩
   ·have hn' := hm hneg
    have HU1 := hide (HS3 hneg)
    have HU3 := hide HQQ
    rw [hn'] at HU3
    clear HQ HG HV1 HV2 HM HE hv hp hm HS2 HS1 HS3 HQQ hn' hneg c1 c2 s2i s2n s1p s1q
    go_enter Tryz.func140, Tryz.ntmps140
    go_wp2_with fail
    refine (HU1.out _).mono ?_
    rintro e w1 ⟨rfl, hb1⟩
    have HB1 := hide hb1
    clear hb1
    go_wp2_with fail
    refine (HU2.out _).mono ?_
    rintro e w2 ⟨rfl, hb2⟩
    have HB2 := bt HB1 hb2
    clear hb2
    go_wp2_with fail
    refine (HU3.out _).mono ?_
    rintro e w3 ⟨rfl, hb3⟩
    have HB3 := bt HB2 hb3
    clear hb3
    go_wp2_with fail
    refine bodyPost_ret (results_tmp2 rfl _ _ _) rfl ?_
    exact ⟨rfl, HB3.out⟩
   ·have hn' := hp hnn
    have HU1 := hide (HS1 hnn)
    have HU3 := hide HQQ
    rw [hn'] at HU3
    clear HQ HG HV1 HV2 HM HE hv hp hm HS2 HS1 HS3 HQQ hn' hnn c1 c2 s2i s2n s1p s1q
    go_enter Tryz.func140, Tryz.ntmps140
    go_wp2_with fail
    refine (HU1.out _).mono ?_
    rintro e w1 ⟨rfl, hb1⟩
    have HB1 := hide hb1
    clear hb1
    go_wp2_with fail
    refine (HU2.out _).mono ?_
    rintro e w2 ⟨rfl, hb2⟩
    have HB2 := bt HB1 hb2
    clear hb2
    go_wp2_with fail
    refine (HU3.out _).mono ?_
    rintro e w3 ⟨rfl, hb3⟩
    have HB3 := bt HB2 hb3
    clear hb3
    go_wp2_with fail
    refine bodyPost_ret (results_tmp2 rfl _ _ _) rfl ?_
    exact ⟨rfl, HB3.out⟩
  all_goals
   clear HQ hsg
   rcases HE.out with ⟨t1, e9⟩ | ⟨t1, e9⟩ <;> rcases HM.out with ⟨m1, m2⟩ | ⟨m1, M, m3, m2⟩
   all_goals
    have E9 := hide e9
    clear e9 HE HM
    go_enter Tryz.func140, Tryz.ntmps140
    go_wp2_with fail
    refine (HG.out _ hB HT.out).mono ?_
    rintro e w1 ⟨rfl, hb1⟩
    have HB1 := hide hb1
    clear hb1
    go_wp2_with fail
    refine (HV1.out _ (Nat.le_trans hB HB1.out.size) (HT.out.on HB1.out hB)).mono ?_
    rintro e w2 ⟨rfl, hb2⟩
    have HB2 := bt HB1 hb2
    clear hb2
    go_wp2_with fail
    refine (HV2.out _ (Nat.le_trans hB HB2.out.size) (HT.out.on HB2.out hB)).mono ?_
    rintro e w3 ⟨rfl, hb3⟩
    have HB3 := bt HB2 hb3
    clear hb3
    go_wp2_with fail
    refine bodyPost_ret (results_tmp2 rfl _ _ _) rfl ?_
    exact ⟨by rw [← E9.out]; first | rfl | (simp; done), HB3.out⟩
 case inr.inr.inl =>
  rcases hway with ⟨a1, a2⟩ | ⟨a1, a2⟩ | a1
  ·obtain ⟨u, v, hu, hv, hp, hm, HS2, HS1, HS3, HQQ⟩ := HQ.out a1 a2
   have HU2 := hide HS2
   obtain ⟨s1, hnn⟩ := hsg.resolve_left (fun h => by rw [z2] at h; exact absurd h.1 (by decide))
   clear s1
   ·have hn' := hp hnn
    have HU1 := hide (HS1 hnn)
    have HU3 := hide HQQ
    rw [hn'] at HU3
    clear HQ HG HV1 HV2 HM HE hv hp hm HS2 HS1 HS3 HQQ hn' hnn c1 c2 s2i s2n s1p s1q
    go_enter Tryz.func140, Tryz.ntmps140
    go_wp2_with fail
    refine (HU1.out _).mono ?_
    rintro e w1 ⟨rfl, hb1⟩
    have HB1 := hide hb1
    clear hb1
    go_wp2_with fail
    refine (HU2.out _).mono ?_
    rintro e w2 ⟨rfl, hb2⟩
    have HB2 := bt HB1 hb2
    clear hb2
    go_wp2_with fail
    refine (HU3.out _).mono ?_
    rintro e w3 ⟨rfl, hb3⟩
    have HB3 := bt HB2 hb3
    clear hb3
    go_wp2_with fail
    refine bodyPost_ret (results_tmp2 rfl _ _ _) rfl ?_
    exact ⟨rfl, HB3.out⟩
  all_goals
   clear HQ hsg
   rcases HE.out with ⟨t1, e9⟩ | ⟨t1, e9⟩ <;> rcases HM.out with ⟨m1, m2⟩ | ⟨m1, M, m3, m2⟩
   all_goals
    have E9 := hide e9
    clear e9 HE HM
    go_enter Tryz.func140, Tryz.ntmps140
    go_wp2_with fail
    refine (HG.out _ hB HT.out).mono ?_
    rintro e w1 ⟨rfl, hb1⟩
    have HB1 := hide hb1
    clear hb1
    go_wp2_with fail
    refine (HV1.out _ (Nat.le_trans hB HB1.out.size) (HT.out.on HB1.out hB)).mono ?_
    rintro e w2 ⟨rfl, hb2⟩
    have HB2 := bt HB1 hb2
    clear hb2
    go_wp2_with fail
    refine (HV2.out _ (Nat.le_trans hB HB2.out.size) (HT.out.on HB2.out hB)).mono ?_
    rintro e w3 ⟨rfl, hb3⟩
    have HB3 := bt HB2 hb3
    clear hb3
    go_wp2_with fail
    refine bodyPost_ret (results_tmp2 rfl _ _ _) rfl ?_
    exact ⟨by rw [← E9.out]; first | rfl | (simp; done), HB3.out⟩
 case inr.inr.inr =>
  rcases hway with ⟨a1, a2⟩ | ⟨a1, a2⟩ | a1
  ·obtain ⟨u, v, hu, hv, hp, hm, HS2, HS1, HS3, HQQ⟩ := HQ.out a1 a2
   have HU2 := hide HS2
   rcases hsg with ⟨s1, hneg, e3⟩ | ⟨s1, hnn⟩
   ·have hn' := hm hneg
    have HU1 := hide (HS3 hneg)
    have HU3 := hide HQQ
    rw [hn'] at HU3
    clear HQ HG HV1 HV2 HM HE hv hp hm HS2 HS1 HS3 HQQ hn' hneg c1 c2 s2i s2n s1p s1q
    go_enter Tryz.func140, Tryz.ntmps140
    go_wp2_with fail
    refine (HU1.out _).mono ?_
    rintro e w1 ⟨rfl, hb1⟩
    have HB1 := hide hb1
    clear hb1
    go_wp2_with fail
    refine (HU2.out _).mono ?_
    rintro e w2 ⟨rfl, hb2⟩
    have HB2 := bt HB1 hb2
    clear hb2
    go_wp2_with fail
    refine (HU3.out _).mono ?_
    rintro e w3 ⟨rfl, hb3⟩
    have HB3 := bt HB2 hb3
    clear hb3
    go_wp2_with fail
    refine bodyPost_ret (results_tmp2 rfl _ _ _) rfl ?_
    exact ⟨rfl, HB3.out⟩
   ·have hn' := hp hnn
    have HU1 := hide (HS1 hnn)
    have HU3 := hide HQQ
    rw [hn'] at HU3
    clear HQ HG HV1 HV2 HM HE hv hp hm HS2 HS1 HS3 HQQ hn' hnn c1 c2 s2i s2n s1p s1q
    go_enter Tryz.func140, Tryz.ntmps140
    go_wp2_with fail
    refine (HU1.out _).mono ?_
    rintro e w1 ⟨rfl, hb1⟩
    have HB1 := hide hb1
    clear hb1
    go_wp2_with fail
    refine (HU2.out _).mono ?_
    rintro e w2 ⟨rfl, hb2⟩
    have HB2 := bt HB1 hb2
    clear hb2
    go_wp2_with fail
    refine (HU3.out _).mono ?_
    rintro e w3 ⟨rfl, hb3⟩
    have HB3 := bt HB2 hb3
    clear hb3
    go_wp2_with fail
    refine bodyPost_ret (results_tmp2 rfl _ _ _) rfl ?_
    exact ⟨rfl, HB3.out⟩
  all_goals
   clear HQ hsg
   rcases HE.out with ⟨t1, e9⟩ | ⟨t1, e9⟩ <;> rcases HM.out with ⟨m1, m2⟩ | ⟨m1, M, m3, m2⟩
   all_goals
    have E9 := hide e9
    clear e9 HE HM
    go_enter Tryz.func140, Tryz.ntmps140
    go_wp2_with fail
    refine (HG.out _ hB HT.out).mono ?_
    rintro e w1 ⟨rfl, hb1⟩
    have HB1 := hide hb1
    clear hb1
    go_wp2_with fail
    refine (HV1.out _ (Nat.le_trans hB HB1.out.size) (HT.out.on HB1.out hB)).mono ?_
    rintro e w2 ⟨rfl, hb2⟩
    have HB2 := bt HB1 hb2
    clear hb2
    go_wp2_with fail
    refine (HV2.out _ (Nat.le_trans hB HB2.out.size) (HT.out.on HB2.out hB)).mono ?_
    rintro e w3 ⟨rfl, hb3⟩
    have HB3 := bt HB2 hb3
    clear hb3
    go_wp2_with fail
    refine bodyPost_ret (results_tmp2 rfl _ _ _) rfl ?_
    exact ⟨by rw [← E9.out]; first | rfl | (simp; done), HB3.out⟩
end Go.Proofs.YtklgpilgalfckaaGreatDoor
namespace Go.KI
open Go
theorem ybs {z : Int} (h : fits z) : fits (-z) := yi h (by omega)
theorem yf6 {q : Rat} (h : fitsQ q) : fitsQ (-q) := ⟨by rw [Rat.neg_num]; exact ybs h.1, by rw [Rat.neg_den]; exact h.2⟩
theorem yd9 (x y : Rat) : addC x (-y) ↔ subC x y := by
 unfold addC subC
 rw [Rat.neg_num, Rat.neg_den, Int.neg_mul, ← Int.sub_eq_add_neg]
 constructor
 ·rintro ⟨a, b, c, d⟩
  exact ⟨a, by have := ybs b; rwa [Int.neg_neg] at this, c, d⟩
 ·rintro ⟨a, b, c, d⟩
  exact ⟨a, ybs b, c, d⟩
theorem prod9 {a b : Int} (ha : a.natAbs < 1000000000) (hb : b.natAbs < 1000000000) : (a * b).natAbs < 1000000000000000000 := by
 rw [Int.natAbs_mul]
 exact Nat.lt_of_lt_of_le (Nat.mul_lt_mul'' ha hb) (by decide)
theorem vA {q : Rat} (h : shortQ q) : sz 9 q := ⟨(zD h).1, (zD h).2⟩
end Go.KI
namespace Go.Proofs.YtklgpilgalfckaaGreatDoor
open Go.RowKit Go.KP Go.KI Go.Shelf
attribute [local go_sem] Oper.semAt_some

abbrev noB : ByteArray := ⟨#[]⟩
theorem qk {a b c d : Int} (fa : fits a) (fb : fits b) (fc : fits c) (fd : fits d) (h : ¬ (fits (a * b) ∧ fits (c * d))) (B : Nat) (w : World) (hB : B ≤ w.heap.size) (hT : P10 B w) :
 ∃ x y : ByteArray, Calls Tryz.prog 139 #[.string (iB a), .string (iB b), .string (iB c), .string (iB d)] w (Ret w (.tuple #[.string x, .string y, .int .i64 4])) := by
 have HT := hide hT
 have H1 := hide (fun w hB hT => ycp fa fb B w hB hT)
 have H2 := hide (fun w hB hT => ycp fc fd B w hB hT)
 obtain ⟨A, hA⟩ := xe (iB a)
 obtain ⟨B', hB'⟩ : ∃ x, x = iB b := ⟨_, rfl⟩
 obtain ⟨C, hC⟩ := xe (iB c)
 obtain ⟨D, hD⟩ := xe (iB d)
 simp only [← hA, ← hB', ← hC, ← hD] at *
 clear hA hB' hC hD
 by_cases h1 : fits (a * b)
 ·have h2 : ¬ fits (c * d) := fun e => h ⟨h1, e⟩
  rw [xu h1] at H1
  rw [ycR h2] at H2
  obtain ⟨X, hX⟩ := xe (iB (a * b))
  rw [← hX] at H1
  refine ⟨X, noB, ?_⟩
  clear hX h h1 h2 fa fb fc fd hT
  go_enter Tryz.func139, Tryz.ntmps139
  go_wp2_with fail
  refine (H1.out _ hB HT.out).mono ?_
  rintro e w1 ⟨rfl, hb1⟩
  have HB1 := hide hb1
  clear hb1
  go_wp2_with fail
  refine (H2.out _ (Nat.le_trans hB HB1.out.size) (HT.out.on HB1.out hB)).mono ?_
  rintro e w2 ⟨rfl, hb2⟩
  have HB2 := bt HB1 hb2
  clear hb2
  go_wp2_with fail
  refine ret3v rfl rfl rfl rfl rfl ?_
  exact ⟨rfl, HB2.out⟩
 ·rw [ycR h1] at H1
  refine ⟨noB, noB, ?_⟩
  clear h h1 fa fb fc fd hT H2
  go_enter Tryz.func139, Tryz.ntmps139
  go_wp2_with fail
  refine (H1.out _ hB HT.out).mono ?_
  rintro e w1 ⟨rfl, hb1⟩
  have HB1 := hide hb1
  clear hb1
  go_wp2_with fail
  refine ret3v rfl rfl rfl rfl rfl ?_
  exact ⟨rfl, HB1.out⟩
theorem qa {a b c d : Int} (fa : fits a) (fb : fits b) (fc : fits c) (fd : fits d) (h1 : fits (a * b)) (h2 : fits (c * d)) (B : Nat) (w : World) (hB : B ≤ w.heap.size) (hT : P10 B w) :
 Calls Tryz.prog 139 #[.string (iB a), .string (iB b), .string (iB c), .string (iB d)] w (Ret w (.tuple #[.string (iB (a * b)), .string (iB (c * d)), .int .i64 0])) := by
 have HT := hide hT
 have H1 := hide (fun w hB hT => ycp fa fb B w hB hT)
 have H2 := hide (fun w hB hT => ycp fc fd B w hB hT)
 rw [xu h1] at H1
 rw [xu h2] at H2
 obtain ⟨A, hA⟩ := xe (iB a)
 obtain ⟨B', hB'⟩ : ∃ x, x = iB b := ⟨_, rfl⟩
 obtain ⟨C, hC⟩ := xe (iB c)
 obtain ⟨D, hD⟩ := xe (iB d)
 obtain ⟨X, hX⟩ := xe (iB (a * b))
 obtain ⟨Y, hY⟩ := xe (iB (c * d))
 simp only [← hA, ← hB', ← hC, ← hD, ← hX, ← hY] at *
 clear hA hB' hC hD hX hY h1 h2 fa fb fc fd hT
 go_enter Tryz.func139, Tryz.ntmps139
 go_wp2_with fail
 refine (H1.out _ hB HT.out).mono ?_
 rintro e w1 ⟨rfl, hb1⟩
 have HB1 := hide hb1
 clear hb1
 go_wp2_with fail
 refine (H2.out _ (Nat.le_trans hB HB1.out.size) (HT.out.on HB1.out hB)).mono ?_
 rintro e w2 ⟨rfl, hb2⟩
 have HB2 := bt HB1 hb2
 clear hb2
 go_wp2_with fail
 refine ret3v rfl rfl rfl rfl rfl ?_
 exact ⟨rfl, HB2.out⟩
def opV (o : Option Rat) : Value := match o with | some q => .tuple #[.string (T q), .int .i64 0] | none => .tuple #[.string noB, .int .i64 4]
theorem yfs {x y : Rat} (fx : fitsQ x) (fy : fitsQ y) (B : Nat) (w : World) (hB : B ≤ w.heap.size) (hT : PQ B w) :
 Calls Tryz.prog 86 #[.string (T x), .string (T y)] w (Ret w (opV (addO x y))) := by
 have HT := hide hT
 have HI1 := hide (fun w => xj fx w)
 have HI2 := hide (fun w => xj fy w)
 have HP1 := hide (fun w => zQ fx w)
 have HP2 := hide (fun w => zQ fy w)
 unfold intsQ at HI1 HI2
 obtain ⟨S, hS⟩ := xe (T x)
 obtain ⟨U, hU⟩ := xe (T y)
 rw [← hS, ← hU]
 rw [← hS] at HI1 HP1
 rw [← hU] at HI2 HP2
 clear hS hU hT
 by_cases hs : shortQ x ∧ shortQ y
 ·rw [if_pos hs.1] at HI1
  rw [if_pos hs.2] at HI2
  obtain ⟨a1, a2⟩ := zD hs.1
  obtain ⟨b1, b2⟩ := zD hs.2
  have ap := x.den_pos
  have bp := y.den_pos
  rw [ydd (vA hs.1) (vA hs.2) (by rw [yC]; omega)]
  unfold opV
  have hdiv := qu x y
  have m1 := prod9 (a := x.num) (b := (y.den : Int)) a1 (by omega)
  have m2 := prod9 (a := y.num) (b := (x.den : Int)) b1 (by omega)
  have m3 := prod9 (a := (x.den : Int)) (b := (y.den : Int)) (by omega) (by omega)
  have m4 : 0 < x.den * y.den := Nat.mul_pos ap bp
  have m5 : ((x.den * y.den : Nat) : Int) = (x.den : Int) * (y.den : Int) := by push_cast; rfl
  have HQ := hide (fun w => jl (x.num * y.den + y.num * x.den) (x.den * y.den) (by omega) (by omega) m4 w)
  rw [m5, hdiv] at HQ
  obtain ⟨R, hR⟩ := xe (T (x + y))
  have hR2 : strB (ratS (x + y)) = R := hR.symm
  rw [hR2] at HQ
  dsimp only
  rw [← hR]
  obtain ⟨n, hn⟩ := xe x.num
  obtain ⟨d, hd⟩ := xe (x.den : Int)
  obtain ⟨m, hm⟩ := xe y.num
  obtain ⟨c, hc⟩ := xe (y.den : Int)
  simp only [← hn, ← hd, ← hm, ← hc] at HI1 HI2 HQ m1 m2 m3
  have v1 : IntKind.i64.wrap (n * c) = n * c := IntWalk.i64_in _ (by omega)
  have v2 : IntKind.i64.wrap (m * d) = m * d := IntWalk.i64_in _ (by omega)
  have v3 : IntKind.i64.wrap (d * c) = d * c := IntWalk.i64_in _ (by omega)
  have v4 : IntKind.i64.wrap (n * c + m * d) = n * c + m * d := IntWalk.i64_in _ (by omega)
  clear hR hR2 hdiv m1 m2 m3 m4 m5 hs a1 a2 b1 b2 ap bp hn hd hm hc HP1 HP2 fx fy
  go_enter Tryz.func86, Tryz.ntmps86
  go_wp2_with fail
  refine (HI1.out _).mono ?_
  rintro e w1 ⟨rfl, hb1⟩
  have HB1 := hide hb1
  clear hb1
  go_wp2_with fail
  refine (HI2.out _).mono ?_
  rintro e w2 ⟨rfl, hb2⟩
  have HB2 := bt HB1 hb2
  clear hb2
  go_wp2_with fail
  refine (HQ.out _).mono ?_
  rintro e w3 ⟨rfl, hb3⟩
  have HB3 := bt HB2 hb3
  clear hb3
  go_wp2_with fail
  refine bodyPost_ret (results_tmp2 rfl _ _ _) rfl ?_
  exact ⟨rfl, HB3.out⟩
 ·have hway : (∃ v1 v2 : Int, ∃ b1 b2 : Bool, ∃ v3 v4 : Int, Hid (∀ w, Calls Tryz.prog 82 #[.string S] w (Ret w (.tuple #[.int .i64 v1, .int .i64 v2, .bool b1]))) ∧ Hid (∀ w, Calls Tryz.prog 82 #[.string U] w (Ret w (.tuple #[.int .i64 v3, .int .i64 v4, .bool b2]))) ∧ (b1 = false ∨ (b1 = true ∧ b2 = false))) := by
   by_cases h1 : shortQ x
   ·have h2 : ¬ shortQ y := fun e => hs ⟨h1, e⟩
    rw [if_pos h1] at HI1
    rw [if_neg h2] at HI2
    exact ⟨_, _, _, _, _, _, HI1, HI2, .inr ⟨rfl, rfl⟩⟩
   ·rw [if_neg h1] at HI1
    by_cases h2 : shortQ y
    ·rw [if_pos h2] at HI2
     exact ⟨_, _, _, _, _, _, HI1, HI2, .inl rfl⟩
    ·rw [if_neg h2] at HI2
     exact ⟨_, _, _, _, _, _, HI1, HI2, .inl rfl⟩
  clear HI1 HI2 hs
  obtain ⟨i1, i2, b1, b2, i3, i4, HI1, HI2, hb⟩ := hway
  obtain ⟨n, hn⟩ := xe x.num
  obtain ⟨d, hd⟩ := xe (x.den : Int)
  obtain ⟨m, hm⟩ := xe y.num
  obtain ⟨c, hc⟩ := xe (y.den : Int)
  have hd0 : 0 < d := by have := x.den_pos; omega
  have hc0 : 0 < c := by have := y.den_pos; omega
  have fn : fits n := by rw [hn]; exact fx.1
  have fd : fits d := by rw [hd]; exact fx.2
  have fm : fits m := by rw [hm]; exact fy.1
  have fc : fits c := by rw [hc]; exact fy.2
  have hdiv := qu x y
  have hO : addO x y = if fits (n * c) ∧ fits (m * d) ∧ fits (n * c + m * d) ∧ fits (d * c) then some (x + y) else none := by
   rw [hn, hd, hm, hc]
   unfold addO
   by_cases h : addC x y
   ·exact (if_pos h).trans (if_pos h).symm
   ·exact (if_neg h).trans (if_neg h).symm
  simp only [← hn, ← hd, ← hm, ← hc] at HP1 HP2 hdiv
  rw [hO]
  have e1 := iB1
  have f1 : fits 1 := ybG
  have hdc : d * c ≠ 0 := by have := Int.mul_pos hd0 hc0; omega
  have HPY := hide (fun (h1 : fits (n * c)) (h2 : fits (m * d)) w hB hT => qa fn fc fm fd h1 h2 B w hB hT)
  have HPN := hide (fun (h : ¬ (fits (n * c) ∧ fits (m * d))) w hB hT => qk fn fc fm fd h B w hB hT)
  have HPY2 := hide (fun (h1 : fits (d * c)) w hB hT => qa fd fc f1 f1 h1 (by rw [Int.mul_one]; exact f1) B w hB hT)
  have HPN2 := hide (fun (h : ¬ (fits (d * c) ∧ fits (1 * 1))) w hB hT => qk fd fc f1 f1 h B w hB hT)
  have HAD := hide (fun (h1 : fits (n * c)) (h2 : fits (m * d)) w hB hT => yiA h1 h2 B w hB hT)
  have HMK := hide (fun (h1 : fits (n * c + m * d)) (h2 : fits (d * c)) w hB hT => yaD hdc h1 h2 B w hB hT)
  rw [hdiv] at HMK
  rw [Int.mul_one] at HPY2 HPN2
  rw [e1] at HPY2 HPN2
  obtain ⟨NB, hNB⟩ := xe (iB n)
  obtain ⟨DB, hDB⟩ := xe (iB d)
  obtain ⟨MB, hMB⟩ := xe (iB m)
  obtain ⟨CB, hCB⟩ := xe (iB c)
  obtain ⟨PB, hPB⟩ := xe (iB (n * c))
  obtain ⟨QB, hQB⟩ := xe (iB (m * d))
  obtain ⟨DC, hDC⟩ := xe (iB (d * c))
  simp only [← hNB, ← hDB, ← hMB, ← hCB, ← hPB, ← hQB, ← hDC] at HP1 HP2 HPY HPN HPY2 HPN2 HAD HMK
  clear hNB hDB hMB hCB hPB hQB hDC hn hd hm hc hd0 hc0 hdiv hO hdc e1 fn fd fm fc fx fy
  by_cases c1 : fits (n * c) ∧ fits (m * d)
  rotate_left
  ·rw [if_neg (fun e => c1 ⟨e.1, e.2.1⟩)]
   unfold opV
   have HN := hide (HPN.out c1)
   clear HPY HPN HPY2 HPN2 HAD HMK c1
   rcases hb with rfl | ⟨rfl, rfl⟩
   all_goals
    go_enter Tryz.func86, Tryz.ntmps86
    go_wp2_with fail
    refine (HI1.out _).mono ?_
    rintro e w1 ⟨rfl, hb1⟩
    have HB1 := hide hb1
    clear hb1
    go_wp2_with fail
    refine (HI2.out _).mono ?_
    rintro e w2 ⟨rfl, hb2⟩
    have HB2 := bt HB1 hb2
    clear hb2
    go_wp2_with fail
    refine (HP1.out _).mono ?_
    rintro e w3 ⟨rfl, hb3⟩
    have HB3 := bt HB2 hb3
    clear hb3
    go_wp2_with fail
    refine (HP2.out _).mono ?_
    rintro e w4 ⟨rfl, hb4⟩
    have HB4 := bt HB3 hb4
    clear hb4
    go_wp2_with fail
    obtain ⟨X, Y, hXY⟩ := HN.out _ (Nat.le_trans hB HB4.out.size) (HT.out.p10.on HB4.out hB)
    refine hXY.mono ?_
    rintro e w5 ⟨rfl, hb5⟩
    have HB5 := bt HB4 hb5
    clear hb5 hXY
    go_wp2_with fail
    refine bodyPost_ret (results_tmp2 rfl _ _ _) rfl ?_
    exact ⟨rfl, HB5.out⟩
  have H1 := hide (HPY.out c1.1 c1.2)
  by_cases c2 : fits (d * c)
  rotate_left
  ·rw [if_neg (fun e => c2 e.2.2.2)]
   unfold opV
   have HN := hide (HPN2.out (fun e => c2 e.1))
   clear HPY HPN HPY2 HPN2 HAD HMK c1 c2
   rcases hb with rfl | ⟨rfl, rfl⟩
   all_goals
    go_enter Tryz.func86, Tryz.ntmps86
    go_wp2_with fail
    refine (HI1.out _).mono ?_
    rintro e w1 ⟨rfl, hb1⟩
    have HB1 := hide hb1
    clear hb1
    go_wp2_with fail
    refine (HI2.out _).mono ?_
    rintro e w2 ⟨rfl, hb2⟩
    have HB2 := bt HB1 hb2
    clear hb2
    go_wp2_with fail
    refine (HP1.out _).mono ?_
    rintro e w3 ⟨rfl, hb3⟩
    have HB3 := bt HB2 hb3
    clear hb3
    go_wp2_with fail
    refine (HP2.out _).mono ?_
    rintro e w4 ⟨rfl, hb4⟩
    have HB4 := bt HB3 hb4
    clear hb4
    go_wp2_with fail
    refine (H1.out _ (Nat.le_trans hB HB4.out.size) (HT.out.p10.on HB4.out hB)).mono ?_
    rintro e w5 ⟨rfl, hb5⟩
    have HB5 := bt HB4 hb5
    clear hb5
    go_wp2_with fail
    obtain ⟨X, Y, hXY⟩ := HN.out _ (Nat.le_trans hB HB5.out.size) (HT.out.p10.on HB5.out hB)
    refine hXY.mono ?_
    rintro e w6 ⟨rfl, hb6⟩
    have HB6 := bt HB5 hb6
    clear hb6 hXY
    go_wp2_with fail
    refine bodyPost_ret (results_tmp2 rfl _ _ _) rfl ?_
    exact ⟨rfl, HB6.out⟩
  have H2 := hide (HPY2.out c2)
  have H3 := hide (HAD.out c1.1 c1.2)
  by_cases c3 : fits (n * c + m * d)
  rotate_left
  ·rw [if_neg (fun e => c3 e.2.2.1)]
   unfold opV
   rw [ycR c3] at H3
   clear HPY HPN HPY2 HPN2 HAD HMK c1 c2 c3
   rcases hb with rfl | ⟨rfl, rfl⟩
   all_goals
    go_enter Tryz.func86, Tryz.ntmps86
    go_wp2_with fail
    refine (HI1.out _).mono ?_
    rintro e w1 ⟨rfl, hb1⟩
    have HB1 := hide hb1
    clear hb1
    go_wp2_with fail
    refine (HI2.out _).mono ?_
    rintro e w2 ⟨rfl, hb2⟩
    have HB2 := bt HB1 hb2
    clear hb2
    go_wp2_with fail
    refine (HP1.out _).mono ?_
    rintro e w3 ⟨rfl, hb3⟩
    have HB3 := bt HB2 hb3
    clear hb3
    go_wp2_with fail
    refine (HP2.out _).mono ?_
    rintro e w4 ⟨rfl, hb4⟩
    have HB4 := bt HB3 hb4
    clear hb4
    go_wp2_with fail
    refine (H1.out _ (Nat.le_trans hB HB4.out.size) (HT.out.p10.on HB4.out hB)).mono ?_
    rintro e w5 ⟨rfl, hb5⟩
    have HB5 := bt HB4 hb5
    clear hb5
    go_wp2_with fail
    refine (H2.out _ (Nat.le_trans hB HB5.out.size) (HT.out.p10.on HB5.out hB)).mono ?_
    rintro e w6 ⟨rfl, hb6⟩
    have HB6 := bt HB5 hb6
    clear hb6
    go_wp2_with fail
    refine (H3.out _ (Nat.le_trans hB HB6.out.size) (HT.out.p10.on HB6.out hB)).mono ?_
    rintro e w7 ⟨rfl, hb7⟩
    have HB7 := bt HB6 hb7
    clear hb7
    go_wp2_with fail
    refine bodyPost_ret (results_tmp2 rfl _ _ _) rfl ?_
    exact ⟨rfl, HB7.out⟩
  rw [if_pos ⟨c1.1, c1.2, c3, c2⟩]
  unfold opV
  rw [xu c3] at H3
  have H4 := hide (HMK.out c3 c2)
  obtain ⟨SB, hSB⟩ := xe (iB (n * c + m * d))
  obtain ⟨R, hR⟩ := xe (T (x + y))
  rw [← hSB] at H3 H4
  rw [← hR] at H4
  dsimp only
  rw [← hR]
  clear HPY HPN HPY2 HPN2 HAD HMK c1 c2 c3 hSB hR
  rcases hb with rfl | ⟨rfl, rfl⟩
  all_goals
   go_enter Tryz.func86, Tryz.ntmps86
   go_wp2_with fail
   refine (HI1.out _).mono ?_
   rintro e w1 ⟨rfl, hb1⟩
   have HB1 := hide hb1
   clear hb1
   go_wp2_with fail
   refine (HI2.out _).mono ?_
   rintro e w2 ⟨rfl, hb2⟩
   have HB2 := bt HB1 hb2
   clear hb2
   go_wp2_with fail
   refine (HP1.out _).mono ?_
   rintro e w3 ⟨rfl, hb3⟩
   have HB3 := bt HB2 hb3
   clear hb3
   go_wp2_with fail
   refine (HP2.out _).mono ?_
   rintro e w4 ⟨rfl, hb4⟩
   have HB4 := bt HB3 hb4
   clear hb4
   go_wp2_with fail
   refine (H1.out _ (Nat.le_trans hB HB4.out.size) (HT.out.p10.on HB4.out hB)).mono ?_
   rintro e w5 ⟨rfl, hb5⟩
   have HB5 := bt HB4 hb5
   clear hb5
   go_wp2_with fail
   refine (H2.out _ (Nat.le_trans hB HB5.out.size) (HT.out.p10.on HB5.out hB)).mono ?_
   rintro e w6 ⟨rfl, hb6⟩
   have HB6 := bt HB5 hb6
   clear hb6
   go_wp2_with fail
   refine (H3.out _ (Nat.le_trans hB HB6.out.size) (HT.out.p10.on HB6.out hB)).mono ?_
   rintro e w7 ⟨rfl, hb7⟩
   have HB7 := bt HB6 hb7
   clear hb7
   go_wp2_with fail
   refine (H4.out _ (Nat.le_trans hB HB7.out.size) (HT.out.p10.on HB7.out hB)).mono ?_
   rintro e w8 ⟨rfl, hb8⟩
   have HB8 := bt HB7 hb8
   clear hb8
   go_wp2_with fail
   refine bodyPost_ret (results_tmp2 rfl _ _ _) rfl ?_
   exact ⟨rfl, HB8.out⟩
end Go.Proofs.YtklgpilgalfckaaGreatDoor
namespace Go.KI
open Go
theorem ydX (x y : Rat) : Lib.compareInt (x.num * y.den) (y.num * x.den) = cmpR x y := cmpQ x y
end Go.KI
namespace Go.Proofs.YtklgpilgalfckaaGreatDoor
open Go.RowKit Go.KP Go.KI Go.Shelf
attribute [local go_sem] Oper.semAt_some

theorem yam (q : Rat) : ratS q = Lib.itoa q.num ++ (if q.den = 1 then [] else 47 :: Lib.decDigits q.den) := by
 unfold ratS
 by_cases h : q.den = 1
 ·rw [if_pos h, if_pos h, List.append_nil]
 ·rw [if_neg h, if_neg h]
theorem ygy (q : Rat) : ∃ h : 0 < (T q).size, (((((T q)[0]'h).toNat : Nat) : Int) == 45) = decide (q.num < 0) := by
 have hne : (T q).data.toList ≠ [] := by
  rw [yI, yam]
  intro e
  have e2 := (List.append_eq_nil_iff.1 e).1
  rcases yo q.num with ⟨_, a⟩ | ⟨_, a⟩ <;> rw [a] at e2
  ·cases e2
  ·exact yw _ e2
 obtain ⟨hp, hh⟩ := yT hne
 refine ⟨hp, ?_⟩
 rw [yI] at hh
 have h2 := qI (q := q)
 rw [hh] at h2
 by_cases h : q.num < 0
 ·have h3 := h2.2 h
  injection h3 with h3
  rw [h3, decide_eq_true h]
  rfl
 ·rw [decide_eq_false h]
  simp only [beq_eq_false_iff_ne, ne_eq]
  intro e
  refine h (h2.1 ?_)
  congr 1
  apply UInt8.toNat_inj.1
  have e2 : (45 : UInt8).toNat = 45 := rfl
  omega
theorem yeC {q : Rat} (h : q.num < 0) : (T q).extract 1 (T q).size = T (-q) := by
 rw [qR, yI]
 apply yp
 rw [yh, yI, yam, yam, Rat.neg_num, Rat.neg_den]
 rcases yo q.num with ⟨_, a⟩ | ⟨a, _⟩
 ·rcases yo (-q.num) with ⟨b, _⟩ | ⟨_, b⟩
  ·omega
  ·rw [a, b, Int.natAbs_neg]
   rfl
 ·omega
theorem yfM {q : Rat} (h : 0 < q.num) : (⟨#[45]⟩ : ByteArray) ++ T q = T (-q) := by
 apply yp
 have e : ((⟨#[45]⟩ : ByteArray) ++ T q).data.toList = 45 :: (T q).data.toList := by simp
 rw [e, yI, yI, yam, yam, Rat.neg_num, Rat.neg_den]
 rcases yo q.num with ⟨a, _⟩ | ⟨_, a⟩
 ·omega
 ·rcases yo (-q.num) with ⟨_, b⟩ | ⟨b, _⟩
  ·rw [a, b, Int.natAbs_neg]
   rfl
  ·omega
theorem yh6 (q : Rat) : ((T q).toList == [48]) = decide (q = 0) := by
 rw [ybt (yI q)]
 have h0 : ratS 0 = [48] := by rw [← yI, T0]
 refine decide_eq_decide.2 ⟨fun e => xz (e.trans h0.symm), fun e => by rw [e, h0]⟩
theorem ycU (s t : ByteArray) (hs : s.size ≤ 1000000) (ht : t.size ≤ 1000000) (B : Nat) (w : World) (hB : B ≤ w.heap.size) (hT : PQ B w) :
 Calls Tryz.prog 81 #[.string s, .string t] w (Ret w (.int .i64 (bothQ s.data.toList t.data.toList))) := by
 have HT := hide hT
 have H1 := hide (fun w hB hT => zZ s hs B w hB hT)
 have H2 := hide (fun w hB hT => zZ t ht B w hB hT)
 unfold bothQ
 obtain ⟨x, hx⟩ := xe (chkQ s.data.toList)
 obtain ⟨y, hy⟩ := xe (chkQ t.data.toList)
 rw [← hx] at H1 ⊢
 rw [← hy] at H2 ⊢
 clear hx hy hT
 by_cases h : x = 0
 ·subst h
  rw [if_pos rfl]
  go_enter Tryz.func81, Tryz.ntmps81
  go_wp2_with fail
  refine (H1.out _ hB HT.out).mono ?_
  rintro e w1 ⟨rfl, hb1⟩
  have HB1 := hide hb1
  clear hb1
  go_wp2_with fail
  refine (H2.out _ (Nat.le_trans hB HB1.out.size) (HT.out.on HB1.out hB)).mono ?_
  rintro e w2 ⟨rfl, hb2⟩
  have HB2 := bt HB1 hb2
  clear hb2
  go_wp2_with fail
  go_ret
  exact ⟨rfl, HB2.out⟩
 ·rw [if_neg h]
  have hne : (x != 0) = true := by simpa using h
  clear h
  go_enter Tryz.func81, Tryz.ntmps81
  go_wp2_with fail
  refine (H1.out _ hB HT.out).mono ?_
  rintro e w1 ⟨rfl, hb1⟩
  have HB1 := hide hb1
  clear hb1
  go_wp2_with fail
  go_ret
  exact ⟨rfl, HB1.out⟩
theorem jF {x y : Rat} (fx : fitsQ x) (fy : fitsQ y) (B : Nat) (w : World) (hB : B ≤ w.heap.size) (hT : PQ B w) :
 Calls Tryz.prog 81 #[.string (T x), .string (T y)] w (Ret w (.int .i64 0)) := by
 have h := ycU (T x) (T y) (yW fx).1 (yW fy).1 B w hB hT
 rw [yS (yW fx).2.1 (yW fy).2.1] at h
 exact h
theorem yf0 {x y : Rat} (fx : fitsQ x) (fy : fitsQ y) (B : Nat) (w : World) (hB : B ≤ w.heap.size) (hT : PQ B w) :
 Calls Tryz.prog 50 #[.string (T x), .string (T y)] w (Ret w (opV (addO x y))) := by
 have HT := hide hT
 have H1 := hide (fun w hB hT => jF fx fy B w hB hT)
 have H2 := hide (fun w hB hT => yfs fx fy B w hB hT)
 obtain ⟨S, hS⟩ := xe (T x)
 obtain ⟨U, hU⟩ := xe (T y)
 rw [← hS, ← hU] at H1 H2 ⊢
 clear hS hU hT fx fy
 generalize addO x y = O at H2 ⊢
 cases O
 all_goals
  unfold opV at H2 ⊢
  dsimp only at H2 ⊢
  go_enter Tryz.func50, Tryz.ntmps50
  go_wp2_with fail
  refine (H1.out _ hB HT.out).mono ?_
  rintro e w1 ⟨rfl, hb1⟩
  have HB1 := hide hb1
  clear hb1
  go_wp2_with fail
  refine (H2.out _ (Nat.le_trans hB HB1.out.size) (HT.out.on HB1.out hB)).mono ?_
  rintro e w2 ⟨rfl, hb2⟩
  have HB2 := bt HB1 hb2
  clear hb2
  go_wp2_with fail
  refine bodyPost_ret (results_tmp2 rfl _ _ _) rfl ?_
  exact ⟨rfl, HB2.out⟩
def mulI (n d m c : Int) : Option Rat := if fits (n * m) ∧ fits (d * c) then some (Rat.divInt (n * m) (d * c)) else none
theorem ygf {n d m c : Int} (fn : fits n) (fd : fits d) (fm : fits m) (fc : fits c) (hd : d * c ≠ 0) (B : Nat) (w : World) (hB : B ≤ w.heap.size) (hT : P10 B w) :
 Calls Tryz.prog 85 #[.string (iB n), .string (iB d), .string (iB m), .string (iB c)] w (Ret w (opV (mulI n d m c))) := by
 have HT := hide hT
 unfold mulI
 have HPY := hide (fun (h : fits (n * m) ∧ fits (d * c)) w hB hT => qa fn fm fd fc h.1 h.2 B w hB hT)
 have HPN := hide (fun (h : ¬ (fits (n * m) ∧ fits (d * c))) w hB hT => qk fn fm fd fc h B w hB hT)
 have HMK := hide (fun (h : fits (n * m) ∧ fits (d * c)) w hB hT => yaD hd h.1 h.2 B w hB hT)
 obtain ⟨NB, hNB⟩ := xe (iB n)
 obtain ⟨DB, hDB⟩ := xe (iB d)
 obtain ⟨MB, hMB⟩ := xe (iB m)
 obtain ⟨CB, hCB⟩ := xe (iB c)
 obtain ⟨PB, hPB⟩ := xe (iB (n * m))
 obtain ⟨QB, hQB⟩ := xe (iB (d * c))
 simp only [← hNB, ← hDB, ← hMB, ← hCB, ← hPB, ← hQB] at HPY HPN HMK ⊢
 clear hNB hDB hMB hCB hPB hQB fn fd fm fc hd hT
 by_cases h : fits (n * m) ∧ fits (d * c)
 ·rw [if_pos h]
  have H1 := hide (HPY.out h)
  have H2 := hide (HMK.out h)
  unfold opV
  dsimp only
  clear HPY HPN HMK h
  go_enter Tryz.func85, Tryz.ntmps85
  go_wp2_with fail
  refine (H1.out _ hB HT.out).mono ?_
  rintro e w1 ⟨rfl, hb1⟩
  have HB1 := hide hb1
  clear hb1
  go_wp2_with fail
  refine (H2.out _ (Nat.le_trans hB HB1.out.size) (HT.out.on HB1.out hB)).mono ?_
  rintro e w2 ⟨rfl, hb2⟩
  have HB2 := bt HB1 hb2
  clear hb2
  go_wp2_with fail
  refine bodyPost_ret (results_tmp2 rfl _ _ _) rfl ?_
  exact ⟨rfl, HB2.out⟩
 ·rw [if_neg h]
  have HN := hide (HPN.out h)
  unfold opV
  dsimp only
  clear HPY HPN HMK h
  go_enter Tryz.func85, Tryz.ntmps85
  go_wp2_with fail
  obtain ⟨X, Y, hXY⟩ := HN.out _ hB HT.out
  refine hXY.mono ?_
  rintro e w1 ⟨rfl, hb1⟩
  have HB1 := hide hb1
  clear hb1 hXY
  go_wp2_with fail
  refine bodyPost_ret (results_tmp2 rfl _ _ _) rfl ?_
  exact ⟨rfl, HB1.out⟩
theorem wR {x y : Rat} (fx : fitsQ x) (fy : fitsQ y) (hs : ¬ (shortQ x ∧ shortQ y)) : ∃ v1 v2 : Int, ∃ b1 b2 : Bool, ∃ v3 v4 : Int, Hid (∀ w, Calls Tryz.prog 82 #[.string (T x)] w (Ret w (.tuple #[.int .i64 v1, .int .i64 v2, .bool b1]))) ∧ Hid (∀ w, Calls Tryz.prog 82 #[.string (T y)] w (Ret w (.tuple #[.int .i64 v3, .int .i64 v4, .bool b2]))) ∧ (b1 = false ∨ (b1 = true ∧ b2 = false)) := by
 have HI1 := fun w => xj fx w
 have HI2 := fun w => xj fy w
 unfold intsQ at HI1 HI2
 by_cases h1 : shortQ x
 ·have h2 : ¬ shortQ y := fun e => hs ⟨h1, e⟩
  rw [if_pos h1] at HI1
  rw [if_neg h2] at HI2
  exact ⟨_, _, _, _, _, _, hide HI1, hide HI2, .inr ⟨rfl, rfl⟩⟩
 ·rw [if_neg h1] at HI1
  by_cases h2 : shortQ y
  ·rw [if_pos h2] at HI2
   exact ⟨_, _, _, _, _, _, hide HI1, hide HI2, .inl rfl⟩
  ·rw [if_neg h2] at HI2
   exact ⟨_, _, _, _, _, _, hide HI1, hide HI2, .inl rfl⟩
theorem qp {x : Rat} (fx : fitsQ x) (h : shortQ x) (w : World) : Calls Tryz.prog 82 #[.string (T x)] w (Ret w (.tuple #[.int .i64 x.num, .int .i64 (x.den : Int), .bool true])) := by
 have H := xj fx w
 unfold intsQ at H
 rw [if_pos h] at H
 exact H
theorem wg {x y : Rat} (fx : fitsQ x) (fy : fitsQ y) (B : Nat) (w : World) (hB : B ≤ w.heap.size) (hT : PQ B w) :
 Calls Tryz.prog 48 #[.string (T x), .string (T y)] w (Ret w (opV (mulO x y))) := by
 have HT := hide hT
 have H1 := hide (fun w hB hT => jF fx fy B w hB hT)
 by_cases hs : shortQ x ∧ shortQ y
 ·have HI1 := hide (fun w => qp fx hs.1 w)
  have HI2 := hide (fun w => qp fy hs.2 w)
  obtain ⟨a1, a2⟩ := zD hs.1
  obtain ⟨b1, b2⟩ := zD hs.2
  have ap := x.den_pos
  have bp := y.den_pos
  rw [xR (vA hs.1) (vA hs.2) (by rw [yC]; omega)]
  unfold opV
  have hdiv := qy x y
  have m1 := prod9 (a := x.num) (b := y.num) a1 b1
  have m3 := prod9 (a := (x.den : Int)) (b := (y.den : Int)) (by omega) (by omega)
  have m4 : 0 < x.den * y.den := Nat.mul_pos ap bp
  have m5 : ((x.den * y.den : Nat) : Int) = (x.den : Int) * (y.den : Int) := by push_cast; rfl
  have HQ := hide (fun w => jl (x.num * y.num) (x.den * y.den) (by omega) (by omega) m4 w)
  rw [m5, hdiv] at HQ
  obtain ⟨R, hR⟩ := xe (T (x * y))
  have hR2 : strB (ratS (x * y)) = R := hR.symm
  rw [hR2] at HQ
  dsimp only
  rw [← hR]
  obtain ⟨S, hS⟩ := xe (T x)
  obtain ⟨U, hU⟩ := xe (T y)
  obtain ⟨n, hn⟩ := xe x.num
  obtain ⟨d, hd⟩ := xe (x.den : Int)
  obtain ⟨m, hm⟩ := xe y.num
  obtain ⟨c, hc⟩ := xe (y.den : Int)
  simp only [← hn, ← hd, ← hm, ← hc, ← hS, ← hU] at HI1 HI2 HQ m1 m3 H1 ⊢
  have v1 : IntKind.i64.wrap (n * m) = n * m := IntWalk.i64_in _ (by omega)
  have v3 : IntKind.i64.wrap (d * c) = d * c := IntWalk.i64_in _ (by omega)
  clear hR hR2 hdiv m1 m3 m4 m5 hs a1 a2 b1 b2 ap bp hn hd hm hc fx fy hS hU hT
  go_enter Tryz.func48, Tryz.ntmps48
  go_wp2_with fail
  refine (H1.out _ hB HT.out).mono ?_
  rintro e w1 ⟨rfl, hb1⟩
  have HB1 := hide hb1
  clear hb1
  go_wp2_with fail
  refine (HI1.out _).mono ?_
  rintro e w2 ⟨rfl, hb2⟩
  have HB2 := bt HB1 hb2
  clear hb2
  go_wp2_with fail
  refine (HI2.out _).mono ?_
  rintro e w3 ⟨rfl, hb3⟩
  have HB3 := bt HB2 hb3
  clear hb3
  go_wp2_with fail
  refine (HQ.out _).mono ?_
  rintro e w4 ⟨rfl, hb4⟩
  have HB4 := bt HB3 hb4
  clear hb4
  go_wp2_with fail
  refine bodyPost_ret (results_tmp2 rfl _ _ _) rfl ?_
  exact ⟨rfl, HB4.out⟩
 ·obtain ⟨i1, i2, b1, b2, i3, i4, HI1, HI2, hb⟩ := wR fx fy hs
  have HP1 := hide (fun w => zQ fx w)
  have HP2 := hide (fun w => zQ fy w)
  have hO : mulI x.num (x.den : Int) y.num (y.den : Int) = mulO x y := by
   unfold mulI mulO
   rw [qy]
   by_cases h : mulC x y
   ·exact (if_pos h).trans (if_pos h).symm
   ·exact (if_neg h).trans (if_neg h).symm
  have hdc : (x.den : Int) * (y.den : Int) ≠ 0 := by have := jX x y; omega
  have HM := hide (fun w hB hT => ygf fx.1 fx.2 fy.1 fy.2 hdc B w hB hT)
  rw [hO] at HM
  obtain ⟨S, hS⟩ := xe (T x)
  obtain ⟨U, hU⟩ := xe (T y)
  obtain ⟨NB, hNB⟩ := xe (iB x.num)
  obtain ⟨DB, hDB⟩ := xe (iB (x.den : Int))
  obtain ⟨MB, hMB⟩ := xe (iB y.num)
  obtain ⟨CB, hCB⟩ := xe (iB (y.den : Int))
  simp only [← hNB, ← hDB, ← hMB, ← hCB, ← hS, ← hU] at HI1 HI2 HP1 HP2 HM H1 ⊢
  clear hNB hDB hMB hCB hS hU hO hdc hs fx fy hT
  generalize mulO x y = O at HM ⊢
  cases O
  all_goals
   unfold opV at HM ⊢
   dsimp only at HM ⊢
   rcases hb with rfl | ⟨rfl, rfl⟩
   all_goals
    go_enter Tryz.func48, Tryz.ntmps48
    go_wp2_with fail
    refine (H1.out _ hB HT.out).mono ?_
    rintro e w1 ⟨rfl, hb1⟩
    have HB1 := hide hb1
    clear hb1
    go_wp2_with fail
    refine (HI1.out _).mono ?_
    rintro e w2 ⟨rfl, hb2⟩
    have HB2 := bt HB1 hb2
    clear hb2
    go_wp2_with fail
    refine (HI2.out _).mono ?_
    rintro e w3 ⟨rfl, hb3⟩
    have HB3 := bt HB2 hb3
    clear hb3
    go_wp2_with fail
    refine (HP1.out _).mono ?_
    rintro e w4 ⟨rfl, hb4⟩
    have HB4 := bt HB3 hb4
    clear hb4
    go_wp2_with fail
    refine (HP2.out _).mono ?_
    rintro e w5 ⟨rfl, hb5⟩
    have HB5 := bt HB4 hb5
    clear hb5
    go_wp2_with fail
    refine (HM.out _ (Nat.le_trans hB HB5.out.size) (HT.out.p10.on HB5.out hB)).mono ?_
    rintro e w6 ⟨rfl, hb6⟩
    have HB6 := bt HB5 hb6
    clear hb6
    go_wp2_with fail
    refine bodyPost_ret (results_tmp2 rfl _ _ _) rfl ?_
    exact ⟨rfl, HB6.out⟩
def cmpOV (x y : Rat) : Value := if cmpC x y then .tuple #[.int .i64 (cmpR x y), .int .i64 0] else .tuple #[.int .i64 0, .int .i64 4]

theorem yce {y : Rat} (fy : fitsQ y) (w : World) : Calls Tryz.prog 142 #[.string (T y)] w (Ret w (.string (T (-y)))) := by
 obtain ⟨hp, he⟩ := ygy y
 have hz := yh6 y
 have hs := yhz fy
 have hp0 : (0 : Int) < ((T y).size : Int) := by omega
 have hp1 : (1 : Int) ≤ ((T y).size : Int) := by omega
 have hcat : (9223372036854775807 < 1 + (T y).size) = False := eq_false (by omega)
 have hk : ((T y).toList == [48]) = true ∧ T (-y) = T y ∨ ((T y).toList == [48]) = false ∧ (((((T y)[0]'hp).toNat : Nat) : Int) == 45) = true ∧ (T y).extract 1 (T y).size = T (-y) ∨
  ((T y).toList == [48]) = false ∧ (((((T y)[0]'hp).toNat : Nat) : Int) == 45) = false ∧ (⟨#[45]⟩ : ByteArray) ++ T y = T (-y) := by
  by_cases h0 : y = 0
  ·exact .inl ⟨by rw [hz, decide_eq_true h0], by rw [h0, Rat.neg_zero]⟩
  ·have hn : y.num ≠ 0 := fun e => h0 (Rat.num_eq_zero.1 e)
   by_cases h1 : y.num < 0
   ·exact .inr (.inl ⟨by rw [hz, decide_eq_false h0], by rw [he, decide_eq_true h1], yeC h1⟩)
   ·exact .inr (.inr ⟨by rw [hz, decide_eq_false h0], by rw [he, decide_eq_false h1], yfM (by omega)⟩)
 clear he hz hs
 generalize T y = S at hp hp0 hp1 hcat hk ⊢
 generalize T (-y) = R at hk ⊢
 rcases hk with ⟨a1, a2⟩ | ⟨a1, a2, a3⟩ | ⟨a1, a2, a3⟩
 ·subst a2
  go_enter Tryz.func142, Tryz.ntmps142
  go_wp2_with fail
  go_ret
  exact ⟨rfl, Below.refl _ _⟩
 ·have A3 := hide a3
  clear a3
  go_enter Tryz.func142, Tryz.ntmps142
  go_wp2_with fail
  go_ret
  exact ⟨by rw [← A3.out]; rfl, Below.refl _ _⟩
 ·have A3 := hide a3
  clear a3
  go_enter Tryz.func142, Tryz.ntmps142
  go_wp2_with fail
  go_ret
  exact ⟨by rw [← A3.out]; rfl, Below.refl _ _⟩
theorem yib {x y : Rat} (fx : fitsQ x) (fy : fitsQ y) (B : Nat) (w : World) (hB : B ≤ w.heap.size) (hT : PQ B w) :
 Calls Tryz.prog 88 #[.string (T x), .string (T y)] w (Ret w (opV (subO x y))) := by
 have HT := hide hT
 have H1 := hide (fun w hB hT => jF fx fy B w hB hT)
 have HN := hide (fun w => yce fy w)
 have H2 := hide (fun w hB hT => yfs fx (yf6 fy) B w hB hT)
 have e : addO x (-y) = subO x y := by
  unfold addO subO
  by_cases h : subC x y
  ·rw [if_pos h, if_pos ((yd9 x y).2 h), Rat.sub_eq_add_neg]
  ·rw [if_neg h, if_neg (fun a => h ((yd9 x y).1 a))]
 rw [e] at H2
 obtain ⟨S, hS⟩ := xe (T x)
 obtain ⟨U, hU⟩ := xe (T y)
 obtain ⟨V, hV⟩ := xe (T (-y))
 rw [← hS, ← hU] at H1 ⊢
 rw [← hU, ← hV] at HN
 rw [← hS, ← hV] at H2
 clear hS hU hV hT fx fy e
 generalize subO x y = O at H2 ⊢
 cases O
 all_goals
  unfold opV at H2 ⊢
  dsimp only at H2 ⊢
  go_enter Tryz.func88, Tryz.ntmps88
  go_wp2_with fail
  refine (H1.out _ hB HT.out).mono ?_
  rintro e w1 ⟨rfl, hb1⟩
  have HB1 := hide hb1
  clear hb1
  go_wp2_with fail
  refine (HN.out _).mono ?_
  rintro e w2 ⟨rfl, hb2⟩
  have HB2 := bt HB1 hb2
  clear hb2
  go_wp2_with fail
  refine (H2.out _ (Nat.le_trans hB HB2.out.size) (HT.out.on HB2.out hB)).mono ?_
  rintro e w3 ⟨rfl, hb3⟩
  have HB3 := bt HB2 hb3
  clear hb3
  go_wp2_with fail
  refine bodyPost_ret (results_tmp2 rfl _ _ _) rfl ?_
  exact ⟨rfl, HB3.out⟩

theorem yc6 {x y : Rat} (fx : fitsQ x) (fy : fitsQ y) (B : Nat) (w : World) (hB : B ≤ w.heap.size) (hT : PQ B w) :
 Calls Tryz.prog 163 #[.string (T x), .string (T y)] w (Ret w (cmpOV x y)) := by
 have HT := hide hT
 have H1 := hide (fun w hB hT => jF fx fy B w hB hT)
 unfold cmpOV
 by_cases hs : shortQ x ∧ shortQ y
 ·rw [if_pos (km (vA hs.1) (vA hs.2) (by rw [yC]; omega)), ← ydX]
  have HI1 := hide (fun w => qp fx hs.1 w)
  have HI2 := hide (fun w => qp fy hs.2 w)
  obtain ⟨a1, a2⟩ := zD hs.1
  obtain ⟨b1, b2⟩ := zD hs.2
  have m1 := prod9 (a := x.num) (b := (y.den : Int)) a1 (by omega)
  have m3 := prod9 (a := y.num) (b := (x.den : Int)) b1 (by omega)
  obtain ⟨S, hS⟩ := xe (T x)
  obtain ⟨U, hU⟩ := xe (T y)
  obtain ⟨n, hn⟩ := xe x.num
  obtain ⟨d, hd⟩ := xe (x.den : Int)
  obtain ⟨m, hm⟩ := xe y.num
  obtain ⟨c, hc⟩ := xe (y.den : Int)
  simp only [← hn, ← hd, ← hm, ← hc, ← hS, ← hU] at HI1 HI2 m1 m3 H1 ⊢
  have v1 : IntKind.i64.wrap (n * c) = n * c := IntWalk.i64_in _ (by omega)
  have v3 : IntKind.i64.wrap (m * d) = m * d := IntWalk.i64_in _ (by omega)
  have hk : (n * c < m * d ∧ Lib.compareInt (n * c) (m * d) = -1) ∨ ((n * c < m * d) = False ∧ m * d < n * c ∧ Lib.compareInt (n * c) (m * d) = 1) ∨ ((n * c < m * d) = False ∧ (m * d < n * c) = False ∧ Lib.compareInt (n * c) (m * d) = 0) := by
   unfold Lib.compareInt
   rcases Int.lt_trichotomy (n * c) (m * d) with h | h | h
   ·exact .inl ⟨h, by rw [if_pos h]⟩
   ·exact .inr (.inr ⟨eq_false (by omega), eq_false (by omega), by rw [if_neg (by omega), if_neg (by omega)]⟩)
   ·exact .inr (.inl ⟨eq_false (by omega), h, by rw [if_neg (by omega), if_pos h]⟩)
  clear m1 m3 hs a1 a2 b1 b2 hn hd hm hc fx fy hS hU hT
  rcases hk with ⟨k1, e⟩ | ⟨k1, k2, e⟩ | ⟨k1, k2, e⟩ <;> rw [e] <;> clear e
  all_goals
   go_enter Tryz.func163, Tryz.ntmps163
   go_wp2_with fail
   refine (H1.out _ hB HT.out).mono ?_
   rintro e w1 ⟨rfl, hb1⟩
   have HB1 := hide hb1
   clear hb1
   go_wp2_with fail
   refine (HI1.out _).mono ?_
   rintro e w2 ⟨rfl, hb2⟩
   have HB2 := bt HB1 hb2
   clear hb2
   go_wp2_with fail
   refine (HI2.out _).mono ?_
   rintro e w3 ⟨rfl, hb3⟩
   have HB3 := bt HB2 hb3
   clear hb3
   go_wp2_with fail
   refine bodyPost_ret (results_tmp2 rfl _ _ _) rfl ?_
   exact ⟨rfl, HB3.out⟩
 ·obtain ⟨i1, i2, b1, b2, i3, i4, HI1, HI2, hb⟩ := wR fx fy hs
  have HP1 := hide (fun w => zQ fx w)
  have HP2 := hide (fun w => zQ fy w)
  have HPY := hide (fun (h : cmpC x y) w hB hT => qa fx.1 fy.2 fy.1 fx.2 h.1 h.2 B w hB hT)
  have HPN := hide (fun (h : ¬ cmpC x y) w hB hT => qk fx.1 fy.2 fy.1 fx.2 h B w hB hT)
  have HC := hide (fun (h : cmpC x y) w => yex h.1 h.2 w)
  rw [ydX] at HC
  obtain ⟨S, hS⟩ := xe (T x)
  obtain ⟨U, hU⟩ := xe (T y)
  obtain ⟨NB, hNB⟩ := xe (iB x.num)
  obtain ⟨DB, hDB⟩ := xe (iB (x.den : Int))
  obtain ⟨MB, hMB⟩ := xe (iB y.num)
  obtain ⟨CB, hCB⟩ := xe (iB (y.den : Int))
  obtain ⟨PB, hPB⟩ := xe (iB (x.num * (y.den : Int)))
  obtain ⟨QB, hQB⟩ := xe (iB (y.num * (x.den : Int)))
  simp only [← hNB, ← hDB, ← hMB, ← hCB, ← hS, ← hU, ← hPB, ← hQB] at HI1 HI2 HP1 HP2 HPY HPN HC H1 ⊢
  clear hNB hDB hMB hCB hS hU hPB hQB hs fx fy hT
  by_cases h : cmpC x y
  ·rw [if_pos h]
   have HA := hide (HPY.out h)
   have HD := hide (HC.out h)
   obtain ⟨r, hr⟩ := xe (cmpR x y)
   rw [← hr] at HD ⊢
   clear h HPY HPN HC hr
   rcases hb with rfl | ⟨rfl, rfl⟩
   all_goals
    go_enter Tryz.func163, Tryz.ntmps163
    go_wp2_with fail
    refine (H1.out _ hB HT.out).mono ?_
    rintro e w1 ⟨rfl, hb1⟩
    have HB1 := hide hb1
    clear hb1
    go_wp2_with fail
    refine (HI1.out _).mono ?_
    rintro e w2 ⟨rfl, hb2⟩
    have HB2 := bt HB1 hb2
    clear hb2
    go_wp2_with fail
    refine (HI2.out _).mono ?_
    rintro e w3 ⟨rfl, hb3⟩
    have HB3 := bt HB2 hb3
    clear hb3
    go_wp2_with fail
    refine (HP1.out _).mono ?_
    rintro e w4 ⟨rfl, hb4⟩
    have HB4 := bt HB3 hb4
    clear hb4
    go_wp2_with fail
    refine (HP2.out _).mono ?_
    rintro e w5 ⟨rfl, hb5⟩
    have HB5 := bt HB4 hb5
    clear hb5
    go_wp2_with fail
    refine (HA.out _ (Nat.le_trans hB HB5.out.size) (HT.out.p10.on HB5.out hB)).mono ?_
    rintro e w6 ⟨rfl, hb6⟩
    have HB6 := bt HB5 hb6
    clear hb6
    go_wp2_with fail
    refine (HD.out _).mono ?_
    rintro e w7 ⟨rfl, hb7⟩
    have HB7 := bt HB6 hb7
    clear hb7
    go_wp2_with fail
    refine bodyPost_ret (results_tmp2 rfl _ _ _) rfl ?_
    exact ⟨rfl, HB7.out⟩
  ·rw [if_neg h]
   have HN := hide (HPN.out h)
   clear h HPY HPN HC
   rcases hb with rfl | ⟨rfl, rfl⟩
   all_goals
    go_enter Tryz.func163, Tryz.ntmps163
    go_wp2_with fail
    refine (H1.out _ hB HT.out).mono ?_
    rintro e w1 ⟨rfl, hb1⟩
    have HB1 := hide hb1
    clear hb1
    go_wp2_with fail
    refine (HI1.out _).mono ?_
    rintro e w2 ⟨rfl, hb2⟩
    have HB2 := bt HB1 hb2
    clear hb2
    go_wp2_with fail
    refine (HI2.out _).mono ?_
    rintro e w3 ⟨rfl, hb3⟩
    have HB3 := bt HB2 hb3
    clear hb3
    go_wp2_with fail
    refine (HP1.out _).mono ?_
    rintro e w4 ⟨rfl, hb4⟩
    have HB4 := bt HB3 hb4
    clear hb4
    go_wp2_with fail
    refine (HP2.out _).mono ?_
    rintro e w5 ⟨rfl, hb5⟩
    have HB5 := bt HB4 hb5
    clear hb5
    go_wp2_with fail
    obtain ⟨X, Y, hXY⟩ := HN.out _ (Nat.le_trans hB HB5.out.size) (HT.out.p10.on HB5.out hB)
    refine hXY.mono ?_
    rintro e w6 ⟨rfl, hb6⟩
    have HB6 := bt HB5 hb6
    clear hb6 hXY
    go_wp2_with fail
    refine bodyPost_ret (results_tmp2 rfl _ _ _) rfl ?_
    exact ⟨rfl, HB6.out⟩

theorem wm (o : Option Rat) : opV o = .tuple #[.string (optT o), .int .i64 (optE o)] := by cases o <;> rfl
def worstI (e f g : Int) : Int := if e ≠ 0 then e else if f ≠ 0 then f else g
theorem ki (e f g : Int) (w : World) : Calls Tryz.prog 49 #[.int .i64 e, .int .i64 f, .int .i64 g] w (fun r w' => r = .returned (.int .i64 (worstI e f g)) ∧ w' = w) := by
 unfold worstI
 by_cases h1 : e = 0
 ·subst h1
  rw [if_neg (by simp)]
  by_cases h2 : f = 0
  ·subst h2
   rw [if_neg (by simp)]
   go_enter Tryz.func49, Tryz.ntmps49
   go_wp2_with fail
   go_ret
   exact ⟨rfl, rfl⟩
  ·rw [if_pos h2]
   have h3 : (f != 0) = true := by simpa using h2
   clear h2
   go_enter Tryz.func49, Tryz.ntmps49
   go_wp2_with fail
   go_ret
   exact ⟨rfl, rfl⟩
 ·rw [if_pos h1]
  have h3 : (e != 0) = true := by simpa using h1
  clear h1
  go_enter Tryz.func49, Tryz.ntmps49
  go_wp2_with fail
  go_ret
  exact ⟨rfl, rfl⟩
def madeV (x y z : ByteArray) (e : Int) : Value := if e ≠ 0 then .tuple #[noV, .int .i64 e] else .tuple #[spotV x y z, .int .i64 0]
theorem yeu (x y z : ByteArray) (e : Int) (w : World) : Calls Tryz.prog 53 #[.string x, .string y, .string z, .int .i64 e] w (Ret w (madeV x y z e)) := by
 unfold madeV
 by_cases h : e = 0
 ·subst h
  rw [if_neg (by simp)]
  go_enter Tryz.func53, Tryz.ntmps53
  go_wp2_with fail
  exact yz rfl (heap1 w (spotO x y z)).1 rfl rfl rfl ⟨rfl, (heap1 w (spotO x y z)).2.2⟩
 ·rw [if_pos h]
  have h3 : (e != 0) = true := by simpa using h
  clear h
  go_enter Tryz.func53, Tryz.ntmps53
  go_wp2_with fail
  exact yz rfl (heap1 w (spotO ⟨#[]⟩ ⟨#[]⟩ ⟨#[]⟩)).1 rfl rfl rfl ⟨rfl, (heap1 w (spotO ⟨#[]⟩ ⟨#[]⟩ ⟨#[]⟩)).2.2⟩
theorem xY (a b c a2 b2 c2 : ByteArray) (ha : a.size ≤ 1000000) (hb : b.size ≤ 1000000) (hc : c.size ≤ 1000000) (ha2 : a2.size ≤ 1000000) (hb2 : b2.size ≤ 1000000) (hc2 : c2.size ≤ 1000000) (B : Nat) (w : World) (hB : B ≤ w.heap.size) (hT : PQ B w) :
 Calls Tryz.prog 47 #[spotV a b c, spotV a2 b2 c2] w (Ret w (.int .i64 (both3 (chk3 a.data.toList b.data.toList c.data.toList) (chk3 a2.data.toList b2.data.toList c2.data.toList)))) := by
 have HT := hide hT
 have H1 := hide (fun w hB hT => yak a b c ha hb hc B w hB hT)
 have H2 := hide (fun w hB hT => yak a2 b2 c2 ha2 hb2 hc2 B w hB hT)
 obtain ⟨x, hx⟩ := xe (chk3 a.data.toList b.data.toList c.data.toList)
 obtain ⟨y, hy⟩ := xe (chk3 a2.data.toList b2.data.toList c2.data.toList)
 rw [← hx] at H1 ⊢
 rw [← hy] at H2 ⊢
 clear hx hy ha hb hc ha2 hb2 hc2 hT
 have X0 := hide (heap2 w (spotO a b c) (spotO a2 b2 c2))
 unfold both3
 by_cases h : x = 0
 ·subst h
  rw [if_neg (by simp)]
  go_enter Tryz.func47, Tryz.ntmps47
  go_wp2_with fail
  refine (H1.out _ (Nat.le_trans hB X0.out.2.2.2.size) (HT.out.on X0.out.2.2.2 hB)).mono ?_
  rintro e w1 ⟨rfl, hb1⟩
  have G0 := hide (yc hb1 (X0.out.2.1) (yd (X0.out.2.1)))
  have HB1 := hide (Below.trans (X0.out.2.2.2) (hb1.mono (X0.out.2.2.2).size))
  clear hb1
  have q0_0 := ya G0.out 0
  have q0_1 := ya G0.out 1
  have q0_2 := ya G0.out 2
  have q0_l := yd G0.out
  go_wp2_with fail
  refine (H2.out _ (Nat.le_trans hB HB1.out.size) (HT.out.on HB1.out hB)).mono ?_
  rintro e w2 ⟨rfl, hb2⟩
  clear q0_0 q0_1 q0_2 q0_l
  have G0 := bh hb2 G0
  have HB2 := hide (Below.trans (HB1.out) (hb2.mono (HB1.out).size))
  clear hb2
  have q0_0 := ya G0.out 0
  have q0_1 := ya G0.out 1
  have q0_2 := ya G0.out 2
  have q0_l := yd G0.out
  go_wp2_with fail
  go_ret
  exact ⟨rfl, HB2.out⟩
 ·rw [if_pos h]
  have h2 : (x != 0) = true := by simpa using h
  clear h
  go_enter Tryz.func47, Tryz.ntmps47
  go_wp2_with fail
  refine (H1.out _ (Nat.le_trans hB X0.out.2.2.2.size) (HT.out.on X0.out.2.2.2 hB)).mono ?_
  rintro e w1 ⟨rfl, hb1⟩
  have HB1 := hide (Below.trans (X0.out.2.2.2) (hb1.mono (X0.out.2.2.2).size))
  clear hb1
  go_wp2_with fail
  go_ret
  exact ⟨rfl, HB1.out⟩
theorem yee {a b : V3} (fa : fitsV a) (fb : fitsV b) (B : Nat) (w : World) (hB : B ≤ w.heap.size) (hT : PQ B w) :
 Calls Tryz.prog 47 #[vecV a, vecV b] w (Ret w (.int .i64 0)) := by
 have h := xY (T a.x) (T a.y) (T a.z) (T b.x) (T b.y) (T b.z) (zN fa.1).1 (zN fa.2.1).1 (zN fa.2.2).1 (zN fb.1).1 (zN fb.2.1).1 (zN fb.2.2).1 B w hB hT
 have e1 : chk3 (T a.x).data.toList (T a.y).data.toList (T a.z).data.toList = 0 := qY.2 ⟨(zN fa.1).2, (zN fa.2.1).2, (zN fa.2.2).2⟩
 have e2 : chk3 (T b.x).data.toList (T b.y).data.toList (T b.z).data.toList = 0 := qY.2 ⟨(zN fb.1).2, (zN fb.2.1).2, (zN fb.2.2).2⟩
 rw [e1, e2] at h
 exact h
theorem yij {o1 o2 o3 : Option Rat} {w : World} {e : Ending} {w' : World} (h : Ret w (madeV (optT o1) (optT o2) (optT o3) (worstI (optE o1) (optE o2) (optE o3))) e w') : ResV w (all3 o1 o2 o3) e w' := by
 cases o1 with
 |none => exact .inr ⟨rfl, h⟩
 |some x => cases o2 with
  |none => exact .inr ⟨rfl, h⟩
  |some y => cases o3 with
   |none => exact .inr ⟨rfl, h⟩
   |some z => exact .inl ⟨⟨x, y, z⟩, rfl, h⟩
theorem we {a b c d : Rat} (fa : fitsQ a) (fb : fitsQ b) (fc : fitsQ c) (fd : fitsQ d) (B : Nat) (w : World) (hB : B ≤ w.heap.size) (hT : PQ B w) :
 Calls Tryz.prog 52 #[.string (T a), .string (T b), .string (T c), .string (T d)] w (Ret w (.tuple #[.string (optT (minorO a b c d)), .int .i64 (optE (minorO a b c d))])) := by
 have HT := hide hT
 have C1 := hide (fun w hB hT => wg fa fd B w hB hT)
 have C2 := hide (fun w hB hT => wg fb fc B w hB hT)
 rw [wm] at C1 C2
 have hm : minorO a b c d = (mulO a d).bind fun p => (mulO b c).bind fun q => subO p q := rfl
 rw [hm]
 have HF1 := hide (fun x (h : mulO a d = some x) => (yY h).2)
 have HF2 := hide (fun x (h : mulO b c = some x) => (yY h).2)
 have HW := hide (fun w => ki (optE (mulO a d)) (optE (mulO b c)) 0 w)
 obtain ⟨O1, hO1⟩ := xe (mulO a d)
 obtain ⟨O2, hO2⟩ := xe (mulO b c)
 rw [← hO1] at C1 HF1 HW ⊢
 rw [← hO2] at C2 HF2 HW ⊢
 obtain ⟨A, hA⟩ := xe (T a)
 obtain ⟨B', hB'⟩ : ∃ V, V = T b := ⟨_, rfl⟩
 obtain ⟨C, hC⟩ := xe (T c)
 obtain ⟨D, hD⟩ := xe (T d)
 rw [← hA, ← hD] at C1
 rw [← hB', ← hC] at C2
 rw [← hA, ← hB', ← hC, ← hD]
 clear hA hB' hC hD hO1 hO2 hm fa fb fc fd hT
 cases O1 with
 |none =>
  obtain ⟨S2, hS2⟩ := xe (optT O2)
  obtain ⟨E2, hE2⟩ := xe (optE O2)
  rw [← hS2, ← hE2] at C2
  rw [← hE2] at HW
  dsimp only [optT, optE, Option.bind_none] at C1 HW ⊢
  rw [show worstI 4 E2 0 = 4 from rfl] at HW
  clear hS2 hE2 HF1 HF2
  go_enter Tryz.func52, Tryz.ntmps52
  go_wp2_with fail
  refine (C1.out _ hB HT.out).mono ?_
  rintro e w1 ⟨rfl, hb1⟩
  have HB1 := hide hb1
  clear hb1
  go_wp2_with fail
  refine (C2.out _ (Nat.le_trans hB HB1.out.size) (HT.out.on HB1.out hB)).mono ?_
  rintro e w2 ⟨rfl, hb2⟩
  have HB2 := hide (Below.trans (HB1.out) (hb2.mono (HB1.out).size))
  clear hb2
  go_wp2_with fail
  refine (HW.out _).mono ?_
  rintro e w0 ⟨rfl, rfl⟩
  go_wp2_with fail
  refine bodyPost_ret (results_tmp2 rfl _ _ _) rfl ?_
  exact ⟨rfl, HB2.out⟩
 |some x =>
  have fx := HF1.out x rfl
  cases O2 with
  |none =>
   dsimp only [optT, optE, Option.bind_none, Option.bind_some] at C1 C2 HW ⊢
   rw [show worstI 0 4 0 = 4 from rfl] at HW
   obtain ⟨S2, hS2⟩ := xe (T x)
   rw [← hS2] at C1
   clear hS2 HF1 HF2 fx
   go_enter Tryz.func52, Tryz.ntmps52
   go_wp2_with fail
   refine (C1.out _ hB HT.out).mono ?_
   rintro e w1 ⟨rfl, hb1⟩
   have HB1 := hide hb1
   clear hb1
   go_wp2_with fail
   refine (C2.out _ (Nat.le_trans hB HB1.out.size) (HT.out.on HB1.out hB)).mono ?_
   rintro e w2 ⟨rfl, hb2⟩
   have HB2 := hide (Below.trans (HB1.out) (hb2.mono (HB1.out).size))
   clear hb2
   go_wp2_with fail
   refine (HW.out _).mono ?_
   rintro e w0 ⟨rfl, rfl⟩
   go_wp2_with fail
   refine bodyPost_ret (results_tmp2 rfl _ _ _) rfl ?_
   exact ⟨rfl, HB2.out⟩
  |some y =>
   have fy := HF2.out y rfl
   have C3 := hide (fun w hB hT => yib fx fy B w hB hT)
   rw [wm] at C3
   dsimp only [optT, optE] at C1 C2 HW
   dsimp only [Option.bind_some]
   rw [show worstI 0 0 0 = 0 from rfl] at HW
   obtain ⟨S1, hS1⟩ := xe (T x)
   obtain ⟨S2, hS2⟩ := xe (T y)
   rw [← hS1] at C1 C3
   rw [← hS2] at C2 C3
   obtain ⟨S3, hS3⟩ := xe (optT (subO x y))
   obtain ⟨E3, hE3⟩ := xe (optE (subO x y))
   rw [← hS3, ← hE3] at C3 ⊢
   clear hS1 hS2 hS3 hE3 HF1 HF2 fx fy
   go_enter Tryz.func52, Tryz.ntmps52
   go_wp2_with fail
   refine (C1.out _ hB HT.out).mono ?_
   rintro e w1 ⟨rfl, hb1⟩
   have HB1 := hide hb1
   clear hb1
   go_wp2_with fail
   refine (C2.out _ (Nat.le_trans hB HB1.out.size) (HT.out.on HB1.out hB)).mono ?_
   rintro e w2 ⟨rfl, hb2⟩
   have HB2 := hide (Below.trans (HB1.out) (hb2.mono (HB1.out).size))
   clear hb2
   go_wp2_with fail
   refine (HW.out _).mono ?_
   rintro e w0 ⟨rfl, rfl⟩
   go_wp2_with fail
   refine (C3.out _ (Nat.le_trans hB HB2.out.size) (HT.out.on HB2.out hB)).mono ?_
   rintro e w3 ⟨rfl, hb3⟩
   have HB3 := hide (Below.trans (HB2.out) (hb3.mono (HB2.out).size))
   clear hb3
   go_wp2_with fail
   refine bodyPost_ret (results_tmp2 rfl _ _ _) rfl ?_
   exact ⟨rfl, HB3.out⟩
theorem yal {a b : V3} (fa : fitsV a) (fb : fitsV b) (B : Nat) (w : World) (hB : B ≤ w.heap.size) (hT : PQ B w) :
 Calls Tryz.prog 20 #[vecV a, vecV b] w (ResV w (crossO a b)) := by
 have HT := hide hT
 have HC := hide (fun w hB hT => yee fa fb B w hB hT)
 have C1 := hide (fun w hB hT => we fa.2.1 fa.2.2 fb.2.1 fb.2.2 B w hB hT)
 have C2 := hide (fun w hB hT => we fa.2.2 fa.1 fb.2.2 fb.1 B w hB hT)
 have C3 := hide (fun w hB hT => we fa.1 fa.2.1 fb.1 fb.2.1 B w hB hT)
 obtain ⟨O1, hO1⟩ := xe (minorO a.y a.z b.y b.z)
 rw [← hO1] at C1
 obtain ⟨O2, hO2⟩ := xe (minorO a.z a.x b.z b.x)
 rw [← hO2] at C2
 obtain ⟨O3, hO3⟩ := xe (minorO a.x a.y b.x b.y)
 rw [← hO3] at C3
 rw [show crossO a b = all3 O1 O2 O3 by rw [hO1, hO2, hO3]; rfl]
 clear hO1 hO2 hO3
 have X0 := hide (heap3 w (vecO a) (vecO b) (spotO ⟨#[]⟩ ⟨#[]⟩ ⟨#[]⟩))
 refine Calls.mono ?_ (fun e w' h => yij (o1 := O1) (o2 := O2) (o3 := O3) h)
 have HW := hide (fun w => ki (optE O1) (optE O2) (optE O3) w)
 have HM := hide (fun w => yeu (optT O1) (optT O2) (optT O3) (worstI (optE O1) (optE O2) (optE O3)) w)
 obtain ⟨V, hV⟩ := xe (madeV (optT O1) (optT O2) (optT O3) (worstI (optE O1) (optE O2) (optE O3)))
 have hV2 : ∃ (x y z : ByteArray) (e : Int), V = .tuple #[spotV x y z, .int .i64 e] := by
  rw [hV]
  unfold madeV
  split
  ·exact ⟨_, _, _, _, rfl⟩
  ·exact ⟨_, _, _, _, rfl⟩
 rw [← hV] at HM ⊢
 obtain ⟨vx, vy, vz, ve, rfl⟩ := hV2
 obtain ⟨S1, hS1⟩ := xe (optT O1)
 obtain ⟨S2, hS2⟩ := xe (optT O2)
 obtain ⟨S3, hS3⟩ := xe (optT O3)
 obtain ⟨E1, hE1⟩ := xe (optE O1)
 obtain ⟨E2, hE2⟩ := xe (optE O2)
 obtain ⟨E3, hE3⟩ := xe (optE O3)
 simp only [← hS1, ← hS2, ← hS3, ← hE1, ← hE2, ← hE3] at C1 C2 C3 HW HM
 obtain ⟨WO, hWO⟩ := xe (worstI E1 E2 E3)
 rw [← hWO] at HW HM
 clear hS1 hS2 hS3 hE1 hE2 hE3 hWO hV hT
 go_enter Tryz.func20, Tryz.ntmps20
 go_wp2_with fail
 refine (HC.out _ (Nat.le_trans hB X0.out.2.2.2.2.size) (HT.out.on X0.out.2.2.2.2 hB)).mono ?_
 rintro e w1 ⟨rfl, hb1⟩
 have G0 := hide (yc hb1 (X0.out.1) (yd (X0.out.1)))
 have G1 := hide (yc hb1 (X0.out.2.1) (yd (X0.out.2.1)))
 have G2 := hide (yc hb1 (X0.out.2.2.1) (yd (X0.out.2.2.1)))
 have HB1 := hide (Below.trans (X0.out.2.2.2.2) (hb1.mono (X0.out.2.2.2.2).size))
 clear hb1
 have q0_0 := ya G0.out 0
 have q0_1 := ya G0.out 1
 have q0_2 := ya G0.out 2
 have q0_l := yd G0.out
 have q1_0 := ya G1.out 0
 have q1_1 := ya G1.out 1
 have q1_2 := ya G1.out 2
 have q1_l := yd G1.out
 have q2_0 := ya G2.out 0
 have q2_1 := ya G2.out 1
 have q2_2 := ya G2.out 2
 have q2_l := yd G2.out
 go_wp2_with fail
 refine (C1.out _ (Nat.le_trans hB HB1.out.size) (HT.out.on HB1.out hB)).mono ?_
 rintro e w2 ⟨rfl, hb2⟩
 clear q0_0 q0_1 q0_2 q1_0 q1_1 q1_2 q2_0 q2_1 q2_2 q0_l q1_l q2_l
 have G0 := bh hb2 G0
 have G1 := bh hb2 G1
 have G2 := bh hb2 G2
 have HB2 := hide (Below.trans (HB1.out) (hb2.mono (HB1.out).size))
 clear hb2
 have q0_0 := ya G0.out 0
 have q0_1 := ya G0.out 1
 have q0_2 := ya G0.out 2
 have q0_l := yd G0.out
 have q1_0 := ya G1.out 0
 have q1_1 := ya G1.out 1
 have q1_2 := ya G1.out 2
 have q1_l := yd G1.out
 have q2_0 := ya G2.out 0
 have q2_1 := ya G2.out 1
 have q2_2 := ya G2.out 2
 have q2_l := yd G2.out
 go_wp2_with fail
 refine (C2.out _ (Nat.le_trans hB HB2.out.size) (HT.out.on HB2.out hB)).mono ?_
 rintro e w3 ⟨rfl, hb3⟩
 clear q0_0 q0_1 q0_2 q1_0 q1_1 q1_2 q2_0 q2_1 q2_2 q0_l q1_l q2_l
 have G0 := bh hb3 G0
 have G1 := bh hb3 G1
 have G2 := bh hb3 G2
 have HB3 := hide (Below.trans (HB2.out) (hb3.mono (HB2.out).size))
 clear hb3
 have q0_0 := ya G0.out 0
 have q0_1 := ya G0.out 1
 have q0_2 := ya G0.out 2
 have q0_l := yd G0.out
 have q1_0 := ya G1.out 0
 have q1_1 := ya G1.out 1
 have q1_2 := ya G1.out 2
 have q1_l := yd G1.out
 have q2_0 := ya G2.out 0
 have q2_1 := ya G2.out 1
 have q2_2 := ya G2.out 2
 have q2_l := yd G2.out
 go_wp2_with fail
 refine (C3.out _ (Nat.le_trans hB HB3.out.size) (HT.out.on HB3.out hB)).mono ?_
 rintro e w4 ⟨rfl, hb4⟩
 clear q0_0 q0_1 q0_2 q1_0 q1_1 q1_2 q2_0 q2_1 q2_2 q0_l q1_l q2_l
 have G0 := bh hb4 G0
 have G1 := bh hb4 G1
 have G2 := bh hb4 G2
 have HB4 := hide (Below.trans (HB3.out) (hb4.mono (HB3.out).size))
 clear hb4
 have q0_0 := ya G0.out 0
 have q0_1 := ya G0.out 1
 have q0_2 := ya G0.out 2
 have q0_l := yd G0.out
 have q1_0 := ya G1.out 0
 have q1_1 := ya G1.out 1
 have q1_2 := ya G1.out 2
 have q1_l := yd G1.out
 have q2_0 := ya G2.out 0
 have q2_1 := ya G2.out 1
 have q2_2 := ya G2.out 2
 have q2_l := yd G2.out
 go_wp2_with fail
 refine (HW.out _).mono ?_
 rintro e w0 ⟨rfl, rfl⟩
 go_wp2_with fail
 refine (HM.out _).mono ?_
 rintro e w5 ⟨rfl, hb5⟩
 clear q0_0 q0_1 q0_2 q1_0 q1_1 q1_2 q2_0 q2_1 q2_2 q0_l q1_l q2_l
 have G0 := bh hb5 G0
 have G1 := bh hb5 G1
 have G2 := bh hb5 G2
 have HB5 := hide (Below.trans (HB4.out) (hb5.mono (HB4.out).size))
 clear hb5
 have q0_0 := ya G0.out 0
 have q0_1 := ya G0.out 1
 have q0_2 := ya G0.out 2
 have q0_l := yd G0.out
 have q1_0 := ya G1.out 0
 have q1_1 := ya G1.out 1
 have q1_2 := ya G1.out 2
 have q1_l := yd G1.out
 have q2_0 := ya G2.out 0
 have q2_1 := ya G2.out 1
 have q2_2 := ya G2.out 2
 have q2_l := yd G2.out
 have f0 := yf G2.out 0
 have f1 := yf G2.out 1
 have f2 := yf G2.out 2
 go_wp2_with fail
 exact yz rfl (set3c (set3b (set3a G2.out _) _) _) rfl rfl rfl ⟨rfl, yA HB5.out (show w.heap.size ≤ w.heap.size + 1 + 1 by omega) _ _ _⟩
theorem yb9 {a b c : V3} (fa : fitsV a) (fb : fitsV b) (hc : crossO a b = some c) {is : Bool} (his : is = decide (c = vzero)) (B : Nat) (w : World) (hB : B ≤ w.heap.size) (hT : PQ B w) :
 Calls Tryz.prog 24 #[vecV a, vecV b] w (Ret w (.tuple #[.bool is, .int .i64 0])) := by
 have HT := hide hT
 have HX := hide (fun w hB hT => (yal fa fb B w hB hT).mono fun _ _ hr => ResV.of hc hr)
 have he := fun w => eqZero c w
 simp only [← his] at he
 have X0 := hide (heap2 w (vecO a) (vecO b))
 clear his hc fa fb hT
 go_enter Tryz.func24, Tryz.ntmps24
 go_wp2_with fail
 refine (HX.out _ (Nat.le_trans hB X0.out.2.2.2.size) (HT.out.on X0.out.2.2.2 hB)).mono ?_
 rintro e w1 ⟨rfl, hb1⟩
 have X := hide (heap1 w1 (vecO c))
 have hb1 := hb1.trans (X.out.2.2.mono hb1.size)
 have G0 := hide X.out.1
 have HB1 := hide (Below.trans (X0.out.2.2.2) (hb1.mono (X0.out.2.2.2).size))
 clear hb1 X
 have q0_0 := ya G0.out 0
 have q0_1 := ya G0.out 1
 have q0_2 := ya G0.out 2
 have q0_l := yd G0.out
 go_wp2_with fail
 refine bodyPost_ret (results_tmp2 rfl _ _ _) rfl ?_
 exact ⟨rfl, HB1.out⟩
end Go.Proofs.YtklgpilgalfckaaGreatDoor
