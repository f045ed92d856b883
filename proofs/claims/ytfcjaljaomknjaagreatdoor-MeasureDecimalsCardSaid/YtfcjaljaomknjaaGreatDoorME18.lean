/-
  Texts laid together.
-/
import Derived.Test.YtfcjaljaomknjaaGreatDoorME16
import Derived.Test.YtfcjaljaomknjaaGreatDoorME17
set_option maxRecDepth 100000
set_option maxHeartbeats 8000000
namespace Go.Proofs.YtfcjaljaomknjaaGreatDoor
open Go.RowKit Go.KP Go.KI Go.Shelf
attribute [local go_sem] Oper.semAt_some

theorem cls_callw {f : Nat} {args : Array Value} {v : Value} {n : Nat} {W0 : World} (H : ∀ w, Calls Tryz.prog f args w (Ret w v)) (x : Of (Below n W0)) (hx : n ≤ x.w.heap.size) :
    Calls Tryz.prog f args x.w fun e w' => e = .returned v ∧ Cls (Below n W0) w' :=
  (H x.w).mono fun _ _ ⟨h, hb⟩ => ⟨h, Cls.mk (x.h.trans (hb.mono hx))⟩
theorem lead_ledg (l : List UInt8) : lead l = ledg l := rfl
theorem pdg_drop (l : List UInt8) : pdg l = l.drop (ledg l).length := by
  have h := congrArg (List.drop (ledg l).length) (ledg_pdg l)
  rw [List.drop_left] at h
  exact h
theorem ledg_take (l : List UInt8) : l.take (ledg l).length = ledg l := by
  have h := congrArg (List.take (ledg l).length) (ledg_pdg l)
  rw [List.take_left] at h
  exact h.symm
theorem ext_take (l : List UInt8) (k : Nat) : (strB l).extract 0 k = strB (l.take k) := by
  apply bytes_eq
  rw [strB_list]
  simp [strB]
def sgnR1 (neg : Bool) : Rat := if neg then -1 else 1
theorem sgn_mul (neg : Bool) (x : Rat) : sgnR1 neg * x = sgn neg x := by
  unfold sgnR1 sgn
  cases neg <;> simp only [if_true, if_false, Bool.false_eq_true] <;> grind
theorem sgn_div (neg : Bool) (x y : Rat) : sgn neg x / y = sgn neg (x / y) := by
  rw [← sgn_mul, ← sgn_mul, Rat.div_def, Rat.div_def, Rat.mul_assoc]
theorem sz_sgn1 (neg : Bool) : sz 1 (sgnR1 neg) := by
  cases neg
  · exact ⟨by decide +kernel, by decide +kernel⟩
  · exact ⟨by decide +kernel, by decide +kernel⟩
theorem sz_natP {n p : Nat} (h : n < 10 ^ p) (hp : 1 ≤ p) : sz p ((n : Nat) : Rat) := by
  rw [show ((n : Nat) : Rat) = ((n : Int) : Rat) from rfl]
  exact sz_int (by rw [Int.natAbs_natCast]; exact h) hp
theorem sgn1_lit : T (sgnR1 true) = ⟨#[45, 49]⟩ ∧ T (sgnR1 false) = ⟨#[49]⟩ := by
  constructor
  · rw [show sgnR1 true = (((-1 : Int)) : Rat) from rfl, ← iB_T]
    apply bytes_eq
    rw [iB_list]
    decide +kernel
  · exact T1
theorem T_nat (n : Nat) : iB ((n : Nat) : Int) = T ((n : Nat) : Rat) := iB_T _
def ParRes (d : List UInt8) (neg : Bool) (w : World) (e : Ending) (w' : World) : Prop := Ret w (pairV (if rpE d = 0 then ratS (sgn neg (rpV d)) else []) (rpE d)) e w'
theorem par_err {d : List UInt8} {neg : Bool} {z : Int} (h : rpE d = z) (hz : z ≠ 0) (w : World) (e : Ending) (w' : World) (hr : Ret w (.tuple #[.string ⟨#[]⟩, .int .i64 z]) e w') : ParRes d neg w e w' := by
  unfold ParRes
  rw [h, if_neg hz, pairV_err]
  exact hr
theorem par_ok {d : List UInt8} {neg : Bool} (h : rpE d = 0) (w : World) (e : Ending) (w' : World) (hr : Ret w (.tuple #[.string (T (sgn neg (rpV d))), .int .i64 0]) e w') : ParRes d neg w e w' := by
  unfold ParRes
  rw [h, if_pos rfl]
  exact hr
theorem m7parse_n_none (s : ByteArray) (d : List UInt8) (hl : d.length ≤ 90) (hp : 0 < s.size) (h45 : (((((s[0]'hp).toNat : Nat) : Int)) == 45) = true) (hx0 : s.extract 1 s.size = strB d) (hls : s.size ≤ 90) (c0 : ledg d = []) (B : Nat) (w : World) (hB : B ≤ w.heap.size) (hT : PQ B w) :
    Calls Tryz.prog 14 #[.string s] w (ParRes d true w) := by
  have HT := hide hT
  have HE := hide (show rpE d = 3 by unfold rpE; rw [if_pos c0])
  have HD := hide (fun w => m7digits_any (strB d) (by rw [strB_size]; omega) w)
  rw [strB_list, lead_ledg] at HD
  have hds : (strB d).size = d.length := strB_size _
  have hle : (ledg d).length ≤ d.length := lead_le d
  have HVV := hide (True.intro)
  obtain ⟨n, hn⟩ : ∃ n, n = (ledg d).length := ⟨_, rfl⟩
  rw [← hn] at HD hle
  have hBB := hide hB
  clear hBB
  have hn0 : n = 0 := by rw [hn, c0]; rfl
  subst hn0
  obtain ⟨dl, hdl⟩ : ∃ n, n = d.length := ⟨_, rfl⟩
  rw [← hdl] at hds hle hl
  have _h := True.intro
  generalize strB d = SD at *
  clear hT c0 hn hdl HVV _h
  have he : (s.toList == []) = false := by
    rw [ByteArray.toList_eq]
    exact beq_false_of_ne fun e => by
      have : s.data.toList.length = 0 := by rw [e]; rfl
      rw [bytes_len] at this
      omega
  have he2 : (s.toList != []) = true := by simp only [bne, he]; rfl
  have he3 : s.toList.isEmpty = false := by
    cases h : s.toList with
    | nil => rw [h] at he; cases he
    | cons a b => rfl
  have g90 : ((90 : Int) < (s.size : Int)) = False := eq_false (by omega)
  have hp1 : (0 : Int) < (s.size : Int) := by omega
  have hp2 : (1 : Int) ≤ (s.size : Int) := by omega
  have hp3 : 1 ≤ s.size := by omega
  go_enter Tryz.func14, Tryz.ntmps14
  go_wp2_with fail
  go_quiet (fail)
  go_wp2_with fail
  refine (HD.out _).mono ?_
  rintro e w1 ⟨rfl, hb1⟩
  have HB1 := hide ((below_drewN (Below.refl w.heap.size w) _).trans (hb1.mono (Nat.le_refl _)))
  clear hb1
  go_wp2_with fail
  refine bodyPost_ret (results_tmp2 rfl _ _ _) rfl ?_
  exact par_err HE.out (by decide) _ _ _ ⟨rfl, HB1.out⟩
theorem m7parse_n_all (s : ByteArray) (d : List UInt8) (hl : d.length ≤ 90) (hp : 0 < s.size) (h45 : (((((s[0]'hp).toNat : Nat) : Int)) == 45) = true) (hx0 : s.extract 1 s.size = strB d) (hls : s.size ≤ 90) (c0 : ledg d ≠ []) (c1 : pdg d = []) (B : Nat) (w : World) (hB : B ≤ w.heap.size) (hT : PQ B w) :
    Calls Tryz.prog 14 #[.string s] w (ParRes d true w) := by
  have HT := hide hT
  have HE := hide (show rpE d = 0 by unfold rpE; rw [if_neg c0, c1])
  have hv : rpV d = ((dv (ledg d) : Nat) : Rat) := by unfold rpV; rw [c1]
  have HD := hide (fun w => m7digits_any (strB d) (by rw [strB_size]; omega) w)
  rw [strB_list, lead_ledg] at HD
  have hds : (strB d).size = d.length := strB_size _
  have hle : (ledg d).length ≤ d.length := lead_le d
  have HA := hide (fun w => m7whole_any (ledg d) c0 (ledg_dg d) w)
  have hal := dv_lt (ledg d) (ledg_dg d)
  have hn1 : 0 < (ledg d).length := List.length_pos_iff.2 c0
  have sA : sz 90 ((dv (ledg d) : Nat) : Rat) := sz_natP (Nat.lt_of_lt_of_le hal (Nat.pow_le_pow_right (by omega) (by omega))) (by omega)
  have ex1 : (strB d).extract 0 (ledg d).length = strB (ledg d) := by rw [ext_take, ledg_take]
  have ex2 : (strB d).extract (ledg d).length (strB d).size = strB (pdg d) := by rw [ext_drop, strB_list, pdg_drop]
  rw [hds] at ex2
  rw [T_nat] at HA
  have HP := hide (fun w hB hT => m7product_T (sz_fits (sz_sgn1 true) (by rw [most_eq]; omega)) (sz_fits sA (by rw [most_eq]; omega)) (mulC_of (sz_sgn1 true) sA (by rw [most_eq]; omega)) B w hB hT)
  rw [sgn_mul, sgn1_lit.1] at HP
  rw [c1] at ex2
  rw [show strB [] = ⟨#[]⟩ from rfl] at ex2
  have HVV := hide (True.intro)
  obtain ⟨R, hR⟩ : ∃ R, R = T (sgn true (rpV d)) := ⟨_, rfl⟩
  have HR := hide hR
  rw [hv] at hR
  rw [← hR] at HP
  clear hR
  obtain ⟨n, hn⟩ : ∃ n, n = (ledg d).length := ⟨_, rfl⟩
  rw [← hn] at HD hle ex1 ex2 hn1
  obtain ⟨dl, hdl⟩ : ∃ n, n = d.length := ⟨_, rfl⟩
  rw [← hdl] at hds hle hl ex2
  generalize T (((dv (ledg d)) : Nat) : Rat) = TA at *
  generalize strB (ledg d) = SL at *
  generalize strB d = SD at *
  clear hT hal sA c0 hn c1 hv hdl HVV
  have he : (s.toList == []) = false := by
    rw [ByteArray.toList_eq]
    exact beq_false_of_ne fun e => by
      have : s.data.toList.length = 0 := by rw [e]; rfl
      rw [bytes_len] at this
      omega
  have he2 : (s.toList != []) = true := by simp only [bne, he]; rfl
  have he3 : s.toList.isEmpty = false := by
    cases h : s.toList with
    | nil => rw [h] at he; cases he
    | cons a b => rfl
  have g90 : ((90 : Int) < (s.size : Int)) = False := eq_false (by omega)
  have hp1 : (0 : Int) < (s.size : Int) := by omega
  have hp2 : (1 : Int) ≤ (s.size : Int) := by omega
  have hp3 : 1 ≤ s.size := by omega
  have z0 : ((n : Int) == 0) = false := by simp only [beq_eq_false_iff_ne, ne_eq]; omega
  have n0 : (0 : Int) ≤ (n : Int) := by omega
  have n2 : (n : Int) ≤ (SD.size : Int) := by omega
  have n3 : n ≤ SD.size := by omega
  go_enter Tryz.func14, Tryz.ntmps14
  go_wp2_with fail
  go_quiet (fail)
  go_wp2_with fail
  refine (HD.out _).mono ?_
  rintro e w1 ⟨rfl, hb1⟩
  have HB1 := hide ((below_drewN (Below.refl w.heap.size w) _).trans (hb1.mono (Nat.le_refl _)))
  clear hb1
  obtain ⟨W1, hW1⟩ : ∃ W, W = w1 := ⟨_, rfl⟩
  subst hW1
  have HN1 := hide (fun (o : Of (Below W1.heap.size W1)) => cls_callw HA.out o o.h.size)
  go_wp2_with fail
  have kn : Nonempty (Of (Below W1.heap.size W1)) := ⟨⟨_, Below.refl _ _⟩⟩
  refine region_class (C := Cls (Below W1.heap.size W1)) (by kernel_rfl) (by kernel_rfl) (by kernel_rfl) (Cls.mk (Below.refl _ _).drew) ?_
  repeat (go_big_quiet_step (first | rfl | with_reducible exact HN1.out _))
  refine wpQuiet_nil ?_
  intro w2 hcl
  have HB2 := hide (HB1.out.trans (hcl.out.mono HB1.out.size))
  clear hcl kn HN1
  go_wp2_with fail
  refine (HP.out _ (Nat.le_trans hB HB2.out.size) (HT.out.on HB2.out hB)).mono ?_
  rintro e w3 ⟨rfl, hb3⟩
  have HB3 := hide (HB2.out.trans (hb3.mono HB2.out.size))
  clear hb3
  go_wp2_with fail
  refine bodyPost_ret (results_tmp2 rfl _ _ _) rfl ?_
  rw [HR.out]
  exact par_ok HE.out _ _ _ ⟨rfl, HB3.out⟩
theorem m7parse_n_bad (s : ByteArray) (d : List UInt8) (hl : d.length ≤ 90) (hp : 0 < s.size) (h45 : (((((s[0]'hp).toNat : Nat) : Int)) == 45) = true) (hx0 : s.extract 1 s.size = strB d) (hls : s.size ≤ 90) (c0 : ledg d ≠ []) (m : UInt8) (t : List UInt8) (c1 : pdg d = m :: t) (c2 : ledg t = [] ∨ ledg t ≠ t ∨ (m ≠ 46 ∧ m ≠ 47)) (B : Nat) (w : World) (hB : B ≤ w.heap.size) (hT : PQ B w) :
    Calls Tryz.prog 14 #[.string s] w (ParRes d true w) := by
  have HT := hide hT
  have hBk := Nat.le_trans hB (Nat.le_refl _)
  clear hBk
  have HE := hide (show rpE d = 3 by unfold rpE; rw [if_neg c0, c1]; exact if_pos c2)
  have HD := hide (fun w => m7digits_any (strB d) (by rw [strB_size]; omega) w)
  rw [strB_list, lead_ledg] at HD
  have hds : (strB d).size = d.length := strB_size _
  have hle : (ledg d).length ≤ d.length := lead_le d
  have HA := hide (fun w => m7whole_any (ledg d) c0 (ledg_dg d) w)
  have hal := dv_lt (ledg d) (ledg_dg d)
  have hn1 : 0 < (ledg d).length := List.length_pos_iff.2 c0
  have sA : sz 90 ((dv (ledg d) : Nat) : Rat) := sz_natP (Nat.lt_of_lt_of_le hal (Nat.pow_le_pow_right (by omega) (by omega))) (by omega)
  have ex1 : (strB d).extract 0 (ledg d).length = strB (ledg d) := by rw [ext_take, ledg_take]
  have ex2 : (strB d).extract (ledg d).length (strB d).size = strB (pdg d) := by rw [ext_drop, strB_list, pdg_drop]
  rw [hds] at ex2
  rw [T_nat] at HA
  have htl : t.length + 1 ≤ d.length := by
    have := congrArg List.length (ledg_pdg d)
    rw [List.length_append, c1, List.length_cons] at this
    omega
  have HD2 := hide (fun w => m7digits_any (strB t) (by rw [strB_size]; omega) w)
  rw [strB_list, lead_ledg] at HD2
  rw [c1] at ex2
  obtain ⟨hpm, hbm⟩ := head_byte (l := m :: t) rfl
  have hpt := strB_tail m t
  have hms : (strB (m :: t)).size = t.length + 1 := by rw [strB_size, List.length_cons]
  have hts : (strB t).size = t.length := strB_size _
  have hmz : ((strB (m :: t)).toList == []) = false := by
    rw [ByteArray.toList_eq, strB_list]
    rfl
  have hmz3 : (strB (m :: t)).toList.isEmpty = false := by
    rw [ByteArray.toList_eq, strB_list]
    rfl
  have hway : (ledg t).length = 0 ∨ (0 < (ledg t).length ∧ (ledg t).length < t.length) ∨ (0 < (ledg t).length ∧ (ledg t).length = t.length ∧ (((m.toNat : Nat) : Int) == 46) = false ∧ (((m.toNat : Nat) : Int) == 47) = false) := by
    have hlt : (ledg t).length ≤ t.length := lead_le t
    by_cases k0 : (ledg t).length = 0
    · exact .inl k0
    by_cases k1 : (ledg t).length < t.length
    · exact .inr (.inl ⟨by omega, k1⟩)
    · have ke : ledg t = t := by rw [← ledg_take, List.take_of_length_le (by omega)]
      refine .inr (.inr ⟨by omega, by omega, ?_⟩)
      have hmm : m ≠ 46 ∧ m ≠ 47 := by
        rcases c2 with h | h | h
        · exact absurd (by rw [h]; rfl) k0
        · exact absurd ke h
        · exact h
      have q1 : m.toNat ≠ 46 := fun e => hmm.1 (UInt8.toNat_inj.1 e)
      have q2 : m.toNat ≠ 47 := fun e => hmm.2 (UInt8.toNat_inj.1 e)
      constructor <;> (simp only [beq_eq_false_iff_ne, ne_eq]; omega)
  have HVV := hide (True.intro)
  obtain ⟨n, hn⟩ : ∃ n, n = (ledg d).length := ⟨_, rfl⟩
  rw [← hn] at HD hle ex1 ex2 hn1
  obtain ⟨dl, hdl⟩ : ∃ n, n = d.length := ⟨_, rfl⟩
  rw [← hdl] at hds hle hl ex2
  obtain ⟨tl, htl9⟩ : ∃ n, n = t.length := ⟨_, rfl⟩
  rw [← htl9, ← hdl] at htl
  rw [← htl9] at hms hts
  rw [hms] at hpt
  obtain ⟨u, hu⟩ : ∃ n, n = (ledg t).length := ⟨_, rfl⟩
  rw [← hu, ← htl9] at hway
  rw [← hu] at HD2
  generalize T (((dv (ledg d)) : Nat) : Rat) = TA at *
  generalize strB (ledg d) = SL at *
  generalize strB (m :: t) = SM at *
  generalize strB t = ST at *
  generalize strB d = SD at *
  clear hT hal sA c0 hn c1 c2 hu hdl HVV htl9
  have he : (s.toList == []) = false := by
    rw [ByteArray.toList_eq]
    exact beq_false_of_ne fun e => by
      have : s.data.toList.length = 0 := by rw [e]; rfl
      rw [bytes_len] at this
      omega
  have he2 : (s.toList != []) = true := by simp only [bne, he]; rfl
  have he3 : s.toList.isEmpty = false := by
    cases h : s.toList with
    | nil => rw [h] at he; cases he
    | cons a b => rfl
  have g90 : ((90 : Int) < (s.size : Int)) = False := eq_false (by omega)
  have hp1 : (0 : Int) < (s.size : Int) := by omega
  have hp2 : (1 : Int) ≤ (s.size : Int) := by omega
  have hp3 : 1 ≤ s.size := by omega
  have z0 : ((n : Int) == 0) = false := by simp only [beq_eq_false_iff_ne, ne_eq]; omega
  have n0 : (0 : Int) ≤ (n : Int) := by omega
  have n2 : (n : Int) ≤ (SD.size : Int) := by omega
  have n3 : n ≤ SD.size := by omega
  go_enter Tryz.func14, Tryz.ntmps14
  go_wp2_with fail
  go_quiet (fail)
  go_wp2_with fail
  refine (HD.out _).mono ?_
  rintro e w1 ⟨rfl, hb1⟩
  have HB1 := hide ((below_drewN (Below.refl w.heap.size w) _).trans (hb1.mono (Nat.le_refl _)))
  clear hb1
  obtain ⟨W1, hW1⟩ : ∃ W, W = w1 := ⟨_, rfl⟩
  subst hW1
  have HN1 := hide (fun (o : Of (Below W1.heap.size W1)) => cls_callw HA.out o o.h.size)
  go_wp2_with fail
  have kn : Nonempty (Of (Below W1.heap.size W1)) := ⟨⟨_, Below.refl _ _⟩⟩
  refine region_class (C := Cls (Below W1.heap.size W1)) (by kernel_rfl) (by kernel_rfl) (by kernel_rfl) (Cls.mk (Below.refl _ _).drew) ?_
  repeat (go_big_quiet_step (first | rfl | with_reducible exact HN1.out _))
  refine wpQuiet_nil ?_
  intro w2 hcl
  have HB2 := hide (HB1.out.trans (hcl.out.mono HB1.out.size))
  clear hcl kn HN1
  go_wp2_with fail
  go_quiet (fail)
  go_wp2_with fail
  refine (HD2.out _).mono ?_
  rintro e w3 ⟨rfl, hb3⟩
  have HB3 := hide ((below_drewN HB2.out _).trans (hb3.mono (below_drewN HB2.out _).size))
  clear hb3
  rcases hway with k0 | ⟨k0, k1⟩ | ⟨k0, k1, k2, k3⟩
  · have y0 : ((u : Int) == 0) = true := by rw [k0]; rfl
    go_wp2_with fail
    refine bodyPost_ret (results_tmp2 rfl _ _ _) rfl ?_
    exact par_err HE.out (by decide) _ _ _ ⟨rfl, HB3.out⟩
  · have y0 : ((u : Int) == 0) = false := by simp only [beq_eq_false_iff_ne, ne_eq]; omega
    have y1 : (u : Int) < (ST.size : Int) := by omega
    go_wp2_with fail
    refine bodyPost_ret (results_tmp2 rfl _ _ _) rfl ?_
    exact par_err HE.out (by decide) _ _ _ ⟨rfl, HB3.out⟩
  · have y0 : ((u : Int) == 0) = false := by simp only [beq_eq_false_iff_ne, ne_eq]; omega
    have y1 : ((u : Int) < (ST.size : Int)) = False := eq_false (by omega)
    have k4 : (((m.toNat : Nat) : Int) != 46) = true := by simp only [bne, k2]; rfl
    have k5 : (((m.toNat : Nat) : Int) != 47) = true := by simp only [bne, k3]; rfl
    go_wp2_with fail
    refine bodyPost_ret (results_tmp2 rfl _ _ _) rfl ?_
    exact par_err HE.out (by decide) _ _ _ ⟨rfl, HB3.out⟩
theorem m7parse_n_zero (s : ByteArray) (d : List UInt8) (hl : d.length ≤ 90) (hp : 0 < s.size) (h45 : (((((s[0]'hp).toNat : Nat) : Int)) == 45) = true) (hx0 : s.extract 1 s.size = strB d) (hls : s.size ≤ 90) (c0 : ledg d ≠ []) (m : UInt8) (t : List UInt8) (c1 : pdg d = m :: t) (c2 : ledg t ≠ [] ∧ ledg t = t) (c3 : m = 47) (c4 : dv t = 0) (B : Nat) (w : World) (hB : B ≤ w.heap.size) (hT : PQ B w) :
    Calls Tryz.prog 14 #[.string s] w (ParRes d true w) := by
  have HT := hide hT
  have hBk := Nat.le_trans hB (Nat.le_refl _)
  clear hBk
  have hnb : ¬ (ledg t = [] ∨ ledg t ≠ t ∨ (m ≠ 46 ∧ m ≠ 47)) := fun h => by
    rcases h with h | h | ⟨h1, h2⟩
    · exact c2.1 h
    · exact h c2.2
    · exact h2 c3
  have HE := hide (show rpE d = 12 by unfold rpE; rw [if_neg c0, c1]; show (if _ then (3 : Int) else if m = 47 ∧ dv t = 0 then 12 else 0) = 12; rw [if_neg hnb, if_pos ⟨c3, c4⟩])
  have HD := hide (fun w => m7digits_any (strB d) (by rw [strB_size]; omega) w)
  rw [strB_list, lead_ledg] at HD
  have hds : (strB d).size = d.length := strB_size _
  have hle : (ledg d).length ≤ d.length := lead_le d
  have HA := hide (fun w => m7whole_any (ledg d) c0 (ledg_dg d) w)
  have hal := dv_lt (ledg d) (ledg_dg d)
  have hn1 : 0 < (ledg d).length := List.length_pos_iff.2 c0
  have sA : sz 90 ((dv (ledg d) : Nat) : Rat) := sz_natP (Nat.lt_of_lt_of_le hal (Nat.pow_le_pow_right (by omega) (by omega))) (by omega)
  have ex1 : (strB d).extract 0 (ledg d).length = strB (ledg d) := by rw [ext_take, ledg_take]
  have ex2 : (strB d).extract (ledg d).length (strB d).size = strB (pdg d) := by rw [ext_drop, strB_list, pdg_drop]
  rw [hds] at ex2
  rw [T_nat] at HA
  have htl : t.length + 1 ≤ d.length := by
    have := congrArg List.length (ledg_pdg d)
    rw [List.length_append, c1, List.length_cons] at this
    omega
  have HD2 := hide (fun w => m7digits_any (strB t) (by rw [strB_size]; omega) w)
  rw [strB_list, lead_ledg] at HD2
  rw [c1] at ex2
  obtain ⟨hpm, hbm⟩ := head_byte (l := m :: t) rfl
  have hpt := strB_tail m t
  have hms : (strB (m :: t)).size = t.length + 1 := by rw [strB_size, List.length_cons]
  have hts : (strB t).size = t.length := strB_size _
  have hmz : ((strB (m :: t)).toList == []) = false := by
    rw [ByteArray.toList_eq, strB_list]
    rfl
  have hmz3 : (strB (m :: t)).toList.isEmpty = false := by
    rw [ByteArray.toList_eq, strB_list]
    rfl
  have htd : ∀ c ∈ t, isDg c = true := by rw [← c2.2]; exact ledg_dg t
  have htn : t ≠ [] := by rw [← c2.2]; exact c2.1
  have HB2w := hide (fun w => m7whole_any t htn htd w)
  rw [T_nat] at HB2w
  have hbl := dv_lt t htd
  have sB : sz 90 ((dv t : Nat) : Rat) := sz_natP (Nat.lt_of_lt_of_le hbl (Nat.pow_le_pow_right (by omega) (by omega))) (by omega)
  rw [c2.2] at HD2
  have htp : 0 < t.length := List.length_pos_iff.2 htn
  have hb0 : ((T ((dv t : Nat) : Rat)).toList == [48]) = true := by rw [T_zero0, c4]; rfl
  have hm47 : (((m.toNat : Nat) : Int) == 47) = true := by rw [c3]; rfl
  have hm46 : (((m.toNat : Nat) : Int) == 46) = false := by rw [c3]; rfl
  have hm47n : (((m.toNat : Nat) : Int) != 47) = false := by rw [c3]; rfl
  have hm46n : (((m.toNat : Nat) : Int) != 46) = true := by rw [c3]; rfl
  have HVV := hide (True.intro)
  obtain ⟨n, hn⟩ : ∃ n, n = (ledg d).length := ⟨_, rfl⟩
  rw [← hn] at HD hle ex1 ex2 hn1
  obtain ⟨dl, hdl⟩ : ∃ n, n = d.length := ⟨_, rfl⟩
  rw [← hdl] at hds hle hl ex2
  obtain ⟨tl, htl9⟩ : ∃ n, n = t.length := ⟨_, rfl⟩
  rw [← htl9, ← hdl] at htl
  rw [← htl9] at hms hts
  rw [hms] at hpt
  rw [← htl9] at HD2 htp
  generalize T (((dv (ledg d)) : Nat) : Rat) = TA at *
  generalize T ((dv t : Nat) : Rat) = TB at *
  generalize strB (ledg d) = SL at *
  generalize strB (m :: t) = SM at *
  generalize strB t = ST at *
  generalize strB d = SD at *
  clear hT hal sA c0 hn c1 hnb htd htn hbl sB c2 c3 c4 hdl HVV htl9
  have he : (s.toList == []) = false := by
    rw [ByteArray.toList_eq]
    exact beq_false_of_ne fun e => by
      have : s.data.toList.length = 0 := by rw [e]; rfl
      rw [bytes_len] at this
      omega
  have he2 : (s.toList != []) = true := by simp only [bne, he]; rfl
  have he3 : s.toList.isEmpty = false := by
    cases h : s.toList with
    | nil => rw [h] at he; cases he
    | cons a b => rfl
  have g90 : ((90 : Int) < (s.size : Int)) = False := eq_false (by omega)
  have hp1 : (0 : Int) < (s.size : Int) := by omega
  have hp2 : (1 : Int) ≤ (s.size : Int) := by omega
  have hp3 : 1 ≤ s.size := by omega
  have z0 : ((n : Int) == 0) = false := by simp only [beq_eq_false_iff_ne, ne_eq]; omega
  have n0 : (0 : Int) ≤ (n : Int) := by omega
  have n2 : (n : Int) ≤ (SD.size : Int) := by omega
  have n3 : n ≤ SD.size := by omega
  go_enter Tryz.func14, Tryz.ntmps14
  go_wp2_with fail
  go_quiet (fail)
  go_wp2_with fail
  refine (HD.out _).mono ?_
  rintro e w1 ⟨rfl, hb1⟩
  have HB1 := hide ((below_drewN (Below.refl w.heap.size w) _).trans (hb1.mono (Nat.le_refl _)))
  clear hb1
  obtain ⟨W1, hW1⟩ : ∃ W, W = w1 := ⟨_, rfl⟩
  subst hW1
  have HN1 := hide (fun (o : Of (Below W1.heap.size W1)) => cls_callw HA.out o o.h.size)
  go_wp2_with fail
  have kn : Nonempty (Of (Below W1.heap.size W1)) := ⟨⟨_, Below.refl _ _⟩⟩
  refine region_class (C := Cls (Below W1.heap.size W1)) (by kernel_rfl) (by kernel_rfl) (by kernel_rfl) (Cls.mk (Below.refl _ _).drew) ?_
  repeat (go_big_quiet_step (first | rfl | with_reducible exact HN1.out _))
  refine wpQuiet_nil ?_
  intro w2 hcl
  have HB2 := hide (HB1.out.trans (hcl.out.mono HB1.out.size))
  clear hcl kn HN1
  go_wp2_with fail
  go_quiet (fail)
  go_wp2_with fail
  refine (HD2.out _).mono ?_
  rintro e w3 ⟨rfl, hb3⟩
  have HB3 := hide ((below_drewN HB2.out _).trans (hb3.mono (below_drewN HB2.out _).size))
  clear hb3
  have y0 : ((tl : Int) == 0) = false := by simp only [beq_eq_false_iff_ne, ne_eq]; omega
  have y1 : ((tl : Int) < (ST.size : Int)) = False := eq_false (by omega)
  go_wp2_with fail
  refine (HB2w.out _).mono ?_
  rintro e w4 ⟨rfl, hb4⟩
  have HB4 := hide (HB3.out.trans (hb4.mono HB3.out.size))
  clear hb4
  go_wp2_with fail
  refine bodyPost_ret (results_tmp2 rfl _ _ _) rfl ?_
  exact par_err HE.out (by decide) _ _ _ ⟨rfl, HB4.out⟩
theorem m7parse_n_quot (s : ByteArray) (d : List UInt8) (hl : d.length ≤ 90) (hp : 0 < s.size) (h45 : (((((s[0]'hp).toNat : Nat) : Int)) == 45) = true) (hx0 : s.extract 1 s.size = strB d) (hls : s.size ≤ 90) (c0 : ledg d ≠ []) (m : UInt8) (t : List UInt8) (c1 : pdg d = m :: t) (c2 : ledg t ≠ [] ∧ ledg t = t) (c3 : m = 47) (c4 : dv t ≠ 0) (B : Nat) (w : World) (hB : B ≤ w.heap.size) (hT : PQ B w) :
    Calls Tryz.prog 14 #[.string s] w (ParRes d true w) := by
  have HT := hide hT
  have hnb : ¬ (ledg t = [] ∨ ledg t ≠ t ∨ (m ≠ 46 ∧ m ≠ 47)) := fun h => by
    rcases h with h | h | ⟨h1, h2⟩
    · exact c2.1 h
    · exact h c2.2
    · exact h2 c3
  have HE := hide (show rpE d = 0 by unfold rpE; rw [if_neg c0, c1]; show (if _ then (3 : Int) else if m = 47 ∧ dv t = 0 then 12 else 0) = 0; rw [if_neg hnb, if_neg (fun h => c4 h.2)])
  have hv : rpV d = ((dv (ledg d) : Nat) : Rat) / ((dv t : Nat) : Rat) := by unfold rpV; rw [c1]; exact if_pos c3
  have HD := hide (fun w => m7digits_any (strB d) (by rw [strB_size]; omega) w)
  rw [strB_list, lead_ledg] at HD
  have hds : (strB d).size = d.length := strB_size _
  have hle : (ledg d).length ≤ d.length := lead_le d
  have HA := hide (fun w => m7whole_any (ledg d) c0 (ledg_dg d) w)
  have hal := dv_lt (ledg d) (ledg_dg d)
  have hn1 : 0 < (ledg d).length := List.length_pos_iff.2 c0
  have sA : sz 90 ((dv (ledg d) : Nat) : Rat) := sz_natP (Nat.lt_of_lt_of_le hal (Nat.pow_le_pow_right (by omega) (by omega))) (by omega)
  have ex1 : (strB d).extract 0 (ledg d).length = strB (ledg d) := by rw [ext_take, ledg_take]
  have ex2 : (strB d).extract (ledg d).length (strB d).size = strB (pdg d) := by rw [ext_drop, strB_list, pdg_drop]
  rw [hds] at ex2
  rw [T_nat] at HA
  have HP := hide (fun w hB hT => m7product_T (sz_fits (sz_sgn1 true) (by rw [most_eq]; omega)) (sz_fits sA (by rw [most_eq]; omega)) (mulC_of (sz_sgn1 true) sA (by rw [most_eq]; omega)) B w hB hT)
  rw [sgn_mul, sgn1_lit.1] at HP
  have htl : t.length + 1 ≤ d.length := by
    have := congrArg List.length (ledg_pdg d)
    rw [List.length_append, c1, List.length_cons] at this
    omega
  have HD2 := hide (fun w => m7digits_any (strB t) (by rw [strB_size]; omega) w)
  rw [strB_list, lead_ledg] at HD2
  rw [c1] at ex2
  obtain ⟨hpm, hbm⟩ := head_byte (l := m :: t) rfl
  have hpt := strB_tail m t
  have hms : (strB (m :: t)).size = t.length + 1 := by rw [strB_size, List.length_cons]
  have hts : (strB t).size = t.length := strB_size _
  have hmz : ((strB (m :: t)).toList == []) = false := by
    rw [ByteArray.toList_eq, strB_list]
    rfl
  have hmz3 : (strB (m :: t)).toList.isEmpty = false := by
    rw [ByteArray.toList_eq, strB_list]
    rfl
  have htd : ∀ c ∈ t, isDg c = true := by rw [← c2.2]; exact ledg_dg t
  have htn : t ≠ [] := by rw [← c2.2]; exact c2.1
  have HB2w := hide (fun w => m7whole_any t htn htd w)
  rw [T_nat] at HB2w
  have hbl := dv_lt t htd
  have sB : sz 90 ((dv t : Nat) : Rat) := sz_natP (Nat.lt_of_lt_of_le hbl (Nat.pow_le_pow_right (by omega) (by omega))) (by omega)
  rw [c2.2] at HD2
  have htp : 0 < t.length := List.length_pos_iff.2 htn
  have hyn : ((dv t : Nat) : Rat) ≠ 0 := by rw [Ne, Rat.natCast_eq_zero_iff]; exact c4
  have hb0 : ((T ((dv t : Nat) : Rat)).toList == [48]) = false := by rw [T_zero0, decide_eq_false hyn]
  have hyp : 0 < ((dv t : Nat) : Rat).num := by show 0 < ((dv t : Nat) : Int); omega
  have sP : sz 91 (sgn true ((dv (ledg d) : Nat) : Rat)) := by rw [← sgn_mul]; exact sz_mono (sz_mul (sz_sgn1 true) sA) (by omega)
  have HQ := hide (fun w hB hT => r2Div_T (sz_fits sP (by rw [most_eq]; omega)) (sz_fits sB (by rw [most_eq]; omega)) hyp (cmpC_of sP sB (by rw [most_eq]; omega)) B w hB hT)
  rw [sgn_div, ← hv] at HQ
  have hm47 : (((m.toNat : Nat) : Int) == 47) = true := by rw [c3]; rfl
  have hm46 : (((m.toNat : Nat) : Int) == 46) = false := by rw [c3]; rfl
  have hm47n : (((m.toNat : Nat) : Int) != 47) = false := by rw [c3]; rfl
  have hm46n : (((m.toNat : Nat) : Int) != 46) = true := by rw [c3]; rfl
  have HVV := hide (True.intro)
  obtain ⟨R, hR⟩ : ∃ R, R = T (sgn true (rpV d)) := ⟨_, rfl⟩
  have HR := hide hR
  rw [← hR] at HQ
  clear hR
  obtain ⟨n, hn⟩ : ∃ n, n = (ledg d).length := ⟨_, rfl⟩
  rw [← hn] at HD hle ex1 ex2 hn1
  obtain ⟨dl, hdl⟩ : ∃ n, n = d.length := ⟨_, rfl⟩
  rw [← hdl] at hds hle hl ex2
  obtain ⟨tl, htl9⟩ : ∃ n, n = t.length := ⟨_, rfl⟩
  rw [← htl9, ← hdl] at htl
  rw [← htl9] at hms hts
  rw [hms] at hpt
  rw [← htl9] at HD2 htp
  generalize T (((dv (ledg d)) : Nat) : Rat) = TA at *
  generalize T (sgn true ((dv (ledg d) : Nat) : Rat)) = TSA at *
  generalize T ((dv t : Nat) : Rat) = TB at *
  generalize strB (ledg d) = SL at *
  generalize strB (m :: t) = SM at *
  generalize strB t = ST at *
  generalize strB d = SD at *
  clear hT hal sA c0 hn c1 hnb htd htn hbl sB c2 c3 c4 hyn hyp sP hv hdl HVV htl9
  have he : (s.toList == []) = false := by
    rw [ByteArray.toList_eq]
    exact beq_false_of_ne fun e => by
      have : s.data.toList.length = 0 := by rw [e]; rfl
      rw [bytes_len] at this
      omega
  have he2 : (s.toList != []) = true := by simp only [bne, he]; rfl
  have he3 : s.toList.isEmpty = false := by
    cases h : s.toList with
    | nil => rw [h] at he; cases he
    | cons a b => rfl
  have g90 : ((90 : Int) < (s.size : Int)) = False := eq_false (by omega)
  have hp1 : (0 : Int) < (s.size : Int) := by omega
  have hp2 : (1 : Int) ≤ (s.size : Int) := by omega
  have hp3 : 1 ≤ s.size := by omega
  have z0 : ((n : Int) == 0) = false := by simp only [beq_eq_false_iff_ne, ne_eq]; omega
  have n0 : (0 : Int) ≤ (n : Int) := by omega
  have n2 : (n : Int) ≤ (SD.size : Int) := by omega
  have n3 : n ≤ SD.size := by omega
  go_enter Tryz.func14, Tryz.ntmps14
  go_wp2_with fail
  go_quiet (fail)
  go_wp2_with fail
  refine (HD.out _).mono ?_
  rintro e w1 ⟨rfl, hb1⟩
  have HB1 := hide ((below_drewN (Below.refl w.heap.size w) _).trans (hb1.mono (Nat.le_refl _)))
  clear hb1
  obtain ⟨W1, hW1⟩ : ∃ W, W = w1 := ⟨_, rfl⟩
  subst hW1
  have HN1 := hide (fun (o : Of (Below W1.heap.size W1)) => cls_callw HA.out o o.h.size)
  go_wp2_with fail
  have kn : Nonempty (Of (Below W1.heap.size W1)) := ⟨⟨_, Below.refl _ _⟩⟩
  refine region_class (C := Cls (Below W1.heap.size W1)) (by kernel_rfl) (by kernel_rfl) (by kernel_rfl) (Cls.mk (Below.refl _ _).drew) ?_
  repeat (go_big_quiet_step (first | rfl | with_reducible exact HN1.out _))
  refine wpQuiet_nil ?_
  intro w2 hcl
  have HB2 := hide (HB1.out.trans (hcl.out.mono HB1.out.size))
  clear hcl kn HN1
  go_wp2_with fail
  go_quiet (fail)
  go_wp2_with fail
  refine (HD2.out _).mono ?_
  rintro e w3 ⟨rfl, hb3⟩
  have HB3 := hide ((below_drewN HB2.out _).trans (hb3.mono (below_drewN HB2.out _).size))
  clear hb3
  have y0 : ((tl : Int) == 0) = false := by simp only [beq_eq_false_iff_ne, ne_eq]; omega
  have y1 : ((tl : Int) < (ST.size : Int)) = False := eq_false (by omega)
  go_wp2_with fail
  refine (HB2w.out _).mono ?_
  rintro e w4 ⟨rfl, hb4⟩
  have HB4 := hide (HB3.out.trans (hb4.mono HB3.out.size))
  clear hb4
  go_wp2_with fail
  refine (HP.out _ (Nat.le_trans hB HB4.out.size) (HT.out.on HB4.out hB)).mono ?_
  rintro e w5 ⟨rfl, hb5⟩
  have HB5 := hide (HB4.out.trans (hb5.mono HB4.out.size))
  clear hb5
  go_wp2_with fail
  refine (HQ.out _ (Nat.le_trans hB HB5.out.size) (HT.out.on HB5.out hB)).mono ?_
  rintro e w6 ⟨rfl, hb6⟩
  have HB6 := hide (HB5.out.trans (hb6.mono HB5.out.size))
  clear hb6
  go_wp2_with fail
  refine bodyPost_ret (results_tmp2 rfl _ _ _) rfl ?_
  rw [HR.out]
  exact par_ok HE.out _ _ _ ⟨rfl, HB6.out⟩
theorem m7parse_n_dec (s : ByteArray) (d : List UInt8) (hl : d.length ≤ 90) (hp : 0 < s.size) (h45 : (((((s[0]'hp).toNat : Nat) : Int)) == 45) = true) (hx0 : s.extract 1 s.size = strB d) (hls : s.size ≤ 90) (c0 : ledg d ≠ []) (m : UInt8) (t : List UInt8) (c1 : pdg d = m :: t) (c2 : ledg t ≠ [] ∧ ledg t = t) (c3 : m = 46) (B : Nat) (w : World) (hB : B ≤ w.heap.size) (hT : PQ B w) :
    Calls Tryz.prog 14 #[.string s] w (ParRes d true w) := by
  have HT := hide hT
  have hnb : ¬ (ledg t = [] ∨ ledg t ≠ t ∨ (m ≠ 46 ∧ m ≠ 47)) := fun h => by
    rcases h with h | h | ⟨h1, h2⟩
    · exact c2.1 h
    · exact h c2.2
    · exact h1 c3
  have HE := hide (show rpE d = 0 by unfold rpE; rw [if_neg c0, c1]; show (if _ then (3 : Int) else if m = 47 ∧ dv t = 0 then 12 else 0) = 0; rw [if_neg hnb, if_neg (fun h => by rw [c3] at h; exact absurd h.1 (by decide))])
  have hv : rpV d = ((dv (ledg d) : Nat) : Rat) + ((dv t : Nat) : Rat) / ((10 ^ t.length : Nat) : Rat) := by unfold rpV; rw [c1]; exact if_neg (by rw [c3]; decide)
  have HD := hide (fun w => m7digits_any (strB d) (by rw [strB_size]; omega) w)
  rw [strB_list, lead_ledg] at HD
  have hds : (strB d).size = d.length := strB_size _
  have hle : (ledg d).length ≤ d.length := lead_le d
  have HA := hide (fun w => m7whole_any (ledg d) c0 (ledg_dg d) w)
  have hal := dv_lt (ledg d) (ledg_dg d)
  have hn1 : 0 < (ledg d).length := List.length_pos_iff.2 c0
  have sA : sz 90 ((dv (ledg d) : Nat) : Rat) := sz_natP (Nat.lt_of_lt_of_le hal (Nat.pow_le_pow_right (by omega) (by omega))) (by omega)
  have ex1 : (strB d).extract 0 (ledg d).length = strB (ledg d) := by rw [ext_take, ledg_take]
  have ex2 : (strB d).extract (ledg d).length (strB d).size = strB (pdg d) := by rw [ext_drop, strB_list, pdg_drop]
  rw [hds] at ex2
  rw [T_nat] at HA
  have HP := hide (fun w hB hT => m7product_T (sz_fits (sz_sgn1 true) (by rw [most_eq]; omega)) (sz_fits sA (by rw [most_eq]; omega)) (mulC_of (sz_sgn1 true) sA (by rw [most_eq]; omega)) B w hB hT)
  rw [sgn_mul, sgn1_lit.1] at HP
  have htl : t.length + 1 ≤ d.length := by
    have := congrArg List.length (ledg_pdg d)
    rw [List.length_append, c1, List.length_cons] at this
    omega
  have HD2 := hide (fun w => m7digits_any (strB t) (by rw [strB_size]; omega) w)
  rw [strB_list, lead_ledg] at HD2
  rw [c1] at ex2
  obtain ⟨hpm, hbm⟩ := head_byte (l := m :: t) rfl
  have hpt := strB_tail m t
  have hms : (strB (m :: t)).size = t.length + 1 := by rw [strB_size, List.length_cons]
  have hts : (strB t).size = t.length := strB_size _
  have hmz : ((strB (m :: t)).toList == []) = false := by
    rw [ByteArray.toList_eq, strB_list]
    rfl
  have hmz3 : (strB (m :: t)).toList.isEmpty = false := by
    rw [ByteArray.toList_eq, strB_list]
    rfl
  have htd : ∀ c ∈ t, isDg c = true := by rw [← c2.2]; exact ledg_dg t
  have htn : t ≠ [] := by rw [← c2.2]; exact c2.1
  have HB2w := hide (fun w => m7whole_any t htn htd w)
  rw [T_nat] at HB2w
  have hbl := dv_lt t htd
  have sB : sz 90 ((dv t : Nat) : Rat) := sz_natP (Nat.lt_of_lt_of_le hbl (Nat.pow_le_pow_right (by omega) (by omega))) (by omega)
  rw [c2.2] at HD2
  have htp : 0 < t.length := List.length_pos_iff.2 htn
  have HW := hide (fun w => m7power_any t.length (by omega) w)
  have htl2 : t.length ≤ 100 := by omega
  have hyp : 0 < ((10 ^ t.length : Nat) : Rat).num := by show 0 < ((10 ^ t.length : Nat) : Int); exact Int.natCast_pos.2 (Nat.pow_pos (by decide))
  have HQ := hide (fun w hB hT => r2Div_T (sz_fits sB (by rw [most_eq]; omega)) (sz_fits (pow_sz htl2) (by rw [most_eq]; omega)) hyp (cmpC_of sB (pow_sz htl2) (by rw [most_eq]; omega)) B w hB hT)
  have sQ := sz_div (q := 101) (by omega) sB (pow_sz htl2)
  have HS := hide (fun w hB hT => r2Add_T (sz_fits sA (by rw [most_eq]; omega)) (sz_fits sQ (by rw [most_eq]; omega)) B w hB hT)
  rw [show addO ((dv (ledg d) : Nat) : Rat) (((dv t : Nat) : Rat) / ((10 ^ t.length : Nat) : Rat)) = some (rpV d) by rw [hv]; exact if_pos (addC_of sA sQ (by rw [most_eq]; omega))] at HS
  unfold opV at HS
  dsimp only at HS
  have sV : sz 282 (rpV d) := by rw [hv]; exact sz_mono (sz_add sA sQ) (by omega)
  have HP2 := hide (fun w hB hT => m7product_T (sz_fits (sz_sgn1 true) (by rw [most_eq]; omega)) (sz_fits sV (by rw [most_eq]; omega)) (mulC_of (sz_sgn1 true) sV (by rw [most_eq]; omega)) B w hB hT)
  rw [sgn_mul, sgn1_lit.1] at HP2
  have hm47 : (((m.toNat : Nat) : Int) == 47) = false := by rw [c3]; rfl
  have hm46 : (((m.toNat : Nat) : Int) == 46) = true := by rw [c3]; rfl
  have hm47n : (((m.toNat : Nat) : Int) != 47) = true := by rw [c3]; rfl
  have hm46n : (((m.toNat : Nat) : Int) != 46) = false := by rw [c3]; rfl
  have HVV := hide (True.intro)
  obtain ⟨R, hR⟩ : ∃ R, R = T (sgn true (rpV d)) := ⟨_, rfl⟩
  have HR := hide hR
  rw [← hR] at HP2
  clear hR
  obtain ⟨n, hn⟩ : ∃ n, n = (ledg d).length := ⟨_, rfl⟩
  rw [← hn] at HD hle ex1 ex2 hn1
  obtain ⟨dl, hdl⟩ : ∃ n, n = d.length := ⟨_, rfl⟩
  rw [← hdl] at hds hle hl ex2
  obtain ⟨tl, htl9⟩ : ∃ n, n = t.length := ⟨_, rfl⟩
  rw [← htl9, ← hdl] at htl
  rw [← htl9] at hms hts
  rw [hms] at hpt
  rw [← htl9] at HD2 htp
  rw [← htl9] at HW HQ HS htl2
  generalize T (((dv (ledg d)) : Nat) : Rat) = TA at *
  generalize T ((dv t : Nat) : Rat) = TB at *
  generalize T (((dv t : Nat) : Rat) / ((10 ^ tl : Nat) : Rat)) = TQ at *
  generalize T ((10 ^ tl : Nat) : Rat) = TW at *
  generalize T (rpV d) = TV at *
  generalize strB (ledg d) = SL at *
  generalize strB (m :: t) = SM at *
  generalize strB t = ST at *
  generalize strB d = SD at *
  clear hT hal sA c0 hn c1 hnb htd htn hbl sB c2 c3 hyp sQ sV hv htl2 hdl HVV htl9
  have he : (s.toList == []) = false := by
    rw [ByteArray.toList_eq]
    exact beq_false_of_ne fun e => by
      have : s.data.toList.length = 0 := by rw [e]; rfl
      rw [bytes_len] at this
      omega
  have he2 : (s.toList != []) = true := by simp only [bne, he]; rfl
  have he3 : s.toList.isEmpty = false := by
    cases h : s.toList with
    | nil => rw [h] at he; cases he
    | cons a b => rfl
  have g90 : ((90 : Int) < (s.size : Int)) = False := eq_false (by omega)
  have hp1 : (0 : Int) < (s.size : Int) := by omega
  have hp2 : (1 : Int) ≤ (s.size : Int) := by omega
  have hp3 : 1 ≤ s.size := by omega
  have z0 : ((n : Int) == 0) = false := by simp only [beq_eq_false_iff_ne, ne_eq]; omega
  have n0 : (0 : Int) ≤ (n : Int) := by omega
  have n2 : (n : Int) ≤ (SD.size : Int) := by omega
  have n3 : n ≤ SD.size := by omega
  go_enter Tryz.func14, Tryz.ntmps14
  go_wp2_with fail
  go_quiet (fail)
  go_wp2_with fail
  refine (HD.out _).mono ?_
  rintro e w1 ⟨rfl, hb1⟩
  have HB1 := hide ((below_drewN (Below.refl w.heap.size w) _).trans (hb1.mono (Nat.le_refl _)))
  clear hb1
  obtain ⟨W1, hW1⟩ : ∃ W, W = w1 := ⟨_, rfl⟩
  subst hW1
  have HN1 := hide (fun (o : Of (Below W1.heap.size W1)) => cls_callw HA.out o o.h.size)
  go_wp2_with fail
  have kn : Nonempty (Of (Below W1.heap.size W1)) := ⟨⟨_, Below.refl _ _⟩⟩
  refine region_class (C := Cls (Below W1.heap.size W1)) (by kernel_rfl) (by kernel_rfl) (by kernel_rfl) (Cls.mk (Below.refl _ _).drew) ?_
  repeat (go_big_quiet_step (first | rfl | with_reducible exact HN1.out _))
  refine wpQuiet_nil ?_
  intro w2 hcl
  have HB2 := hide (HB1.out.trans (hcl.out.mono HB1.out.size))
  clear hcl kn HN1
  go_wp2_with fail
  go_quiet (fail)
  go_wp2_with fail
  refine (HD2.out _).mono ?_
  rintro e w3 ⟨rfl, hb3⟩
  have HB3 := hide ((below_drewN HB2.out _).trans (hb3.mono (below_drewN HB2.out _).size))
  clear hb3
  have y0 : ((tl : Int) == 0) = false := by simp only [beq_eq_false_iff_ne, ne_eq]; omega
  have y1 : ((tl : Int) < (ST.size : Int)) = False := eq_false (by omega)
  go_wp2_with fail
  refine (HB2w.out _).mono ?_
  rintro e w4 ⟨rfl, hb4⟩
  have HB4 := hide (HB3.out.trans (hb4.mono HB3.out.size))
  clear hb4
  go_wp2_with fail
  refine (HW.out _).mono ?_
  rintro e w5 ⟨rfl, hb5⟩
  have HB5 := hide (HB4.out.trans (hb5.mono HB4.out.size))
  clear hb5
  go_wp2_with fail
  refine (HQ.out _ (Nat.le_trans hB HB5.out.size) (HT.out.on HB5.out hB)).mono ?_
  rintro e w6 ⟨rfl, hb6⟩
  have HB6 := hide (HB5.out.trans (hb6.mono HB5.out.size))
  clear hb6
  go_wp2_with fail
  refine (HS.out _ (Nat.le_trans hB HB6.out.size) (HT.out.on HB6.out hB)).mono ?_
  rintro e w7 ⟨rfl, hb7⟩
  have HB7 := hide (HB6.out.trans (hb7.mono HB6.out.size))
  clear hb7
  go_wp2_with fail
  refine (HP2.out _ (Nat.le_trans hB HB7.out.size) (HT.out.on HB7.out hB)).mono ?_
  rintro e w8 ⟨rfl, hb8⟩
  have HB8 := hide (HB7.out.trans (hb8.mono HB7.out.size))
  clear hb8
  go_wp2_with fail
  refine bodyPost_ret (results_tmp2 rfl _ _ _) rfl ?_
  rw [HR.out]
  exact par_ok HE.out _ _ _ ⟨rfl, HB8.out⟩
theorem m7parse_p_none (s : ByteArray) (d : List UInt8) (hl : d.length ≤ 90) (hs : s = strB d) (hz : d = [] ∨ ∃ hp : 0 < s.size, (((((s[0]'hp).toNat : Nat) : Int)) == 45) = false) (c0 : ledg d = []) (B : Nat) (w : World) (hB : B ≤ w.heap.size) (hT : PQ B w) :
    Calls Tryz.prog 14 #[.string s] w (ParRes d false w) := by
  have HT := hide hT
  have HE := hide (show rpE d = 3 by unfold rpE; rw [if_pos c0])
  have HD := hide (fun w => m7digits_any (strB d) (by rw [strB_size]; omega) w)
  rw [strB_list, lead_ledg] at HD
  have hds : (strB d).size = d.length := strB_size _
  have hle : (ledg d).length ≤ d.length := lead_le d
  have HVV := hide (True.intro)
  obtain ⟨n, hn⟩ : ∃ n, n = (ledg d).length := ⟨_, rfl⟩
  rw [← hn] at HD hle
  have hBB := hide hB
  clear hBB
  have hn0 : n = 0 := by rw [hn, c0]; rfl
  subst hn0
  obtain ⟨dl, hdl⟩ : ∃ n, n = d.length := ⟨_, rfl⟩
  rw [← hdl] at hds hle hl
  have _h := True.intro
  rw [hs] at hz ⊢
  clear hs
  have hz2 : Hid (((strB d).toList == []) = true ∧ (strB d).toList.isEmpty = true ∧ dl = 0 ∨ ∃ hp : 0 < (strB d).size, (((((strB d)[0]'hp).toNat : Nat) : Int) == 45) = false ∧ ((strB d).toList == []) = false ∧ (strB d).toList.isEmpty = false) := hide (by
    rcases hz with h | ⟨hp, h⟩
    · left
      rw [hdl, h, ByteArray.toList_eq, strB_list]
      exact ⟨rfl, rfl, rfl⟩
    · right
      refine ⟨hp, h, ?_⟩
      have hne : d ≠ [] := fun e => by rw [e] at hp; exact absurd hp (by decide)
      rw [ByteArray.toList_eq, strB_list]
      cases d with
      | nil => exact absurd rfl hne
      | cons a b => exact ⟨rfl, rfl⟩)
  clear hz
  generalize strB d = SD at *
  clear hT c0 hn hdl HVV _h
  have g90 : ((90 : Int) < (SD.size : Int)) = False := eq_false (by omega)
  rcases hz2.out with ⟨e1, e2, _⟩ | ⟨hp, h45, e1, e2⟩
  · have e3 : (SD.toList != []) = false := by simp only [bne, e1]; rfl
    go_enter Tryz.func14, Tryz.ntmps14
    go_wp2_with fail
    refine (HD.out _).mono ?_
    rintro e w1 ⟨rfl, hb1⟩
    have HB1 := hide hb1
    clear hb1
    go_wp2_with fail
    refine bodyPost_ret (results_tmp2 rfl _ _ _) rfl ?_
    exact par_err HE.out (by decide) _ _ _ ⟨rfl, HB1.out⟩
  · have e3 : (SD.toList != []) = true := by simp only [bne, e1]; rfl
    have hp1 : (0 : Int) < (SD.size : Int) := by omega
    go_enter Tryz.func14, Tryz.ntmps14
    go_wp2_with fail
    refine (HD.out _).mono ?_
    rintro e w1 ⟨rfl, hb1⟩
    have HB1 := hide hb1
    clear hb1
    go_wp2_with fail
    refine bodyPost_ret (results_tmp2 rfl _ _ _) rfl ?_
    exact par_err HE.out (by decide) _ _ _ ⟨rfl, HB1.out⟩
theorem m7parse_p_all (s : ByteArray) (d : List UInt8) (hl : d.length ≤ 90) (hs : s = strB d) (hz : d = [] ∨ ∃ hp : 0 < s.size, (((((s[0]'hp).toNat : Nat) : Int)) == 45) = false) (c0 : ledg d ≠ []) (c1 : pdg d = []) (B : Nat) (w : World) (hB : B ≤ w.heap.size) (hT : PQ B w) :
    Calls Tryz.prog 14 #[.string s] w (ParRes d false w) := by
  have HT := hide hT
  have HE := hide (show rpE d = 0 by unfold rpE; rw [if_neg c0, c1])
  have hv : rpV d = ((dv (ledg d) : Nat) : Rat) := by unfold rpV; rw [c1]
  have HD := hide (fun w => m7digits_any (strB d) (by rw [strB_size]; omega) w)
  rw [strB_list, lead_ledg] at HD
  have hds : (strB d).size = d.length := strB_size _
  have hle : (ledg d).length ≤ d.length := lead_le d
  have HA := hide (fun w => m7whole_any (ledg d) c0 (ledg_dg d) w)
  have hal := dv_lt (ledg d) (ledg_dg d)
  have hn1 : 0 < (ledg d).length := List.length_pos_iff.2 c0
  have sA : sz 90 ((dv (ledg d) : Nat) : Rat) := sz_natP (Nat.lt_of_lt_of_le hal (Nat.pow_le_pow_right (by omega) (by omega))) (by omega)
  have ex1 : (strB d).extract 0 (ledg d).length = strB (ledg d) := by rw [ext_take, ledg_take]
  have ex2 : (strB d).extract (ledg d).length (strB d).size = strB (pdg d) := by rw [ext_drop, strB_list, pdg_drop]
  rw [hds] at ex2
  rw [T_nat] at HA
  have HP := hide (fun w hB hT => m7product_T (sz_fits (sz_sgn1 false) (by rw [most_eq]; omega)) (sz_fits sA (by rw [most_eq]; omega)) (mulC_of (sz_sgn1 false) sA (by rw [most_eq]; omega)) B w hB hT)
  rw [sgn_mul, sgn1_lit.2] at HP
  rw [c1] at ex2
  rw [show strB [] = ⟨#[]⟩ from rfl] at ex2
  have HVV := hide (True.intro)
  obtain ⟨R, hR⟩ : ∃ R, R = T (sgn false (rpV d)) := ⟨_, rfl⟩
  have HR := hide hR
  rw [hv] at hR
  rw [← hR] at HP
  clear hR
  obtain ⟨n, hn⟩ : ∃ n, n = (ledg d).length := ⟨_, rfl⟩
  rw [← hn] at HD hle ex1 ex2 hn1
  obtain ⟨dl, hdl⟩ : ∃ n, n = d.length := ⟨_, rfl⟩
  rw [← hdl] at hds hle hl ex2
  generalize T (((dv (ledg d)) : Nat) : Rat) = TA at *
  generalize strB (ledg d) = SL at *
  rw [hs] at hz ⊢
  clear hs
  have hz2 : Hid (((strB d).toList == []) = true ∧ (strB d).toList.isEmpty = true ∧ dl = 0 ∨ ∃ hp : 0 < (strB d).size, (((((strB d)[0]'hp).toNat : Nat) : Int) == 45) = false ∧ ((strB d).toList == []) = false ∧ (strB d).toList.isEmpty = false) := hide (by
    rcases hz with h | ⟨hp, h⟩
    · left
      rw [hdl, h, ByteArray.toList_eq, strB_list]
      exact ⟨rfl, rfl, rfl⟩
    · right
      refine ⟨hp, h, ?_⟩
      have hne : d ≠ [] := fun e => by rw [e] at hp; exact absurd hp (by decide)
      rw [ByteArray.toList_eq, strB_list]
      cases d with
      | nil => exact absurd rfl hne
      | cons a b => exact ⟨rfl, rfl⟩)
  clear hz
  generalize strB d = SD at *
  clear hT hal sA c0 hn c1 hv hdl HVV
  have g90 : ((90 : Int) < (SD.size : Int)) = False := eq_false (by omega)
  rcases hz2.out with ⟨_, _, e0⟩ | ⟨hp, h45, e1, e2⟩
  · omega
  have e3 : (SD.toList != []) = true := by simp only [bne, e1]; rfl
  have hp1 : (0 : Int) < (SD.size : Int) := by omega
  clear hz2
  have z0 : ((n : Int) == 0) = false := by simp only [beq_eq_false_iff_ne, ne_eq]; omega
  have n0 : (0 : Int) ≤ (n : Int) := by omega
  have n2 : (n : Int) ≤ (SD.size : Int) := by omega
  have n3 : n ≤ SD.size := by omega
  go_enter Tryz.func14, Tryz.ntmps14
  go_wp2_with fail
  refine (HD.out _).mono ?_
  rintro e w1 ⟨rfl, hb1⟩
  have HB1 := hide hb1
  clear hb1
  obtain ⟨W1, hW1⟩ : ∃ W, W = w1 := ⟨_, rfl⟩
  subst hW1
  have HN1 := hide (fun (o : Of (Below W1.heap.size W1)) => cls_callw HA.out o o.h.size)
  go_wp2_with fail
  have kn : Nonempty (Of (Below W1.heap.size W1)) := ⟨⟨_, Below.refl _ _⟩⟩
  refine region_class (C := Cls (Below W1.heap.size W1)) (by kernel_rfl) (by kernel_rfl) (by kernel_rfl) (Cls.mk (Below.refl _ _).drew) ?_
  repeat (go_big_quiet_step (first | rfl | with_reducible exact HN1.out _))
  refine wpQuiet_nil ?_
  intro w2 hcl
  have HB2 := hide (HB1.out.trans (hcl.out.mono HB1.out.size))
  clear hcl kn HN1
  go_wp2_with fail
  refine (HP.out _ (Nat.le_trans hB HB2.out.size) (HT.out.on HB2.out hB)).mono ?_
  rintro e w3 ⟨rfl, hb3⟩
  have HB3 := hide (HB2.out.trans (hb3.mono HB2.out.size))
  clear hb3
  go_wp2_with fail
  refine bodyPost_ret (results_tmp2 rfl _ _ _) rfl ?_
  rw [HR.out]
  exact par_ok HE.out _ _ _ ⟨rfl, HB3.out⟩
theorem m7parse_p_bad (s : ByteArray) (d : List UInt8) (hl : d.length ≤ 90) (hs : s = strB d) (hz : d = [] ∨ ∃ hp : 0 < s.size, (((((s[0]'hp).toNat : Nat) : Int)) == 45) = false) (c0 : ledg d ≠ []) (m : UInt8) (t : List UInt8) (c1 : pdg d = m :: t) (c2 : ledg t = [] ∨ ledg t ≠ t ∨ (m ≠ 46 ∧ m ≠ 47)) (B : Nat) (w : World) (hB : B ≤ w.heap.size) (hT : PQ B w) :
    Calls Tryz.prog 14 #[.string s] w (ParRes d false w) := by
  have HT := hide hT
  have hBk := Nat.le_trans hB (Nat.le_refl _)
  clear hBk
  have HE := hide (show rpE d = 3 by unfold rpE; rw [if_neg c0, c1]; exact if_pos c2)
  have HD := hide (fun w => m7digits_any (strB d) (by rw [strB_size]; omega) w)
  rw [strB_list, lead_ledg] at HD
  have hds : (strB d).size = d.length := strB_size _
  have hle : (ledg d).length ≤ d.length := lead_le d
  have HA := hide (fun w => m7whole_any (ledg d) c0 (ledg_dg d) w)
  have hal := dv_lt (ledg d) (ledg_dg d)
  have hn1 : 0 < (ledg d).length := List.length_pos_iff.2 c0
  have sA : sz 90 ((dv (ledg d) : Nat) : Rat) := sz_natP (Nat.lt_of_lt_of_le hal (Nat.pow_le_pow_right (by omega) (by omega))) (by omega)
  have ex1 : (strB d).extract 0 (ledg d).length = strB (ledg d) := by rw [ext_take, ledg_take]
  have ex2 : (strB d).extract (ledg d).length (strB d).size = strB (pdg d) := by rw [ext_drop, strB_list, pdg_drop]
  rw [hds] at ex2
  rw [T_nat] at HA
  have htl : t.length + 1 ≤ d.length := by
    have := congrArg List.length (ledg_pdg d)
    rw [List.length_append, c1, List.length_cons] at this
    omega
  have HD2 := hide (fun w => m7digits_any (strB t) (by rw [strB_size]; omega) w)
  rw [strB_list, lead_ledg] at HD2
  rw [c1] at ex2
  obtain ⟨hpm, hbm⟩ := head_byte (l := m :: t) rfl
  have hpt := strB_tail m t
  have hms : (strB (m :: t)).size = t.length + 1 := by rw [strB_size, List.length_cons]
  have hts : (strB t).size = t.length := strB_size _
  have hmz : ((strB (m :: t)).toList == []) = false := by
    rw [ByteArray.toList_eq, strB_list]
    rfl
  have hmz3 : (strB (m :: t)).toList.isEmpty = false := by
    rw [ByteArray.toList_eq, strB_list]
    rfl
  have hway : (ledg t).length = 0 ∨ (0 < (ledg t).length ∧ (ledg t).length < t.length) ∨ (0 < (ledg t).length ∧ (ledg t).length = t.length ∧ (((m.toNat : Nat) : Int) == 46) = false ∧ (((m.toNat : Nat) : Int) == 47) = false) := by
    have hlt : (ledg t).length ≤ t.length := lead_le t
    by_cases k0 : (ledg t).length = 0
    · exact .inl k0
    by_cases k1 : (ledg t).length < t.length
    · exact .inr (.inl ⟨by omega, k1⟩)
    · have ke : ledg t = t := by rw [← ledg_take, List.take_of_length_le (by omega)]
      refine .inr (.inr ⟨by omega, by omega, ?_⟩)
      have hmm : m ≠ 46 ∧ m ≠ 47 := by
        rcases c2 with h | h | h
        · exact absurd (by rw [h]; rfl) k0
        · exact absurd ke h
        · exact h
      have q1 : m.toNat ≠ 46 := fun e => hmm.1 (UInt8.toNat_inj.1 e)
      have q2 : m.toNat ≠ 47 := fun e => hmm.2 (UInt8.toNat_inj.1 e)
      constructor <;> (simp only [beq_eq_false_iff_ne, ne_eq]; omega)
  have HVV := hide (True.intro)
  obtain ⟨n, hn⟩ : ∃ n, n = (ledg d).length := ⟨_, rfl⟩
  rw [← hn] at HD hle ex1 ex2 hn1
  obtain ⟨dl, hdl⟩ : ∃ n, n = d.length := ⟨_, rfl⟩
  rw [← hdl] at hds hle hl ex2
  obtain ⟨tl, htl9⟩ : ∃ n, n = t.length := ⟨_, rfl⟩
  rw [← htl9, ← hdl] at htl
  rw [← htl9] at hms hts
  rw [hms] at hpt
  obtain ⟨u, hu⟩ : ∃ n, n = (ledg t).length := ⟨_, rfl⟩
  rw [← hu, ← htl9] at hway
  rw [← hu] at HD2
  generalize T (((dv (ledg d)) : Nat) : Rat) = TA at *
  generalize strB (ledg d) = SL at *
  generalize strB (m :: t) = SM at *
  generalize strB t = ST at *
  rw [hs] at hz ⊢
  clear hs
  have hz2 : Hid (((strB d).toList == []) = true ∧ (strB d).toList.isEmpty = true ∧ dl = 0 ∨ ∃ hp : 0 < (strB d).size, (((((strB d)[0]'hp).toNat : Nat) : Int) == 45) = false ∧ ((strB d).toList == []) = false ∧ (strB d).toList.isEmpty = false) := hide (by
    rcases hz with h | ⟨hp, h⟩
    · left
      rw [hdl, h, ByteArray.toList_eq, strB_list]
      exact ⟨rfl, rfl, rfl⟩
    · right
      refine ⟨hp, h, ?_⟩
      have hne : d ≠ [] := fun e => by rw [e] at hp; exact absurd hp (by decide)
      rw [ByteArray.toList_eq, strB_list]
      cases d with
      | nil => exact absurd rfl hne
      | cons a b => exact ⟨rfl, rfl⟩)
  clear hz
  generalize strB d = SD at *
  clear hT hal sA c0 hn c1 c2 hu hdl HVV htl9
  have g90 : ((90 : Int) < (SD.size : Int)) = False := eq_false (by omega)
  rcases hz2.out with ⟨_, _, e0⟩ | ⟨hp, h45, e1, e2⟩
  · omega
  have e3 : (SD.toList != []) = true := by simp only [bne, e1]; rfl
  have hp1 : (0 : Int) < (SD.size : Int) := by omega
  clear hz2
  have z0 : ((n : Int) == 0) = false := by simp only [beq_eq_false_iff_ne, ne_eq]; omega
  have n0 : (0 : Int) ≤ (n : Int) := by omega
  have n2 : (n : Int) ≤ (SD.size : Int) := by omega
  have n3 : n ≤ SD.size := by omega
  go_enter Tryz.func14, Tryz.ntmps14
  go_wp2_with fail
  refine (HD.out _).mono ?_
  rintro e w1 ⟨rfl, hb1⟩
  have HB1 := hide hb1
  clear hb1
  obtain ⟨W1, hW1⟩ : ∃ W, W = w1 := ⟨_, rfl⟩
  subst hW1
  have HN1 := hide (fun (o : Of (Below W1.heap.size W1)) => cls_callw HA.out o o.h.size)
  go_wp2_with fail
  have kn : Nonempty (Of (Below W1.heap.size W1)) := ⟨⟨_, Below.refl _ _⟩⟩
  refine region_class (C := Cls (Below W1.heap.size W1)) (by kernel_rfl) (by kernel_rfl) (by kernel_rfl) (Cls.mk (Below.refl _ _).drew) ?_
  repeat (go_big_quiet_step (first | rfl | with_reducible exact HN1.out _))
  refine wpQuiet_nil ?_
  intro w2 hcl
  have HB2 := hide (HB1.out.trans (hcl.out.mono HB1.out.size))
  clear hcl kn HN1
  go_wp2_with fail
  go_quiet (fail)
  go_wp2_with fail
  refine (HD2.out _).mono ?_
  rintro e w3 ⟨rfl, hb3⟩
  have HB3 := hide ((below_drewN HB2.out _).trans (hb3.mono (below_drewN HB2.out _).size))
  clear hb3
  rcases hway with k0 | ⟨k0, k1⟩ | ⟨k0, k1, k2, k3⟩
  · have y0 : ((u : Int) == 0) = true := by rw [k0]; rfl
    go_wp2_with fail
    refine bodyPost_ret (results_tmp2 rfl _ _ _) rfl ?_
    exact par_err HE.out (by decide) _ _ _ ⟨rfl, HB3.out⟩
  · have y0 : ((u : Int) == 0) = false := by simp only [beq_eq_false_iff_ne, ne_eq]; omega
    have y1 : (u : Int) < (ST.size : Int) := by omega
    go_wp2_with fail
    refine bodyPost_ret (results_tmp2 rfl _ _ _) rfl ?_
    exact par_err HE.out (by decide) _ _ _ ⟨rfl, HB3.out⟩
  · have y0 : ((u : Int) == 0) = false := by simp only [beq_eq_false_iff_ne, ne_eq]; omega
    have y1 : ((u : Int) < (ST.size : Int)) = False := eq_false (by omega)
    have k4 : (((m.toNat : Nat) : Int) != 46) = true := by simp only [bne, k2]; rfl
    have k5 : (((m.toNat : Nat) : Int) != 47) = true := by simp only [bne, k3]; rfl
    go_wp2_with fail
    refine bodyPost_ret (results_tmp2 rfl _ _ _) rfl ?_
    exact par_err HE.out (by decide) _ _ _ ⟨rfl, HB3.out⟩
theorem m7parse_p_zero (s : ByteArray) (d : List UInt8) (hl : d.length ≤ 90) (hs : s = strB d) (hz : d = [] ∨ ∃ hp : 0 < s.size, (((((s[0]'hp).toNat : Nat) : Int)) == 45) = false) (c0 : ledg d ≠ []) (m : UInt8) (t : List UInt8) (c1 : pdg d = m :: t) (c2 : ledg t ≠ [] ∧ ledg t = t) (c3 : m = 47) (c4 : dv t = 0) (B : Nat) (w : World) (hB : B ≤ w.heap.size) (hT : PQ B w) :
    Calls Tryz.prog 14 #[.string s] w (ParRes d false w) := by
  have HT := hide hT
  have hBk := Nat.le_trans hB (Nat.le_refl _)
  clear hBk
  have hnb : ¬ (ledg t = [] ∨ ledg t ≠ t ∨ (m ≠ 46 ∧ m ≠ 47)) := fun h => by
    rcases h with h | h | ⟨h1, h2⟩
    · exact c2.1 h
    · exact h c2.2
    · exact h2 c3
  have HE := hide (show rpE d = 12 by unfold rpE; rw [if_neg c0, c1]; show (if _ then (3 : Int) else if m = 47 ∧ dv t = 0 then 12 else 0) = 12; rw [if_neg hnb, if_pos ⟨c3, c4⟩])
  have HD := hide (fun w => m7digits_any (strB d) (by rw [strB_size]; omega) w)
  rw [strB_list, lead_ledg] at HD
  have hds : (strB d).size = d.length := strB_size _
  have hle : (ledg d).length ≤ d.length := lead_le d
  have HA := hide (fun w => m7whole_any (ledg d) c0 (ledg_dg d) w)
  have hal := dv_lt (ledg d) (ledg_dg d)
  have hn1 : 0 < (ledg d).length := List.length_pos_iff.2 c0
  have sA : sz 90 ((dv (ledg d) : Nat) : Rat) := sz_natP (Nat.lt_of_lt_of_le hal (Nat.pow_le_pow_right (by omega) (by omega))) (by omega)
  have ex1 : (strB d).extract 0 (ledg d).length = strB (ledg d) := by rw [ext_take, ledg_take]
  have ex2 : (strB d).extract (ledg d).length (strB d).size = strB (pdg d) := by rw [ext_drop, strB_list, pdg_drop]
  rw [hds] at ex2
  rw [T_nat] at HA
  have htl : t.length + 1 ≤ d.length := by
    have := congrArg List.length (ledg_pdg d)
    rw [List.length_append, c1, List.length_cons] at this
    omega
  have HD2 := hide (fun w => m7digits_any (strB t) (by rw [strB_size]; omega) w)
  rw [strB_list, lead_ledg] at HD2
  rw [c1] at ex2
  obtain ⟨hpm, hbm⟩ := head_byte (l := m :: t) rfl
  have hpt := strB_tail m t
  have hms : (strB (m :: t)).size = t.length + 1 := by rw [strB_size, List.length_cons]
  have hts : (strB t).size = t.length := strB_size _
  have hmz : ((strB (m :: t)).toList == []) = false := by
    rw [ByteArray.toList_eq, strB_list]
    rfl
  have hmz3 : (strB (m :: t)).toList.isEmpty = false := by
    rw [ByteArray.toList_eq, strB_list]
    rfl
  have htd : ∀ c ∈ t, isDg c = true := by rw [← c2.2]; exact ledg_dg t
  have htn : t ≠ [] := by rw [← c2.2]; exact c2.1
  have HB2w := hide (fun w => m7whole_any t htn htd w)
  rw [T_nat] at HB2w
  have hbl := dv_lt t htd
  have sB : sz 90 ((dv t : Nat) : Rat) := sz_natP (Nat.lt_of_lt_of_le hbl (Nat.pow_le_pow_right (by omega) (by omega))) (by omega)
  rw [c2.2] at HD2
  have htp : 0 < t.length := List.length_pos_iff.2 htn
  have hb0 : ((T ((dv t : Nat) : Rat)).toList == [48]) = true := by rw [T_zero0, c4]; rfl
  have hm47 : (((m.toNat : Nat) : Int) == 47) = true := by rw [c3]; rfl
  have hm46 : (((m.toNat : Nat) : Int) == 46) = false := by rw [c3]; rfl
  have hm47n : (((m.toNat : Nat) : Int) != 47) = false := by rw [c3]; rfl
  have hm46n : (((m.toNat : Nat) : Int) != 46) = true := by rw [c3]; rfl
  have HVV := hide (True.intro)
  obtain ⟨n, hn⟩ : ∃ n, n = (ledg d).length := ⟨_, rfl⟩
  rw [← hn] at HD hle ex1 ex2 hn1
  obtain ⟨dl, hdl⟩ : ∃ n, n = d.length := ⟨_, rfl⟩
  rw [← hdl] at hds hle hl ex2
  obtain ⟨tl, htl9⟩ : ∃ n, n = t.length := ⟨_, rfl⟩
  rw [← htl9, ← hdl] at htl
  rw [← htl9] at hms hts
  rw [hms] at hpt
  rw [← htl9] at HD2 htp
  generalize T (((dv (ledg d)) : Nat) : Rat) = TA at *
  generalize T ((dv t : Nat) : Rat) = TB at *
  generalize strB (ledg d) = SL at *
  generalize strB (m :: t) = SM at *
  generalize strB t = ST at *
  rw [hs] at hz ⊢
  clear hs
  have hz2 : Hid (((strB d).toList == []) = true ∧ (strB d).toList.isEmpty = true ∧ dl = 0 ∨ ∃ hp : 0 < (strB d).size, (((((strB d)[0]'hp).toNat : Nat) : Int) == 45) = false ∧ ((strB d).toList == []) = false ∧ (strB d).toList.isEmpty = false) := hide (by
    rcases hz with h | ⟨hp, h⟩
    · left
      rw [hdl, h, ByteArray.toList_eq, strB_list]
      exact ⟨rfl, rfl, rfl⟩
    · right
      refine ⟨hp, h, ?_⟩
      have hne : d ≠ [] := fun e => by rw [e] at hp; exact absurd hp (by decide)
      rw [ByteArray.toList_eq, strB_list]
      cases d with
      | nil => exact absurd rfl hne
      | cons a b => exact ⟨rfl, rfl⟩)
  clear hz
  generalize strB d = SD at *
  clear hT hal sA c0 hn c1 hnb htd htn hbl sB c2 c3 c4 hdl HVV htl9
  have g90 : ((90 : Int) < (SD.size : Int)) = False := eq_false (by omega)
  rcases hz2.out with ⟨_, _, e0⟩ | ⟨hp, h45, e1, e2⟩
  · omega
  have e3 : (SD.toList != []) = true := by simp only [bne, e1]; rfl
  have hp1 : (0 : Int) < (SD.size : Int) := by omega
  clear hz2
  have z0 : ((n : Int) == 0) = false := by simp only [beq_eq_false_iff_ne, ne_eq]; omega
  have n0 : (0 : Int) ≤ (n : Int) := by omega
  have n2 : (n : Int) ≤ (SD.size : Int) := by omega
  have n3 : n ≤ SD.size := by omega
  go_enter Tryz.func14, Tryz.ntmps14
  go_wp2_with fail
  refine (HD.out _).mono ?_
  rintro e w1 ⟨rfl, hb1⟩
  have HB1 := hide hb1
  clear hb1
  obtain ⟨W1, hW1⟩ : ∃ W, W = w1 := ⟨_, rfl⟩
  subst hW1
  have HN1 := hide (fun (o : Of (Below W1.heap.size W1)) => cls_callw HA.out o o.h.size)
  go_wp2_with fail
  have kn : Nonempty (Of (Below W1.heap.size W1)) := ⟨⟨_, Below.refl _ _⟩⟩
  refine region_class (C := Cls (Below W1.heap.size W1)) (by kernel_rfl) (by kernel_rfl) (by kernel_rfl) (Cls.mk (Below.refl _ _).drew) ?_
  repeat (go_big_quiet_step (first | rfl | with_reducible exact HN1.out _))
  refine wpQuiet_nil ?_
  intro w2 hcl
  have HB2 := hide (HB1.out.trans (hcl.out.mono HB1.out.size))
  clear hcl kn HN1
  go_wp2_with fail
  go_quiet (fail)
  go_wp2_with fail
  refine (HD2.out _).mono ?_
  rintro e w3 ⟨rfl, hb3⟩
  have HB3 := hide ((below_drewN HB2.out _).trans (hb3.mono (below_drewN HB2.out _).size))
  clear hb3
  have y0 : ((tl : Int) == 0) = false := by simp only [beq_eq_false_iff_ne, ne_eq]; omega
  have y1 : ((tl : Int) < (ST.size : Int)) = False := eq_false (by omega)
  go_wp2_with fail
  refine (HB2w.out _).mono ?_
  rintro e w4 ⟨rfl, hb4⟩
  have HB4 := hide (HB3.out.trans (hb4.mono HB3.out.size))
  clear hb4
  go_wp2_with fail
  refine bodyPost_ret (results_tmp2 rfl _ _ _) rfl ?_
  exact par_err HE.out (by decide) _ _ _ ⟨rfl, HB4.out⟩
theorem m7parse_p_quot (s : ByteArray) (d : List UInt8) (hl : d.length ≤ 90) (hs : s = strB d) (hz : d = [] ∨ ∃ hp : 0 < s.size, (((((s[0]'hp).toNat : Nat) : Int)) == 45) = false) (c0 : ledg d ≠ []) (m : UInt8) (t : List UInt8) (c1 : pdg d = m :: t) (c2 : ledg t ≠ [] ∧ ledg t = t) (c3 : m = 47) (c4 : dv t ≠ 0) (B : Nat) (w : World) (hB : B ≤ w.heap.size) (hT : PQ B w) :
    Calls Tryz.prog 14 #[.string s] w (ParRes d false w) := by
  have HT := hide hT
  have hnb : ¬ (ledg t = [] ∨ ledg t ≠ t ∨ (m ≠ 46 ∧ m ≠ 47)) := fun h => by
    rcases h with h | h | ⟨h1, h2⟩
    · exact c2.1 h
    · exact h c2.2
    · exact h2 c3
  have HE := hide (show rpE d = 0 by unfold rpE; rw [if_neg c0, c1]; show (if _ then (3 : Int) else if m = 47 ∧ dv t = 0 then 12 else 0) = 0; rw [if_neg hnb, if_neg (fun h => c4 h.2)])
  have hv : rpV d = ((dv (ledg d) : Nat) : Rat) / ((dv t : Nat) : Rat) := by unfold rpV; rw [c1]; exact if_pos c3
  have HD := hide (fun w => m7digits_any (strB d) (by rw [strB_size]; omega) w)
  rw [strB_list, lead_ledg] at HD
  have hds : (strB d).size = d.length := strB_size _
  have hle : (ledg d).length ≤ d.length := lead_le d
  have HA := hide (fun w => m7whole_any (ledg d) c0 (ledg_dg d) w)
  have hal := dv_lt (ledg d) (ledg_dg d)
  have hn1 : 0 < (ledg d).length := List.length_pos_iff.2 c0
  have sA : sz 90 ((dv (ledg d) : Nat) : Rat) := sz_natP (Nat.lt_of_lt_of_le hal (Nat.pow_le_pow_right (by omega) (by omega))) (by omega)
  have ex1 : (strB d).extract 0 (ledg d).length = strB (ledg d) := by rw [ext_take, ledg_take]
  have ex2 : (strB d).extract (ledg d).length (strB d).size = strB (pdg d) := by rw [ext_drop, strB_list, pdg_drop]
  rw [hds] at ex2
  rw [T_nat] at HA
  have HP := hide (fun w hB hT => m7product_T (sz_fits (sz_sgn1 false) (by rw [most_eq]; omega)) (sz_fits sA (by rw [most_eq]; omega)) (mulC_of (sz_sgn1 false) sA (by rw [most_eq]; omega)) B w hB hT)
  rw [sgn_mul, sgn1_lit.2] at HP
  have htl : t.length + 1 ≤ d.length := by
    have := congrArg List.length (ledg_pdg d)
    rw [List.length_append, c1, List.length_cons] at this
    omega
  have HD2 := hide (fun w => m7digits_any (strB t) (by rw [strB_size]; omega) w)
  rw [strB_list, lead_ledg] at HD2
  rw [c1] at ex2
  obtain ⟨hpm, hbm⟩ := head_byte (l := m :: t) rfl
  have hpt := strB_tail m t
  have hms : (strB (m :: t)).size = t.length + 1 := by rw [strB_size, List.length_cons]
  have hts : (strB t).size = t.length := strB_size _
  have hmz : ((strB (m :: t)).toList == []) = false := by
    rw [ByteArray.toList_eq, strB_list]
    rfl
  have hmz3 : (strB (m :: t)).toList.isEmpty = false := by
    rw [ByteArray.toList_eq, strB_list]
    rfl
  have htd : ∀ c ∈ t, isDg c = true := by rw [← c2.2]; exact ledg_dg t
  have htn : t ≠ [] := by rw [← c2.2]; exact c2.1
  have HB2w := hide (fun w => m7whole_any t htn htd w)
  rw [T_nat] at HB2w
  have hbl := dv_lt t htd
  have sB : sz 90 ((dv t : Nat) : Rat) := sz_natP (Nat.lt_of_lt_of_le hbl (Nat.pow_le_pow_right (by omega) (by omega))) (by omega)
  rw [c2.2] at HD2
  have htp : 0 < t.length := List.length_pos_iff.2 htn
  have hyn : ((dv t : Nat) : Rat) ≠ 0 := by rw [Ne, Rat.natCast_eq_zero_iff]; exact c4
  have hb0 : ((T ((dv t : Nat) : Rat)).toList == [48]) = false := by rw [T_zero0, decide_eq_false hyn]
  have hyp : 0 < ((dv t : Nat) : Rat).num := by show 0 < ((dv t : Nat) : Int); omega
  have sP : sz 91 (sgn false ((dv (ledg d) : Nat) : Rat)) := by rw [← sgn_mul]; exact sz_mono (sz_mul (sz_sgn1 false) sA) (by omega)
  have HQ := hide (fun w hB hT => r2Div_T (sz_fits sP (by rw [most_eq]; omega)) (sz_fits sB (by rw [most_eq]; omega)) hyp (cmpC_of sP sB (by rw [most_eq]; omega)) B w hB hT)
  rw [sgn_div, ← hv] at HQ
  have hm47 : (((m.toNat : Nat) : Int) == 47) = true := by rw [c3]; rfl
  have hm46 : (((m.toNat : Nat) : Int) == 46) = false := by rw [c3]; rfl
  have hm47n : (((m.toNat : Nat) : Int) != 47) = false := by rw [c3]; rfl
  have hm46n : (((m.toNat : Nat) : Int) != 46) = true := by rw [c3]; rfl
  have HVV := hide (True.intro)
  obtain ⟨R, hR⟩ : ∃ R, R = T (sgn false (rpV d)) := ⟨_, rfl⟩
  have HR := hide hR
  rw [← hR] at HQ
  clear hR
  obtain ⟨n, hn⟩ : ∃ n, n = (ledg d).length := ⟨_, rfl⟩
  rw [← hn] at HD hle ex1 ex2 hn1
  obtain ⟨dl, hdl⟩ : ∃ n, n = d.length := ⟨_, rfl⟩
  rw [← hdl] at hds hle hl ex2
  obtain ⟨tl, htl9⟩ : ∃ n, n = t.length := ⟨_, rfl⟩
  rw [← htl9, ← hdl] at htl
  rw [← htl9] at hms hts
  rw [hms] at hpt
  rw [← htl9] at HD2 htp
  generalize T (((dv (ledg d)) : Nat) : Rat) = TA at *
  generalize T (sgn false ((dv (ledg d) : Nat) : Rat)) = TSA at *
  generalize T ((dv t : Nat) : Rat) = TB at *
  generalize strB (ledg d) = SL at *
  generalize strB (m :: t) = SM at *
  generalize strB t = ST at *
  rw [hs] at hz ⊢
  clear hs
  have hz2 : Hid (((strB d).toList == []) = true ∧ (strB d).toList.isEmpty = true ∧ dl = 0 ∨ ∃ hp : 0 < (strB d).size, (((((strB d)[0]'hp).toNat : Nat) : Int) == 45) = false ∧ ((strB d).toList == []) = false ∧ (strB d).toList.isEmpty = false) := hide (by
    rcases hz with h | ⟨hp, h⟩
    · left
      rw [hdl, h, ByteArray.toList_eq, strB_list]
      exact ⟨rfl, rfl, rfl⟩
    · right
      refine ⟨hp, h, ?_⟩
      have hne : d ≠ [] := fun e => by rw [e] at hp; exact absurd hp (by decide)
      rw [ByteArray.toList_eq, strB_list]
      cases d with
      | nil => exact absurd rfl hne
      | cons a b => exact ⟨rfl, rfl⟩)
  clear hz
  generalize strB d = SD at *
  clear hT hal sA c0 hn c1 hnb htd htn hbl sB c2 c3 c4 hyn hyp sP hv hdl HVV htl9
  have g90 : ((90 : Int) < (SD.size : Int)) = False := eq_false (by omega)
  rcases hz2.out with ⟨_, _, e0⟩ | ⟨hp, h45, e1, e2⟩
  · omega
  have e3 : (SD.toList != []) = true := by simp only [bne, e1]; rfl
  have hp1 : (0 : Int) < (SD.size : Int) := by omega
  clear hz2
  have z0 : ((n : Int) == 0) = false := by simp only [beq_eq_false_iff_ne, ne_eq]; omega
  have n0 : (0 : Int) ≤ (n : Int) := by omega
  have n2 : (n : Int) ≤ (SD.size : Int) := by omega
  have n3 : n ≤ SD.size := by omega
  go_enter Tryz.func14, Tryz.ntmps14
  go_wp2_with fail
  refine (HD.out _).mono ?_
  rintro e w1 ⟨rfl, hb1⟩
  have HB1 := hide hb1
  clear hb1
  obtain ⟨W1, hW1⟩ : ∃ W, W = w1 := ⟨_, rfl⟩
  subst hW1
  have HN1 := hide (fun (o : Of (Below W1.heap.size W1)) => cls_callw HA.out o o.h.size)
  go_wp2_with fail
  have kn : Nonempty (Of (Below W1.heap.size W1)) := ⟨⟨_, Below.refl _ _⟩⟩
  refine region_class (C := Cls (Below W1.heap.size W1)) (by kernel_rfl) (by kernel_rfl) (by kernel_rfl) (Cls.mk (Below.refl _ _).drew) ?_
  repeat (go_big_quiet_step (first | rfl | with_reducible exact HN1.out _))
  refine wpQuiet_nil ?_
  intro w2 hcl
  have HB2 := hide (HB1.out.trans (hcl.out.mono HB1.out.size))
  clear hcl kn HN1
  go_wp2_with fail
  go_quiet (fail)
  go_wp2_with fail
  refine (HD2.out _).mono ?_
  rintro e w3 ⟨rfl, hb3⟩
  have HB3 := hide ((below_drewN HB2.out _).trans (hb3.mono (below_drewN HB2.out _).size))
  clear hb3
  have y0 : ((tl : Int) == 0) = false := by simp only [beq_eq_false_iff_ne, ne_eq]; omega
  have y1 : ((tl : Int) < (ST.size : Int)) = False := eq_false (by omega)
  go_wp2_with fail
  refine (HB2w.out _).mono ?_
  rintro e w4 ⟨rfl, hb4⟩
  have HB4 := hide (HB3.out.trans (hb4.mono HB3.out.size))
  clear hb4
  go_wp2_with fail
  refine (HP.out _ (Nat.le_trans hB HB4.out.size) (HT.out.on HB4.out hB)).mono ?_
  rintro e w5 ⟨rfl, hb5⟩
  have HB5 := hide (HB4.out.trans (hb5.mono HB4.out.size))
  clear hb5
  go_wp2_with fail
  refine (HQ.out _ (Nat.le_trans hB HB5.out.size) (HT.out.on HB5.out hB)).mono ?_
  rintro e w6 ⟨rfl, hb6⟩
  have HB6 := hide (HB5.out.trans (hb6.mono HB5.out.size))
  clear hb6
  go_wp2_with fail
  refine bodyPost_ret (results_tmp2 rfl _ _ _) rfl ?_
  rw [HR.out]
  exact par_ok HE.out _ _ _ ⟨rfl, HB6.out⟩
theorem m7parse_p_dec (s : ByteArray) (d : List UInt8) (hl : d.length ≤ 90) (hs : s = strB d) (hz : d = [] ∨ ∃ hp : 0 < s.size, (((((s[0]'hp).toNat : Nat) : Int)) == 45) = false) (c0 : ledg d ≠ []) (m : UInt8) (t : List UInt8) (c1 : pdg d = m :: t) (c2 : ledg t ≠ [] ∧ ledg t = t) (c3 : m = 46) (B : Nat) (w : World) (hB : B ≤ w.heap.size) (hT : PQ B w) :
    Calls Tryz.prog 14 #[.string s] w (ParRes d false w) := by
  have HT := hide hT
  have hnb : ¬ (ledg t = [] ∨ ledg t ≠ t ∨ (m ≠ 46 ∧ m ≠ 47)) := fun h => by
    rcases h with h | h | ⟨h1, h2⟩
    · exact c2.1 h
    · exact h c2.2
    · exact h1 c3
  have HE := hide (show rpE d = 0 by unfold rpE; rw [if_neg c0, c1]; show (if _ then (3 : Int) else if m = 47 ∧ dv t = 0 then 12 else 0) = 0; rw [if_neg hnb, if_neg (fun h => by rw [c3] at h; exact absurd h.1 (by decide))])
  have hv : rpV d = ((dv (ledg d) : Nat) : Rat) + ((dv t : Nat) : Rat) / ((10 ^ t.length : Nat) : Rat) := by unfold rpV; rw [c1]; exact if_neg (by rw [c3]; decide)
  have HD := hide (fun w => m7digits_any (strB d) (by rw [strB_size]; omega) w)
  rw [strB_list, lead_ledg] at HD
  have hds : (strB d).size = d.length := strB_size _
  have hle : (ledg d).length ≤ d.length := lead_le d
  have HA := hide (fun w => m7whole_any (ledg d) c0 (ledg_dg d) w)
  have hal := dv_lt (ledg d) (ledg_dg d)
  have hn1 : 0 < (ledg d).length := List.length_pos_iff.2 c0
  have sA : sz 90 ((dv (ledg d) : Nat) : Rat) := sz_natP (Nat.lt_of_lt_of_le hal (Nat.pow_le_pow_right (by omega) (by omega))) (by omega)
  have ex1 : (strB d).extract 0 (ledg d).length = strB (ledg d) := by rw [ext_take, ledg_take]
  have ex2 : (strB d).extract (ledg d).length (strB d).size = strB (pdg d) := by rw [ext_drop, strB_list, pdg_drop]
  rw [hds] at ex2
  rw [T_nat] at HA
  have HP := hide (fun w hB hT => m7product_T (sz_fits (sz_sgn1 false) (by rw [most_eq]; omega)) (sz_fits sA (by rw [most_eq]; omega)) (mulC_of (sz_sgn1 false) sA (by rw [most_eq]; omega)) B w hB hT)
  rw [sgn_mul, sgn1_lit.2] at HP
  have htl : t.length + 1 ≤ d.length := by
    have := congrArg List.length (ledg_pdg d)
    rw [List.length_append, c1, List.length_cons] at this
    omega
  have HD2 := hide (fun w => m7digits_any (strB t) (by rw [strB_size]; omega) w)
  rw [strB_list, lead_ledg] at HD2
  rw [c1] at ex2
  obtain ⟨hpm, hbm⟩ := head_byte (l := m :: t) rfl
  have hpt := strB_tail m t
  have hms : (strB (m :: t)).size = t.length + 1 := by rw [strB_size, List.length_cons]
  have hts : (strB t).size = t.length := strB_size _
  have hmz : ((strB (m :: t)).toList == []) = false := by
    rw [ByteArray.toList_eq, strB_list]
    rfl
  have hmz3 : (strB (m :: t)).toList.isEmpty = false := by
    rw [ByteArray.toList_eq, strB_list]
    rfl
  have htd : ∀ c ∈ t, isDg c = true := by rw [← c2.2]; exact ledg_dg t
  have htn : t ≠ [] := by rw [← c2.2]; exact c2.1
  have HB2w := hide (fun w => m7whole_any t htn htd w)
  rw [T_nat] at HB2w
  have hbl := dv_lt t htd
  have sB : sz 90 ((dv t : Nat) : Rat) := sz_natP (Nat.lt_of_lt_of_le hbl (Nat.pow_le_pow_right (by omega) (by omega))) (by omega)
  rw [c2.2] at HD2
  have htp : 0 < t.length := List.length_pos_iff.2 htn
  have HW := hide (fun w => m7power_any t.length (by omega) w)
  have htl2 : t.length ≤ 100 := by omega
  have hyp : 0 < ((10 ^ t.length : Nat) : Rat).num := by show 0 < ((10 ^ t.length : Nat) : Int); exact Int.natCast_pos.2 (Nat.pow_pos (by decide))
  have HQ := hide (fun w hB hT => r2Div_T (sz_fits sB (by rw [most_eq]; omega)) (sz_fits (pow_sz htl2) (by rw [most_eq]; omega)) hyp (cmpC_of sB (pow_sz htl2) (by rw [most_eq]; omega)) B w hB hT)
  have sQ := sz_div (q := 101) (by omega) sB (pow_sz htl2)
  have HS := hide (fun w hB hT => r2Add_T (sz_fits sA (by rw [most_eq]; omega)) (sz_fits sQ (by rw [most_eq]; omega)) B w hB hT)
  rw [show addO ((dv (ledg d) : Nat) : Rat) (((dv t : Nat) : Rat) / ((10 ^ t.length : Nat) : Rat)) = some (rpV d) by rw [hv]; exact if_pos (addC_of sA sQ (by rw [most_eq]; omega))] at HS
  unfold opV at HS
  dsimp only at HS
  have sV : sz 282 (rpV d) := by rw [hv]; exact sz_mono (sz_add sA sQ) (by omega)
  have HP2 := hide (fun w hB hT => m7product_T (sz_fits (sz_sgn1 false) (by rw [most_eq]; omega)) (sz_fits sV (by rw [most_eq]; omega)) (mulC_of (sz_sgn1 false) sV (by rw [most_eq]; omega)) B w hB hT)
  rw [sgn_mul, sgn1_lit.2] at HP2
  have hm47 : (((m.toNat : Nat) : Int) == 47) = false := by rw [c3]; rfl
  have hm46 : (((m.toNat : Nat) : Int) == 46) = true := by rw [c3]; rfl
  have hm47n : (((m.toNat : Nat) : Int) != 47) = true := by rw [c3]; rfl
  have hm46n : (((m.toNat : Nat) : Int) != 46) = false := by rw [c3]; rfl
  have HVV := hide (True.intro)
  obtain ⟨R, hR⟩ : ∃ R, R = T (sgn false (rpV d)) := ⟨_, rfl⟩
  have HR := hide hR
  rw [← hR] at HP2
  clear hR
  obtain ⟨n, hn⟩ : ∃ n, n = (ledg d).length := ⟨_, rfl⟩
  rw [← hn] at HD hle ex1 ex2 hn1
  obtain ⟨dl, hdl⟩ : ∃ n, n = d.length := ⟨_, rfl⟩
  rw [← hdl] at hds hle hl ex2
  obtain ⟨tl, htl9⟩ : ∃ n, n = t.length := ⟨_, rfl⟩
  rw [← htl9, ← hdl] at htl
  rw [← htl9] at hms hts
  rw [hms] at hpt
  rw [← htl9] at HD2 htp
  rw [← htl9] at HW HQ HS htl2
  generalize T (((dv (ledg d)) : Nat) : Rat) = TA at *
  generalize T ((dv t : Nat) : Rat) = TB at *
  generalize T (((dv t : Nat) : Rat) / ((10 ^ tl : Nat) : Rat)) = TQ at *
  generalize T ((10 ^ tl : Nat) : Rat) = TW at *
  generalize T (rpV d) = TV at *
  generalize strB (ledg d) = SL at *
  generalize strB (m :: t) = SM at *
  generalize strB t = ST at *
  rw [hs] at hz ⊢
  clear hs
  have hz2 : Hid (((strB d).toList == []) = true ∧ (strB d).toList.isEmpty = true ∧ dl = 0 ∨ ∃ hp : 0 < (strB d).size, (((((strB d)[0]'hp).toNat : Nat) : Int) == 45) = false ∧ ((strB d).toList == []) = false ∧ (strB d).toList.isEmpty = false) := hide (by
    rcases hz with h | ⟨hp, h⟩
    · left
      rw [hdl, h, ByteArray.toList_eq, strB_list]
      exact ⟨rfl, rfl, rfl⟩
    · right
      refine ⟨hp, h, ?_⟩
      have hne : d ≠ [] := fun e => by rw [e] at hp; exact absurd hp (by decide)
      rw [ByteArray.toList_eq, strB_list]
      cases d with
      | nil => exact absurd rfl hne
      | cons a b => exact ⟨rfl, rfl⟩)
  clear hz
  generalize strB d = SD at *
  clear hT hal sA c0 hn c1 hnb htd htn hbl sB c2 c3 hyp sQ sV hv htl2 hdl HVV htl9
  have g90 : ((90 : Int) < (SD.size : Int)) = False := eq_false (by omega)
  rcases hz2.out with ⟨_, _, e0⟩ | ⟨hp, h45, e1, e2⟩
  · omega
  have e3 : (SD.toList != []) = true := by simp only [bne, e1]; rfl
  have hp1 : (0 : Int) < (SD.size : Int) := by omega
  clear hz2
  have z0 : ((n : Int) == 0) = false := by simp only [beq_eq_false_iff_ne, ne_eq]; omega
  have n0 : (0 : Int) ≤ (n : Int) := by omega
  have n2 : (n : Int) ≤ (SD.size : Int) := by omega
  have n3 : n ≤ SD.size := by omega
  go_enter Tryz.func14, Tryz.ntmps14
  go_wp2_with fail
  refine (HD.out _).mono ?_
  rintro e w1 ⟨rfl, hb1⟩
  have HB1 := hide hb1
  clear hb1
  obtain ⟨W1, hW1⟩ : ∃ W, W = w1 := ⟨_, rfl⟩
  subst hW1
  have HN1 := hide (fun (o : Of (Below W1.heap.size W1)) => cls_callw HA.out o o.h.size)
  go_wp2_with fail
  have kn : Nonempty (Of (Below W1.heap.size W1)) := ⟨⟨_, Below.refl _ _⟩⟩
  refine region_class (C := Cls (Below W1.heap.size W1)) (by kernel_rfl) (by kernel_rfl) (by kernel_rfl) (Cls.mk (Below.refl _ _).drew) ?_
  repeat (go_big_quiet_step (first | rfl | with_reducible exact HN1.out _))
  refine wpQuiet_nil ?_
  intro w2 hcl
  have HB2 := hide (HB1.out.trans (hcl.out.mono HB1.out.size))
  clear hcl kn HN1
  go_wp2_with fail
  go_quiet (fail)
  go_wp2_with fail
  refine (HD2.out _).mono ?_
  rintro e w3 ⟨rfl, hb3⟩
  have HB3 := hide ((below_drewN HB2.out _).trans (hb3.mono (below_drewN HB2.out _).size))
  clear hb3
  have y0 : ((tl : Int) == 0) = false := by simp only [beq_eq_false_iff_ne, ne_eq]; omega
  have y1 : ((tl : Int) < (ST.size : Int)) = False := eq_false (by omega)
  go_wp2_with fail
  refine (HB2w.out _).mono ?_
  rintro e w4 ⟨rfl, hb4⟩
  have HB4 := hide (HB3.out.trans (hb4.mono HB3.out.size))
  clear hb4
  go_wp2_with fail
  refine (HW.out _).mono ?_
  rintro e w5 ⟨rfl, hb5⟩
  have HB5 := hide (HB4.out.trans (hb5.mono HB4.out.size))
  clear hb5
  go_wp2_with fail
  refine (HQ.out _ (Nat.le_trans hB HB5.out.size) (HT.out.on HB5.out hB)).mono ?_
  rintro e w6 ⟨rfl, hb6⟩
  have HB6 := hide (HB5.out.trans (hb6.mono HB5.out.size))
  clear hb6
  go_wp2_with fail
  refine (HS.out _ (Nat.le_trans hB HB6.out.size) (HT.out.on HB6.out hB)).mono ?_
  rintro e w7 ⟨rfl, hb7⟩
  have HB7 := hide (HB6.out.trans (hb7.mono HB6.out.size))
  clear hb7
  go_wp2_with fail
  refine (HP2.out _ (Nat.le_trans hB HB7.out.size) (HT.out.on HB7.out hB)).mono ?_
  rintro e w8 ⟨rfl, hb8⟩
  have HB8 := hide (HB7.out.trans (hb8.mono HB7.out.size))
  clear hb8
  go_wp2_with fail
  refine bodyPost_ret (results_tmp2 rfl _ _ _) rfl ?_
  rw [HR.out]
  exact par_ok HE.out _ _ _ ⟨rfl, HB8.out⟩
open Go.RowKit Go.KP Go.KI Go.Shelf
attribute [local go_sem] Oper.semAt_some

theorem m7parse_long (s : ByteArray) (h : 90 < s.size) (w : World) :
    Calls Tryz.prog 14 #[.string s] w (Ret w (pairV (parseS s.data.toList) (parseE s.data.toList))) := by
  have e : parseE s.data.toList = 4 := by unfold parseE; rw [if_pos (by rw [bytes_len]; exact h)]
  rw [show parseS s.data.toList = [] by unfold parseS; rw [e, if_neg (by decide)], e, pairV_err]
  have hm : (90 : Int) < (s.size : Int) := by omega
  clear e
  go_enter Tryz.func14, Tryz.ntmps14
  go_wp2_with fail
  refine bodyPost_ret (results_tmp2 rfl _ _ _) rfl ?_
  exact ⟨rfl, Below.refl _ _⟩
theorem m7parse_neg (s : ByteArray) (d : List UInt8) (hl : d.length ≤ 90) (hp : 0 < s.size) (h45 : (((((s[0]'hp).toNat : Nat) : Int)) == 45) = true) (hx0 : s.extract 1 s.size = strB d) (hls : s.size ≤ 90) (B : Nat) (w : World) (hB : B ≤ w.heap.size) (hT : PQ B w) :
    Calls Tryz.prog 14 #[.string s] w (ParRes d true w) := by
  by_cases c0 : ledg d = []
  · exact m7parse_n_none s d hl hp h45 hx0 hls c0 B w hB hT
  cases c1 : pdg d with
  | nil => exact m7parse_n_all s d hl hp h45 hx0 hls c0 c1 B w hB hT
  | cons m t =>
    by_cases c2 : ledg t = [] ∨ ledg t ≠ t ∨ (m ≠ 46 ∧ m ≠ 47)
    · exact m7parse_n_bad s d hl hp h45 hx0 hls c0 m t c1 c2 B w hB hT
    have k1 : ledg t ≠ [] := fun h => c2 (.inl h)
    have k2 : ledg t = t := Decidable.byContradiction fun h => c2 (.inr (.inl h))
    by_cases k3 : m = 47
    · by_cases k4 : dv t = 0
      · exact m7parse_n_zero s d hl hp h45 hx0 hls c0 m t c1 ⟨k1, k2⟩ k3 k4 B w hB hT
      · exact m7parse_n_quot s d hl hp h45 hx0 hls c0 m t c1 ⟨k1, k2⟩ k3 k4 B w hB hT
    · have k5 : m = 46 := Decidable.byContradiction fun h => c2 (.inr (.inr ⟨h, k3⟩))
      exact m7parse_n_dec s d hl hp h45 hx0 hls c0 m t c1 ⟨k1, k2⟩ k5 B w hB hT
theorem m7parse_pos (s : ByteArray) (d : List UInt8) (hl : d.length ≤ 90) (hs : s = strB d) (hz : d = [] ∨ ∃ hp : 0 < s.size, (((((s[0]'hp).toNat : Nat) : Int)) == 45) = false) (B : Nat) (w : World) (hB : B ≤ w.heap.size) (hT : PQ B w) :
    Calls Tryz.prog 14 #[.string s] w (ParRes d false w) := by
  by_cases c0 : ledg d = []
  · exact m7parse_p_none s d hl hs hz c0 B w hB hT
  cases c1 : pdg d with
  | nil => exact m7parse_p_all s d hl hs hz c0 c1 B w hB hT
  | cons m t =>
    by_cases c2 : ledg t = [] ∨ ledg t ≠ t ∨ (m ≠ 46 ∧ m ≠ 47)
    · exact m7parse_p_bad s d hl hs hz c0 m t c1 c2 B w hB hT
    have k1 : ledg t ≠ [] := fun h => c2 (.inl h)
    have k2 : ledg t = t := Decidable.byContradiction fun h => c2 (.inr (.inl h))
    by_cases k3 : m = 47
    · by_cases k4 : dv t = 0
      · exact m7parse_p_zero s d hl hs hz c0 m t c1 ⟨k1, k2⟩ k3 k4 B w hB hT
      · exact m7parse_p_quot s d hl hs hz c0 m t c1 ⟨k1, k2⟩ k3 k4 B w hB hT
    · have k5 : m = 46 := Decidable.byContradiction fun h => c2 (.inr (.inr ⟨h, k3⟩))
      exact m7parse_p_dec s d hl hs hz c0 m t c1 ⟨k1, k2⟩ k5 B w hB hT
theorem m7Parse_any (s : ByteArray) (B : Nat) (w : World) (hB : B ≤ w.heap.size) (hT : PQ B w) :
    Calls Tryz.prog 14 #[.string s] w (Ret w (pairV (parseS s.data.toList) (parseE s.data.toList))) := by
  by_cases h90 : 90 < s.size
  · exact m7parse_long s h90 w
  obtain ⟨he, hv⟩ := parse_ledg s.data.toList
  rw [bytes_len, if_neg h90] at he
  obtain ⟨l, hl⟩ : ∃ l, l = s.data.toList := ⟨_, rfl⟩
  have hs : s = strB l := by rw [hl]; rfl
  have hll : l.length ≤ 90 := by rw [hl, bytes_len]; omega
  rw [← hl] at he hv ⊢
  clear hl
  have hp : ∀ neg, isNeg l = neg → pairV (parseS l) (parseE l) = pairV (if rpE (digs l) = 0 then ratS (sgn neg (rpV (digs l))) else []) (rpE (digs l)) := by
    intro neg hn
    unfold parseS
    by_cases h0 : parseE l = 0
    · rw [if_pos h0, hv h0, hn, he]
      rw [he] at h0
      rw [if_pos h0]
    · rw [if_neg h0, he]
      rw [he] at h0
      rw [if_neg h0]
  clear he hv
  cases l with
  | nil =>
    rw [hp false rfl]
    exact m7parse_pos s [] (by simp) hs (.inl rfl) B w hB hT
  | cons c r =>
    subst hs
    obtain ⟨hq, hbq⟩ := head_byte (l := c :: r) rfl
    have hlr : r.length + 1 ≤ 90 := by rw [List.length_cons] at hll; exact hll
    by_cases hc : c = 45
    · subst hc
      rw [hp true (by simp [isNeg])]
      exact m7parse_neg (strB (45 :: r)) r (by omega) hq (by rw [hbq]; rfl) (strB_tail 45 r) (by omega) B w hB hT
    · rw [hp false (by simp [isNeg, hc])]
      have hd : digs (c :: r) = c :: r := if_neg hc
      rw [hd]
      refine m7parse_pos (strB (c :: r)) (c :: r) hll rfl (.inr ⟨hq, ?_⟩) B w hB hT
      rw [hbq]
      have : c.toNat ≠ 45 := fun e => hc (UInt8.toNat_inj.1 e)
      simp only [beq_eq_false_iff_ne, ne_eq]
      omega
end Go.Proofs.YtfcjaljaomknjaaGreatDoor
