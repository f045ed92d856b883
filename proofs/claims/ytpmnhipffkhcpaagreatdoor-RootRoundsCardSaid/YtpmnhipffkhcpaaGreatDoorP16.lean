/-
  Texts laid together.
-/
import Derived.Test.YtpmnhipffkhcpaaGreatDoorP15
import Derived.Test.YtpmnhipffkhcpaaGreatDoorP5
import Derived.Test.YtpmnhipffkhcpaaGreatDoorP13
import Derived.Test.YtpmnhipffkhcpaaGreatDoorP14
import Derived.Test.YtpmnhipffkhcpaaGreatDoorP9
import Derived.Test.YtpmnhipffkhcpaaGreatDoorP7
set_option maxRecDepth 100000
set_option maxHeartbeats 16000000
namespace Go.Proofs.YtpmnhipffkhcpaaGreatDoor
open Go.RowKit Go.KP Go.KI Go.Shelf
attribute [local go_sem] Oper.semAt_some

theorem rfield_limbs (m : Bool) (v : Value) (w : World) : (Instr.field 308 (numV m v) 1).run Tryz.prog w = .ok v w := by kernel_rfl
theorem rGcd_small (s t : ByteArray) (B : Nat) (w : World) (c1 : chkI s.data.toList = 0) (c2 : chkI t.data.toList = 0) (hs : s.size ≤ 17) (ht : t.size ≤ 17) (hB : B ≤ w.heap.size) (hT : P10 B w) :
    Calls Tryz.prog 339 #[.string s, .string t] w (Ret w (pairV (Lib.itoa ((Nat.gcd (valI s.data.toList).natAbs (valI t.data.toList).natAbs : Nat) : Int)) 0)) := by
  have H1 := hide (rboth_any s t (by omega) (by omega) w)
  have hb0 : bothI s.data.toList t.data.toList = 0 := by unfold bothI; rw [if_pos c1, c2]
  rw [hb0] at H1
  have HT := hide hT
  have H2 := hide (fun w => rtwo_yes s t c1 c2 hs ht w)
  have v1 := short_val (n := 17) c1 (by rw [bytes_len]; exact hs) (by omega)
  have v2 := short_val (n := 17) c2 (by rw [bytes_len]; exact ht) (by omega)
  rw [pow17] at v1 v2
  obtain ⟨x, hx⟩ : ∃ x, x = valI s.data.toList := ⟨_, rfl⟩
  obtain ⟨y, hy⟩ : ∃ y, y = valI t.data.toList := ⟨_, rfl⟩
  rw [← hx, ← hy] at H2 ⊢
  rw [← hx] at v1
  rw [← hy] at v2
  obtain ⟨G, hG⟩ : ∃ G, G = Nat.gcd x.natAbs y.natAbs := ⟨_, rfl⟩
  rw [← hG]
  have HG := hide hG
  have V1 := hide v1; have V2 := hide v2
  clear c1 c2 hs ht hT hx hy hb0 hG v1 v2
  go_enter Tryz.func339, Tryz.ntmps339
  go_wp2_with fail
  refine H1.out.mono ?_
  rintro e w1 ⟨rfl, hb1⟩
  have HB1 := hide hb1
  clear hb1 H1
  go_wp2_with fail
  refine (H2.out _).mono ?_
  rintro e w2 ⟨rfl, hb2⟩
  have HB2 := hide (HB1.out.trans (hb2.mono HB1.out.size))
  clear hb2 H2 HB1
  go_wp2_with fail
  go_loopw [7, 8] (fun a b wr => ∃ p q : Int, a = .int .i64 p ∧ b = .int .i64 q ∧ p.natAbs < 100000000000000000 ∧ q.natAbs < 100000000000000000 ∧ Hid (Nat.gcd p.natAbs q.natAbs = G ∧ Below w.heap.size w wr)) (fun _ b _ => (intOf b).natAbs)
  case atStart => exact ⟨x, y, rfl, rfl, V1.out, V2.out, HG.out.symm, HB2.out⟩
  case round =>
    obtain ⟨p, q, rfl, rfl, hp, hq, hin⟩ := hrel
    have IN := hide hin.out
    clear hin
    by_cases hq0 : q = 0
    · subst hq0
      have hqq : ((0 : Int) != 0) = false := rfl
      have hG : (p.natAbs : Nat) = G := by have := IN.out.1; simpa using this
      have GG := hide hG
      clear hq hG
      go_wp2_with fail
      have hmx : max p (-p) = (G : Int) := by have := GG.out; omega
      rw [hmx]
      have hG1 : (G : Int) ≤ 9223372036854775807 := by have := GG.out; omega
      clear hmx hqq
      refine (itoa_any G (by omega) hG1 B _ (HT.out.on IN.out.2 hB)).mono ?_
      rintro e w3 ⟨rfl, hb3⟩
      have HB3 := hide (IN.out.2.trans (hb3.mono IN.out.2.size))
      clear hb3
      go_wp2_with fail
      refine bodyPost_ret (results_tmp2 rfl _ _ _) rfl ?_
      exact ⟨rfl, HB3.out⟩
    · have hqq : (q != 0) = true := by simpa using hq0
      have hyq : (q == 0) = false := by simpa using hq0
      have hr := natAbs_tmod_lt p hq0
      have hgc : Nat.gcd q.natAbs (p.tmod q).natAbs = G := by
        rw [Int.natAbs_tmod, ← IN.out.1, Nat.gcd_comm q.natAbs, ← Nat.gcd_rec, Nat.gcd_comm]
      have GG := hide hgc
      clear hq0 hgc
      go_wp2_with fail
      go_quiet (fail)
      clear hyq hqq
      go_wp2_with fail
      go_roundw
      case rel => exact ⟨q, p.tmod q, rfl, rfl, hq, by omega, GG.out, ⟨IN.out.2.os, IN.out.2.tape, IN.out.2.output, IN.out.2.size, IN.out.2.block⟩⟩
      case measure => simpa [intOf] using hr
theorem rGcd_long (s t : ByteArray) (w : World) (c1 : chkI s.data.toList = 0) (c2 : chkI t.data.toList = 0) (hl : ¬ (s.size ≤ 17 ∧ t.size ≤ 17)) :
    Calls Tryz.prog 339 #[.string s, .string t] w (Ret w (pairV (Lib.itoa ((Nat.gcd (valI s.data.toList).natAbs (valI t.data.toList).natAbs : Nat) : Int)) 0)) := by
  have l1' := (chk_digs c1).2
  have l2' := (chk_digs c2).2
  rw [bytes_len] at l1' l2'
  have H1 := hide (rboth_any s t (by omega) (by omega) w)
  have hb0 : bothI s.data.toList t.data.toList = 0 := by unfold bothI; rw [if_pos c1, c2]
  rw [hb0] at H1
  have H2 := hide (fun w => rtwo_no s t c1 hl w)
  have R1 := hide (fun w => rread_good s c1 w)
  have R2 := hide (fun w => rread_good t c2 w)
  obtain ⟨G, hG⟩ : ∃ G, G = Nat.gcd (valI s.data.toList).natAbs (valI t.data.toList).natAbs := ⟨_, rfl⟩
  rw [← hG]
  have HG := hide hG
  clear c1 c2 hl hb0 l1' l2' hG
  go_enter Tryz.func339, Tryz.ntmps339
  go_wp2_with fail
  refine H1.out.mono ?_
  rintro e w1 ⟨rfl, hb1⟩
  have HB1 := hide hb1
  clear hb1 H1
  go_wp2_with fail
  refine (H2.out _).mono ?_
  rintro e w2 ⟨x0, y0, rfl, hb2⟩
  have HB2 := hide (HB1.out.trans (hb2.mono HB1.out.size))
  clear hb2 H2 HB1
  go_wp2_with fail
  refine (R1.out _).mono ?_
  rintro e w3 ⟨m1, a1, l1, rfl, hb3, o1, n1, q1, k1⟩
  have HB3 := hide (HB2.out.trans (hb3.mono HB2.out.size))
  have O1 := hide o1; have N1 := hide n1; have Q1 := hide q1
  obtain ⟨av1, cv1, hvf, _, _⟩ := o1.form
  subst hvf
  clear hb3 HB2 R1 o1 n1 q1
  have hf1 := fun w => rfield_limbs m1 (.slice av1 l1.length cv1) w
  go_wp2_with fail
  clear hf1
  refine (R2.out _).mono ?_
  rintro e w4 ⟨m2, a2, l2, rfl, hb4, o2, n2, q2, k2⟩
  have HB4 := hide (HB3.out.trans (hb4.mono HB3.out.size))
  have O1' := hide (O1.out.keep hb4)
  have O2 := hide o2; have N2 := hide n2; have Q2 := hide q2
  obtain ⟨av2, cv2, hvf, _, _⟩ := o2.form
  subst hvf
  clear hb4 HB3 R2 o2 n2 q2 O1
  have hf2 := fun w => rfield_limbs m2 (.slice av2 l2.length cv2) w
  have HG2 := hide (show Nat.gcd (lv 1000000 l1) (lv 1000000 l2) = G by
    rw [HG.out, ← Q1.out, ← Q2.out, valS_abs, valS_abs])
  go_wp2_with fail
  clear hf2
  go_loopw [10, 11] (fun p q wr => ∃ (ap : Option Addr) (cp : Nat) (aq : Option Addr) (cq : Nat) (x y : List Nat), p = .slice ap x.length cp ∧ q = .slice aq y.length cq ∧ x.length ≤ 60 ∧ y.length ≤ 60 ∧ Hid (LimbAt wr.heap.size wr (.slice ap x.length cp) x ∧ LimbAt wr.heap.size wr (.slice aq y.length cq) y ∧ Norm 1000000 x ∧ Norm 1000000 y ∧ Nat.gcd (lv 1000000 x) (lv 1000000 y) = G ∧ Below w.heap.size w wr)) (fun _ q wr => lv 1000000 (limbsAt wr q))
  case atStart => exact ⟨av1, cv1, av2, cv2, l1, l2, rfl, rfl, k1, k2, LimbAt.of_own O1'.out, LimbAt.of_own O2.out, N1.out, N2.out, HG2.out, HB4.out⟩
  case round =>
    clear k1 k2
    obtain ⟨ap, cp, aq, cq, x, y, rfl, rfl, hx, hy, hin⟩ := hrel
    have I1 := hide hin.out.1; have I2 := hide hin.out.2.1; have N3 := hide hin.out.2.2.1; have N4 := hide hin.out.2.2.2.1; have GG := hide hin.out.2.2.2.2.1; have HBW := hide hin.out.2.2.2.2.2
    clear hin
    by_cases hy0 : y = []
    · subst hy0
      have hz : valS false (lv 1000000 x) = (G : Int) := by
        have := GG.out
        rw [lv_nil, Nat.gcd_zero_right] at this
        rw [this]
        rfl
      have HR := hide (rwrite_any false (.slice ap x.length cp) x wr.heap.size wr I1.out (Nat.le_refl _) N3.out (by omega))
      rw [hz] at HR
      clear hz
      go_wp2_with fail
      refine HR.out.mono ?_
      rintro e w5 ⟨rfl, hb5⟩
      have HB5 := hide (HBW.out.trans (hb5.mono HBW.out.size))
      clear hb5 HR
      go_wp2_with fail
      refine bodyPost_ret (results_tmp2 rfl _ _ _) rfl ?_
      exact ⟨rfl, HB5.out⟩
    · have hyl : 0 < (y.length : Int) := by
        have := List.length_pos_iff.2 hy0
        omega
      have HD := hide (rdivide_any (.slice ap x.length cp) (.slice aq y.length cq) x y wr.heap.size wr I1.out I2.out (Nat.le_refl _) N3.out.lt N4.out hy0 (by omega) (by omega))
      have hyp : 0 < lv 1000000 y := by
        rcases Nat.eq_zero_or_pos (lv 1000000 y) with h | h
        · exact absurd ((N4.out.zero (by omega)).1 h) hy0
        · exact h
      have HYP := hide hyp
      clear hy0 hyp
      go_wp2_with fail
      refine HD.out.mono ?_
      rintro e w5 ⟨vq, vr, q, r, rfl, hb5, oq, or_, nq, nr, eq, er, lq⟩
      obtain ⟨ar, cr, hvf, _, _⟩ := or_.form
      subst hvf
      have hrlt : lv 1000000 r < lv 1000000 y := by rw [er]; exact Nat.mod_lt _ HYP.out
      have hrl : r.length ≤ 60 := by
        have := norm_le_b (by omega) nr N4.out.lt (Nat.le_of_lt hrlt)
        omega
      have HB5 := hide (HBW.out.trans (hb5.mono HBW.out.size))
      have J2 := hide ((I2.out.below hb5 (Nat.le_refl _)).mono hb5.size)
      have HE := hide (show Nat.gcd (lv 1000000 y) (lv 1000000 r) = G by rw [er, ← GG.out, Nat.gcd_comm (lv 1000000 y), ← Nat.gcd_rec, Nat.gcd_comm])
      have OR := hide (LimbAt.of_own or_); have NR := hide nr; have HLT := hide hrlt
      clear hb5 oq or_ nq nr eq er lq HD hrlt
      go_wp2_with fail
      go_roundw
      case rel => exact ⟨aq, cq, ar, cr, y, r, rfl, rfl, hy, hrl, J2.out, OR.out, N4.out, NR.out, HE.out, HB5.out⟩
      case measure =>
        rw [limbsAt_eq OR.out, limbsAt_eq I2.out]
        exact HLT.out
end Go.Proofs.YtpmnhipffkhcpaaGreatDoor
namespace Go.KI
open Go
theorem cut2 (l : List UInt8) : digs (numT l) = ahead 47 (digs l) ∧ (47 ∈ l ↔ 47 ∈ digs l) ∧ denT l = behind 47 (digs l) ∧ ((numT l).head? = some 45 ↔ isNeg l = true) := by
  cases l with
  | nil => exact ⟨rfl, Iff.rfl, rfl, by decide⟩
  | cons c r =>
    by_cases h : c = 45
    · subst h
      have e1 : digs (45 :: r) = r := rfl
      have e2 : numT (45 :: r) = 45 :: numT r := rfl
      have e3 : denT (45 :: r) = denT r := rfl
      rw [e1, e2, e3]
      exact ⟨rfl, by simp, rfl, by simp [isNeg]⟩
    · have e1 : digs (c :: r) = c :: r := by simp [digs, h]
      rw [e1]
      by_cases h47 : c = 47
      · subst h47
        exact ⟨rfl, Iff.rfl, rfl, by simp [isNeg, numT]⟩
      · have e2 : numT (c :: r) = c :: numT r := by
          unfold numT
          rw [List.takeWhile_cons, if_pos (by simpa using h47)]
        refine ⟨?_, Iff.rfl, rfl, ?_⟩
        · rw [e2]
          show (if c = 45 then _ else _) = _
          rw [if_neg h, ← e2]
          rfl
        · rw [e2]
          simp [isNeg]
theorem valI_abs (l : List UInt8) : (valI l).natAbs = dv (digs l) := by
  unfold valI
  split <;> simp
theorem chkQ_cut (l nn dd : List UInt8) (h1 : nn = ahead 47 (digs l)) (h2 : dd = if 47 ∈ digs l then behind 47 (digs l) else []) :
    chkQ l = if ¬ numeral nn ∨ (47 ∈ digs l ∧ (¬ numeral dd ∨ dd = [48] ∨ dd = [49])) ∨ (isNeg l = true ∧ nn = [48]) then 11 else if 300 < nn.length ∨ 300 < dd.length then 4 else if 47 ∈ digs l ∧ Nat.gcd (dv nn) (dv dd) ≠ 1 then 11 else 0 := by
  obtain ⟨c1, c2, c3, c4⟩ := cut2 l
  have hcut : cutOK l ↔ ¬ (¬ numeral nn ∨ (47 ∈ digs l ∧ (¬ numeral dd ∨ dd = [48] ∨ dd = [49])) ∨ (isNeg l = true ∧ nn = [48])) := by
    unfold cutOK
    rw [chkI_11, c1, c2, c3, c4, ← h1]
    by_cases hs : 47 ∈ digs l
    · rw [if_pos hs] at h2
      rw [← h2]
      constructor
      · rintro a (b | b | b)
        · exact a (.inl (.inl b))
        · exact a (.inr b)
        · exact a (.inl (.inr b))
      · rintro a ((b | b) | b)
        · exact a (.inl b)
        · exact a (.inr (.inr b))
        · exact a (.inr (.inl b))
    · constructor
      · rintro a (b | b | b)
        · exact a (.inl (.inl b))
        · exact absurd b.1 hs
        · exact a (.inl (.inr b))
      · rintro a ((b | b) | b)
        · exact a (.inl b)
        · exact a (.inr (.inr b))
        · exact absurd b.1 hs
  by_cases hc : cutOK l
  · rw [if_neg (hcut.1 hc), chkQ_form hc, c1, ← h1, valI_abs, c1, ← h1]
    unfold denS
    by_cases hs : 47 ∈ digs l
    · have hs2 := c2.2 hs
      rw [if_pos hs] at h2
      simp only [hs, hs2, if_true, true_and, c3, ← h2]
    · have hs2 : ¬ 47 ∈ l := fun e => hs (c2.1 e)
      rw [if_neg hs] at h2
      simp [hs, hs2, h2]
  · rw [if_pos (Decidable.not_not.1 fun e => hc (hcut.2 e))]
    unfold chkQ
    rw [if_pos (Decidable.not_not.1 hc)]
theorem numeral_ok {l : List UInt8} (h : numeral l) (hl : l.length ≤ 300) : chkI l = 0 ∧ valI l = ((dv l : Nat) : Int) := by
  have e := numeral_dec h
  obtain ⟨u, hu⟩ : ∃ u, u = dv l := ⟨_, rfl⟩
  rw [← hu] at e ⊢
  rw [e] at hl ⊢
  rw [← Lib.itoa_nonneg]
  exact ⟨chk_fits (fits_nat.2 hl), val_itoa _⟩
end Go.KI
namespace Go.Proofs.YtpmnhipffkhcpaaGreatDoor
open Go.RowKit Go.KP Go.KI Go.Shelf
attribute [local go_sem] Oper.semAt_some

theorem rGcd_num (s t : ByteArray) (h1 : numeral s.data.toList) (h2 : numeral t.data.toList) (l1 : s.size ≤ 300) (l2 : t.size ≤ 300) (B : Nat) (w : World) (hB : B ≤ w.heap.size) (hT : P10 B w) :
    Calls Tryz.prog 339 #[.string s, .string t] w (Ret w (.tuple #[.string (strB (Lib.decDigits (Nat.gcd (dv s.data.toList) (dv t.data.toList)))), .int .i64 0])) := by
  obtain ⟨c1, v1⟩ := numeral_ok h1 (by rw [bytes_len]; exact l1)
  obtain ⟨c2, v2⟩ := numeral_ok h2 (by rw [bytes_len]; exact l2)
  have e : pairV (Lib.itoa ((Nat.gcd (valI s.data.toList).natAbs (valI t.data.toList).natAbs : Nat) : Int)) 0 = .tuple #[.string (strB (Lib.decDigits (Nat.gcd (dv s.data.toList) (dv t.data.toList)))), .int .i64 0] := by
    rw [v1, v2, Int.natAbs_natCast, Int.natAbs_natCast, Lib.itoa_nonneg]
  rw [← e]
  by_cases hl : s.size ≤ 17 ∧ t.size ≤ 17
  · exact rGcd_small s t B w c1 c2 hl.1 hl.2 hB hT
  · exact rGcd_long s t w c1 c2 hl
theorem list_test {s : ByteArray} {l m : List UInt8} (h : s.data.toList = l) : (s.toList == m) = decide (l = m) := by
  by_cases e : l = m
  · rw [(lit_eq h).1 e, decide_eq_true e]
  · rw [(lit_eq h).2 e, decide_eq_false e]
theorem r2Check_big (s : ByteArray) (hs : s.size ≤ 9223372036854775807) (B : Nat) (w : World) (hB : B ≤ w.heap.size) (hT : PQ B w) :
    Calls Tryz.prog 239 #[.string s] w (Ret w (.int .i64 (chkQ s.data.toList))) := by
  have HT := hide hT
  clear hT
  obtain ⟨V, hV⟩ : ∃ V, V = chkQ s.data.toList := ⟨_, rfl⟩
  rw [← hV]
  have HS := hide (fun w => r2split_any s hs w)
  obtain ⟨nn, hnn⟩ : ∃ x, x = KI.ahead 47 (digs s.data.toList) := ⟨_, rfl⟩
  obtain ⟨dd, hdd⟩ : ∃ x, x = (if 47 ∈ digs s.data.toList then KI.behind 47 (digs s.data.toList) else []) := ⟨_, rfl⟩
  rw [chkQ_cut _ nn dd hnn hdd] at hV
  have hld : (digs s.data.toList).length ≤ s.size := by
    rw [digs_drop, List.length_drop, bytes_len]
    omega
  have hln : nn.length ≤ 9223372036854775807 := by
    have : nn.length ≤ (digs s.data.toList).length := by
      rw [hnn]
      exact List.Sublist.length_le (List.takeWhile_sublist _)
    omega
  have hlm : dd.length ≤ 9223372036854775807 := by
    have : dd.length ≤ (digs s.data.toList).length := by
      rw [hdd]
      split
      · exact List.Sublist.length_le ((List.drop_sublist _ _).trans (List.dropWhile_sublist _))
      · exact Nat.zero_le _
    omega
  have hd0 : decide (47 ∈ digs s.data.toList) = false → dd = [] := by
    intro h
    rw [hdd, if_neg (by simpa using h)]
  obtain ⟨neg, hneg⟩ : ∃ x, x = isNeg s.data.toList := ⟨_, rfl⟩
  obtain ⟨sl, hsl⟩ : ∃ x, x = decide (47 ∈ digs s.data.toList) := ⟨_, rfl⟩
  unfold splitR at HS
  rw [← hnn, ← hdd, ← hneg, ← hsl] at HS
  rw [← hsl] at hd0
  have hsl2 : 47 ∈ digs s.data.toList ↔ sl = true := by rw [hsl, decide_eq_true_iff]
  simp only [hsl2, ← hneg] at hV
  clear hsl hsl2 hneg hdd hnn hld hs
  obtain ⟨NN, hNN⟩ : ∃ x, x = strB nn := ⟨_, rfl⟩
  obtain ⟨DD, hDD⟩ : ∃ x, x = strB dd := ⟨_, rfl⟩
  have e1 : NN.data.toList = nn := by rw [hNN, strB_list]
  have e2 : DD.data.toList = dd := by rw [hDD, strB_list]
  rw [← hNN, ← hDD] at HS
  have hNs : NN.size = nn.length := by rw [← e1, bytes_len]
  have hDs : DD.size = dd.length := by rw [← e2, bytes_len]
  clear hNN hDD
  rw [← e1] at hV
  rw [← e2] at hV hd0
  rw [bytes_len, bytes_len] at hV
  have hDz : sl = false → DD.size = 0 := by
    intro h
    have := hd0 h
    rw [← bytes_len, this]
    rfl
  have HD1 := hide (fun b hb w => r2digits_any NN (by omega) b hb w)
  have HD2 := hide (fun b hb w => r2digits_any DD (by omega) b hb w)
  have tn := list_test (s := NN) (m := [48]) rfl
  have td := list_test (s := DD) (m := [48]) rfl
  have tu := list_test (s := DD) (m := [49]) rfl
  clear hNs hDs hln hlm e1 e2 hd0
  by_cases n1 : numeral NN.data.toList
  rotate_left
  · rw [if_pos (.inl n1)] at hV
    subst hV
    have HE1 := hide (HD1.out false (by simpa using n1))
    clear n1 hDz tn td tu HD1 HD2
    go_enter Tryz.func239, Tryz.ntmps239
    go_wp2_with fail
    refine (HS.out _).mono ?_
    rintro e w1 ⟨rfl, hb1⟩
    have HB1 := hide hb1
    clear hb1
    go_wp2_with fail
    refine (HE1.out _).mono ?_
    rintro e w2 ⟨rfl, hb2⟩
    have HB2 := hide (HB1.out.trans (hb2.mono HB1.out.size))
    clear hb2
    go_wp2_with fail
    go_ret
    exact ⟨rfl, HB2.out⟩
  have HE1 := hide (HD1.out true (by simpa using n1))
  clear HD1
  cases sl
  · have hz := hDz rfl
    have z1 : (300 < DD.size) = False := eq_false (by omega)
    have z1i : ((300 : Int) < (DD.size : Int)) = False := eq_false (by omega)
    by_cases hz : neg = true ∧ NN.data.toList = [48]
    · rw [if_pos (.inr (.inr hz))] at hV
      subst hV
      obtain ⟨rfl, h48⟩ := hz
      rw [decide_eq_true h48] at tn
      clear n1 hDz td tu HD2 h48 hz
      go_enter Tryz.func239, Tryz.ntmps239
      go_wp2_with fail
      refine (HS.out _).mono ?_
      rintro e w1 ⟨rfl, hb1⟩
      have HB1 := hide hb1
      clear hb1
      go_wp2_with fail
      refine (HE1.out _).mono ?_
      rintro e w2 ⟨rfl, hb2⟩
      have HB2 := hide (HB1.out.trans (hb2.mono HB1.out.size))
      clear hb2
      go_wp2_with fail
      go_ret
      exact ⟨rfl, HB2.out⟩
    rw [if_neg (by rintro (a | a | a); · exact a n1
                   · exact Bool.noConfusion a.1
                   · exact hz a)] at hV
    have hneg : neg = false ∨ (neg = true ∧ (NN.toList == [48]) = false) := by
      cases neg
      · exact .inl rfl
      · refine .inr ⟨rfl, ?_⟩
        rw [tn, decide_eq_false_iff_not]
        exact fun e => hz ⟨rfl, e⟩
    clear tn
    by_cases g1 : 300 < NN.size
    · rw [if_pos (.inl g1)] at hV
      subst hV
      have g1i : (300 : Int) < (NN.size : Int) := by omega
      clear n1 hDz td tu HD2 hz z1 z1i
      rcases hneg with rfl | ⟨rfl, tn⟩
      all_goals
        go_enter Tryz.func239, Tryz.ntmps239
        go_wp2_with fail
        refine (HS.out _).mono ?_
        rintro e w1 ⟨rfl, hb1⟩
        have HB1 := hide hb1
        clear hb1
        go_wp2_with fail
        refine (HE1.out _).mono ?_
        rintro e w2 ⟨rfl, hb2⟩
        have HB2 := hide (HB1.out.trans (hb2.mono HB1.out.size))
        clear hb2
        go_wp2_with fail
        go_ret
        exact ⟨rfl, HB2.out⟩
    · rw [if_neg (by omega), if_neg (by rintro ⟨a, _⟩; cases a)] at hV
      subst hV
      have g1i : ((300 : Int) < (NN.size : Int)) = False := eq_false (by omega)
      have g1n : (300 < NN.size) = False := eq_false g1
      clear n1 hDz td tu HD2 hz g1
      rcases hneg with rfl | ⟨rfl, tn⟩
      all_goals
        go_enter Tryz.func239, Tryz.ntmps239
        go_wp2_with fail
        refine (HS.out _).mono ?_
        rintro e w1 ⟨rfl, hb1⟩
        have HB1 := hide hb1
        clear hb1
        go_wp2_with fail
        refine (HE1.out _).mono ?_
        rintro e w2 ⟨rfl, hb2⟩
        have HB2 := hide (HB1.out.trans (hb2.mono HB1.out.size))
        clear hb2
        go_wp2_with fail
        go_ret
        exact ⟨rfl, HB2.out⟩
  clear hDz
  by_cases n2 : numeral DD.data.toList
  rotate_left
  · rw [if_pos (.inr (.inl ⟨rfl, .inl n2⟩))] at hV
    subst hV
    have HE2 := hide (HD2.out false (by simpa using n2))
    clear n1 n2 tn td tu HD2
    go_enter Tryz.func239, Tryz.ntmps239
    go_wp2_with fail
    refine (HS.out _).mono ?_
    rintro e w1 ⟨rfl, hb1⟩
    have HB1 := hide hb1
    clear hb1
    go_wp2_with fail
    refine (HE1.out _).mono ?_
    rintro e w2 ⟨rfl, hb2⟩
    have HB2 := hide (HB1.out.trans (hb2.mono HB1.out.size))
    clear hb2
    go_wp2_with fail
    refine (HE2.out _).mono ?_
    rintro e w3 ⟨rfl, hb3⟩
    have HB3 := hide (HB2.out.trans (hb3.mono HB2.out.size))
    clear hb3
    go_wp2_with fail
    go_ret
    exact ⟨rfl, HB3.out⟩
  have HE2 := hide (HD2.out true (by simpa using n2))
  clear HD2
  by_cases d0 : DD.data.toList = [48]
  · rw [if_pos (.inr (.inl ⟨rfl, .inr (.inl d0)⟩))] at hV
    subst hV
    rw [decide_eq_true d0] at td
    clear n1 n2 tn tu d0
    go_enter Tryz.func239, Tryz.ntmps239
    go_wp2_with fail
    refine (HS.out _).mono ?_
    rintro e w1 ⟨rfl, hb1⟩
    have HB1 := hide hb1
    clear hb1
    go_wp2_with fail
    refine (HE1.out _).mono ?_
    rintro e w2 ⟨rfl, hb2⟩
    have HB2 := hide (HB1.out.trans (hb2.mono HB1.out.size))
    clear hb2
    go_wp2_with fail
    refine (HE2.out _).mono ?_
    rintro e w3 ⟨rfl, hb3⟩
    have HB3 := hide (HB2.out.trans (hb3.mono HB2.out.size))
    clear hb3
    go_wp2_with fail
    go_ret
    exact ⟨rfl, HB3.out⟩
  rw [decide_eq_false d0] at td
  by_cases d1 : DD.data.toList = [49]
  · rw [if_pos (.inr (.inl ⟨rfl, .inr (.inr d1)⟩))] at hV
    subst hV
    rw [decide_eq_true d1] at tu
    clear n1 n2 tn d0 d1
    go_enter Tryz.func239, Tryz.ntmps239
    go_wp2_with fail
    refine (HS.out _).mono ?_
    rintro e w1 ⟨rfl, hb1⟩
    have HB1 := hide hb1
    clear hb1
    go_wp2_with fail
    refine (HE1.out _).mono ?_
    rintro e w2 ⟨rfl, hb2⟩
    have HB2 := hide (HB1.out.trans (hb2.mono HB1.out.size))
    clear hb2
    go_wp2_with fail
    refine (HE2.out _).mono ?_
    rintro e w3 ⟨rfl, hb3⟩
    have HB3 := hide (HB2.out.trans (hb3.mono HB2.out.size))
    clear hb3
    go_wp2_with fail
    go_ret
    exact ⟨rfl, HB3.out⟩
  rw [decide_eq_false d1] at tu
  by_cases hz : neg = true ∧ NN.data.toList = [48]
  · rw [if_pos (.inr (.inr hz))] at hV
    subst hV
    obtain ⟨rfl, h48⟩ := hz
    rw [decide_eq_true h48] at tn
    clear n1 n2 h48 d0 d1
    go_enter Tryz.func239, Tryz.ntmps239
    go_wp2_with fail
    refine (HS.out _).mono ?_
    rintro e w1 ⟨rfl, hb1⟩
    have HB1 := hide hb1
    clear hb1
    go_wp2_with fail
    refine (HE1.out _).mono ?_
    rintro e w2 ⟨rfl, hb2⟩
    have HB2 := hide (HB1.out.trans (hb2.mono HB1.out.size))
    clear hb2
    go_wp2_with fail
    refine (HE2.out _).mono ?_
    rintro e w3 ⟨rfl, hb3⟩
    have HB3 := hide (HB2.out.trans (hb3.mono HB2.out.size))
    clear hb3
    go_wp2_with fail
    go_ret
    exact ⟨rfl, HB3.out⟩
  rw [if_neg (by rintro (a | a | a); · exact a n1
                 · rcases a.2 with b | b | b
                   · exact b n2
                   · exact d0 b
                   · exact d1 b
                 · exact hz a)] at hV
  have hneg : neg = false ∨ (neg = true ∧ (NN.toList == [48]) = false) := by
    cases neg
    · exact .inl rfl
    · refine .inr ⟨rfl, ?_⟩
      rw [tn, decide_eq_false_iff_not]
      exact fun e => hz ⟨rfl, e⟩
  clear tn hz d0 d1
  by_cases g1 : 300 < NN.size
  · rw [if_pos (.inl g1)] at hV
    subst hV
    have g1i : (300 : Int) < (NN.size : Int) := by omega
    clear n1 n2
    rcases hneg with rfl | ⟨rfl, tn⟩
    all_goals
      go_enter Tryz.func239, Tryz.ntmps239
      go_wp2_with fail
      refine (HS.out _).mono ?_
      rintro e w1 ⟨rfl, hb1⟩
      have HB1 := hide hb1
      clear hb1
      go_wp2_with fail
      refine (HE1.out _).mono ?_
      rintro e w2 ⟨rfl, hb2⟩
      have HB2 := hide (HB1.out.trans (hb2.mono HB1.out.size))
      clear hb2
      go_wp2_with fail
      refine (HE2.out _).mono ?_
      rintro e w3 ⟨rfl, hb3⟩
      have HB3 := hide (HB2.out.trans (hb3.mono HB2.out.size))
      clear hb3
      go_wp2_with fail
      go_ret
      exact ⟨rfl, HB3.out⟩
  have g1i : ((300 : Int) < (NN.size : Int)) = False := eq_false (by omega)
  have g1n : (300 < NN.size) = False := eq_false g1
  by_cases g2 : 300 < DD.size
  · rw [if_pos (.inr g2)] at hV
    subst hV
    have g2i : (300 : Int) < (DD.size : Int) := by omega
    clear n1 n2 g1
    rcases hneg with rfl | ⟨rfl, tn⟩
    all_goals
      go_enter Tryz.func239, Tryz.ntmps239
      go_wp2_with fail
      refine (HS.out _).mono ?_
      rintro e w1 ⟨rfl, hb1⟩
      have HB1 := hide hb1
      clear hb1
      go_wp2_with fail
      refine (HE1.out _).mono ?_
      rintro e w2 ⟨rfl, hb2⟩
      have HB2 := hide (HB1.out.trans (hb2.mono HB1.out.size))
      clear hb2
      go_wp2_with fail
      refine (HE2.out _).mono ?_
      rintro e w3 ⟨rfl, hb3⟩
      have HB3 := hide (HB2.out.trans (hb3.mono HB2.out.size))
      clear hb3
      go_wp2_with fail
      go_ret
      exact ⟨rfl, HB3.out⟩
  have g2i : ((300 : Int) < (DD.size : Int)) = False := eq_false (by omega)
  have g2n : (300 < DD.size) = False := eq_false g2
  rw [if_neg (by omega)] at hV
  by_cases k9 : NN.size ≤ 9 ∧ DD.size ≤ 9
  · obtain ⟨k1, k2⟩ := k9
    have k1i : (NN.size : Int) ≤ 9 := by omega
    have k2i : (DD.size : Int) ≤ 9 := by omega
    have a1 : ∀ c ∈ NN.data.toList, isDg c = true := List.all_eq_true.1 n1.2.1
    have a2 : ∀ c ∈ DD.data.toList, isDg c = true := List.all_eq_true.1 n2.2.1
    have HM1 := hide (fun w => r2small_any NN a1 (by omega) w)
    have HM2 := hide (fun w => r2small_any DD a2 (by omega) w)
    have l1 : dv NN.data.toList < 10 ^ 9 := Nat.lt_of_lt_of_le (dv_lt _ a1) (Nat.pow_le_pow_right (by omega) (by rw [bytes_len]; omega))
    have l2 : dv DD.data.toList < 10 ^ 9 := Nat.lt_of_lt_of_le (dv_lt _ a2) (Nat.pow_le_pow_right (by omega) (by rw [bytes_len]; omega))
    have HG := hide (fun w => r2gcd_any (dv NN.data.toList) (dv DD.data.toList) (by omega) (by omega) w)
    obtain ⟨x, hx⟩ : ∃ x, x = dv NN.data.toList := ⟨_, rfl⟩
    obtain ⟨y, hy⟩ : ∃ x, x = dv DD.data.toList := ⟨_, rfl⟩
    obtain ⟨g, hg⟩ : ∃ g, g = Nat.gcd x y := ⟨_, rfl⟩
    rw [← hx] at HM1 HG hV
    rw [← hy] at HM2 HG hV
    rw [← hg] at HG
    simp only [← hg] at hV
    have hw : (g = 1 ∧ V = 0) ∨ (((g : Int) == 1) = false ∧ V = 11) := by
      by_cases h : g = 1
      · exact .inl ⟨h, by rw [hV, if_neg]; exact fun e => e.2 h⟩
      · refine .inr ⟨?_, by rw [hV, if_pos ⟨trivial, h⟩]⟩
        simp only [beq_eq_false_iff_ne, ne_eq]
        omega
    clear hV hg hx hy l1 l2 a1 a2 n1 n2 g1 g2 k1 k2
    rcases hw with ⟨rfl, rfl⟩ | ⟨hg1, rfl⟩ <;> rcases hneg with rfl | ⟨rfl, tn⟩
    all_goals
      go_enter Tryz.func239, Tryz.ntmps239
      go_wp2_with fail
      refine (HS.out _).mono ?_
      rintro e w1 ⟨rfl, hb1⟩
      have HB1 := hide hb1
      clear hb1
      go_wp2_with fail
      refine (HE1.out _).mono ?_
      rintro e w2 ⟨rfl, hb2⟩
      have HB2 := hide (HB1.out.trans (hb2.mono HB1.out.size))
      clear hb2
      go_wp2_with fail
      refine (HE2.out _).mono ?_
      rintro e w3 ⟨rfl, hb3⟩
      have HB3 := hide (HB2.out.trans (hb3.mono HB2.out.size))
      clear hb3
      go_wp2_with fail
      refine (HM1.out _).mono ?_
      rintro e w4 ⟨rfl, hb4⟩
      have HB4 := hide (HB3.out.trans (hb4.mono HB3.out.size))
      clear hb4
      go_wp2_with fail
      refine (HM2.out _).mono ?_
      rintro e w5 ⟨rfl, hb5⟩
      have HB5 := hide (HB4.out.trans (hb5.mono HB4.out.size))
      clear hb5
      go_wp2_with fail
      refine (HG.out _).mono ?_
      rintro e w6 ⟨rfl, hb6⟩
      have HB6 := hide (HB5.out.trans (hb6.mono HB5.out.size))
      clear hb6
      go_wp2_with fail
      go_ret
      exact ⟨rfl, HB6.out⟩
  · have HG := hide (fun w hB hT => rGcd_num NN DD n1 n2 (by omega) (by omega) B w hB hT)
    obtain ⟨x, hx⟩ : ∃ x, x = dv NN.data.toList := ⟨_, rfl⟩
    obtain ⟨y, hy⟩ : ∃ x, x = dv DD.data.toList := ⟨_, rfl⟩
    obtain ⟨g, hg⟩ : ∃ g, g = Nat.gcd x y := ⟨_, rfl⟩
    rw [← hx, ← hy] at HG hV
    rw [← hg] at HG
    simp only [← hg] at hV
    have hko : ((NN.size : Int) ≤ 9) = False ∨ ((NN.size : Int) ≤ 9 ∧ ((DD.size : Int) ≤ 9) = False) := by
      by_cases a : NN.size ≤ 9
      · exact .inr ⟨by omega, eq_false (by omega)⟩
      · exact .inl (eq_false (by omega))
    obtain ⟨G, hG⟩ : ∃ G, G = strB (Lib.decDigits g) := ⟨_, rfl⟩
    have hGl : G.data.toList = Lib.decDigits g := by rw [hG, strB_list]
    have hw : ((G.toList == [49]) = true ∧ V = 0) ∨ ((G.toList == [49]) = false ∧ V = 11) := by
      rw [list_test hGl]
      by_cases h : g = 1
      · exact .inl ⟨by rw [h, one_dec]; rfl, by rw [hV, if_neg]; exact fun e => e.2 h⟩
      · refine .inr ⟨?_, by rw [hV, if_pos ⟨trivial, h⟩]⟩
        rw [decide_eq_false_iff_not]
        intro e
        rw [← one_dec] at e
        exact h (dec_inj e)
    rw [← hG] at HG
    clear hV hg hx hy hG hGl n1 n2 g1 g2 k9
    rcases hko with k1i | ⟨k1i, k2i⟩ <;> rcases hw with ⟨hg1, rfl⟩ | ⟨hg1, rfl⟩ <;> rcases hneg with rfl | ⟨rfl, tn⟩
    all_goals
      go_enter Tryz.func239, Tryz.ntmps239
      go_wp2_with fail
      refine (HS.out _).mono ?_
      rintro e w1 ⟨rfl, hb1⟩
      have HB1 := hide hb1
      clear hb1
      go_wp2_with fail
      refine (HE1.out _).mono ?_
      rintro e w2 ⟨rfl, hb2⟩
      have HB2 := hide (HB1.out.trans (hb2.mono HB1.out.size))
      clear hb2
      go_wp2_with fail
      refine (HE2.out _).mono ?_
      rintro e w3 ⟨rfl, hb3⟩
      have HB3 := hide (HB2.out.trans (hb3.mono HB2.out.size))
      clear hb3
      go_wp2_with fail
      refine (HG.out _ (Nat.le_trans hB HB3.out.size) (HT.out.p10.on HB3.out hB)).mono ?_
      rintro e w4 ⟨rfl, hb4⟩
      have HB4 := hide (HB3.out.trans (hb4.mono HB3.out.size))
      clear hb4
      go_wp2_with fail
      go_ret
      exact ⟨rfl, HB4.out⟩
theorem r2Check_any (s : ByteArray) (hs : s.size ≤ 1000000) (B : Nat) (w : World) (hB : B ≤ w.heap.size) (hT : PQ B w) :
    Calls Tryz.prog 239 #[.string s] w (Ret w (.int .i64 (chkQ s.data.toList))) := r2Check_big s (by omega) B w hB hT
open Go.RowKit Go.KP Go.KI Go.Shelf
attribute [local go_sem] Oper.semAt_some

def intsV (l : List UInt8) : Value :=
  if 9 < (KI.ahead 47 (digs l)).length ∨ 9 < (if 47 ∈ digs l then KI.behind 47 (digs l) else []).length then .tuple #[.int .i64 0, .int .i64 0, .bool false]
  else .tuple #[.int .i64 (if isNeg l then -(dv (KI.ahead 47 (digs l)) : Int) else (dv (KI.ahead 47 (digs l)) : Int)), .int .i64 (if 47 ∈ digs l then (dv (KI.behind 47 (digs l)) : Int) else 1), .bool true]

theorem ret3v {f : Func} {R : Ending → World → Prop} {a : Act} {W : World} {t0 t1 t2 : Tmp} {v0 v1 v2 : Value} (hf : f.results = #[.tmp t0, .tmp t1, .tmp t2]) (h0 : a.tmps[t0]? = some v0) (h1 : a.tmps[t1]? = some v1) (h2 : a.tmps[t2]? = some v2) (hd : a.defers = []) (hR : R (.returned (.tuple #[v0, v1, v2])) W) :
    bodyPost Tryz.prog f R .ret a W := by
  refine bodyPost_ret ?_ hd hR
  simp [results, hf, go_sem, h0, h1, h2]

theorem r2ints_any (s : ByteArray) (hs : s.size ≤ 1000000) (hn : ∀ c ∈ KI.ahead 47 (digs s.data.toList), isDg c = true) (hd : 47 ∈ digs s.data.toList → ∀ c ∈ KI.behind 47 (digs s.data.toList), isDg c = true) (w : World) :
    Calls Tryz.prog 245 #[.string s] w (Ret w (intsV s.data.toList)) := by
  obtain ⟨V, hV⟩ : ∃ V, V = intsV s.data.toList := ⟨_, rfl⟩
  rw [← hV]
  have HS := hide (fun w => r2split_any s (by omega) w)
  obtain ⟨nn, hnn⟩ : ∃ x, x = KI.ahead 47 (digs s.data.toList) := ⟨_, rfl⟩
  obtain ⟨dd, hdd⟩ : ∃ x, x = (if 47 ∈ digs s.data.toList then KI.behind 47 (digs s.data.toList) else []) := ⟨_, rfl⟩
  obtain ⟨neg, hneg⟩ : ∃ x, x = isNeg s.data.toList := ⟨_, rfl⟩
  obtain ⟨sl, hsl⟩ : ∃ x, x = decide (47 ∈ digs s.data.toList) := ⟨_, rfl⟩
  have hd2 : ∀ c ∈ dd, isDg c = true := by
    rw [hdd]
    intro c hc
    split at hc
    · next h => exact hd h c hc
    · cases hc
  have hV2 : V = if 9 < nn.length ∨ 9 < dd.length then .tuple #[.int .i64 0, .int .i64 0, .bool false]
      else .tuple #[.int .i64 (if neg then -(dv nn : Int) else (dv nn : Int)), .int .i64 (if sl then (dv dd : Int) else 1), .bool true] := by
    rw [hV, intsV, ← hnn, ← hdd, ← hneg]
    split
    · rfl
    · by_cases h : 47 ∈ digs s.data.toList
      · rw [hsl, hdd]
        simp [h]
      · rw [hsl, hdd]
        simp [h]
  unfold splitR at HS
  rw [← hnn, ← hdd, ← hneg, ← hsl] at HS
  rw [← hnn] at hn
  clear hsl hneg hdd hnn hd hV hs
  obtain ⟨NN, hNN⟩ : ∃ x, x = strB nn := ⟨_, rfl⟩
  obtain ⟨DD, hDD⟩ : ∃ x, x = strB dd := ⟨_, rfl⟩
  have hNs : NN.size = nn.length := by rw [hNN, strB_size]
  have hDs : DD.size = dd.length := by rw [hDD, strB_size]
  have HM := hide (fun (h : NN.size ≤ 18) (w : World) => r2small_any NN (by rw [hNN, strB_list]; exact hn) h w)
  have HM2 := hide (fun (h : DD.size ≤ 18) (w : World) => r2small_any DD (by rw [hDD, strB_list]; exact hd2) h w)
  have e1 : NN.data.toList = nn := by rw [hNN, strB_list]
  have e2 : DD.data.toList = dd := by rw [hDD, strB_list]
  rw [e1] at HM
  rw [e2] at HM2
  rw [← hNN, ← hDD] at HS
  rw [← hNs, ← hDs] at hV2
  have hm1 : NN.size ≤ 9 → dv nn < 10 ^ 9 := by
    intro h
    exact Nat.lt_of_lt_of_le (dv_lt _ hn) (Nat.pow_le_pow_right (by omega) (by omega))
  have hm2 : DD.size ≤ 9 → dv dd < 10 ^ 9 := by
    intro h
    exact Nat.lt_of_lt_of_le (dv_lt _ hd2) (Nat.pow_le_pow_right (by omega) (by omega))
  clear hNN hDD hNs hDs e1 e2 hn hd2
  obtain ⟨x, hx⟩ : ∃ x, x = dv nn := ⟨_, rfl⟩
  obtain ⟨y, hy⟩ : ∃ x, x = dv dd := ⟨_, rfl⟩
  rw [← hx] at hm1 hV2 HM
  rw [← hy] at hm2 hV2 HM2
  clear hx hy
  by_cases g1 : 9 < NN.size
  · rw [if_pos (.inl g1)] at hV2
    have HV := hide hV2
    have g1i : (9 : Int) < (NN.size : Int) := by omega
    clear hV2 hm1 hm2 HM HM2 g1
    go_enter Tryz.func245, Tryz.ntmps245
    go_wp2_with fail
    refine (HS.out _).mono ?_
    rintro e w1 ⟨rfl, hb1⟩
    have HB1 := hide hb1
    clear hb1
    go_wp2_with fail
    refine ret3v rfl rfl rfl rfl rfl ?_
    exact ⟨by rw [HV.out]; rfl, HB1.out⟩
  have g1i : (NN.size : Int) ≤ 9 := by omega
  by_cases g2 : 9 < DD.size
  · rw [if_pos (.inr g2)] at hV2
    have HV := hide hV2
    have g2i : (9 : Int) < (DD.size : Int) := by omega
    clear hV2 hm1 hm2 HM HM2 g1 g2
    go_enter Tryz.func245, Tryz.ntmps245
    go_wp2_with fail
    refine (HS.out _).mono ?_
    rintro e w1 ⟨rfl, hb1⟩
    have HB1 := hide hb1
    clear hb1
    go_wp2_with fail
    refine ret3v rfl rfl rfl rfl rfl ?_
    exact ⟨by rw [HV.out]; rfl, HB1.out⟩
  have g2i : (DD.size : Int) ≤ 9 := by omega
  rw [if_neg (by omega)] at hV2
  have HM3 := hide (HM.out (by omega))
  have HM4 := hide (HM2.out (by omega))
  have hx1 : (x : Int) < 1000000000 := by have := hm1 (by omega); omega
  have hy1 : (y : Int) < 1000000000 := by have := hm2 (by omega); omega
  have hx0 : (0 : Int) ≤ (x : Int) := by omega
  have HV := hide hV2
  clear hV2 hm1 hm2 HM HM2
  have f1 : ((9 : Int) < (NN.size : Int)) = False := eq_false (by omega)
  have f2 : ((9 : Int) < (DD.size : Int)) = False := eq_false (by omega)
  have f3 : (9 < NN.size) = False := eq_false g1
  have f4 : (9 < DD.size) = False := eq_false g2
  clear g1 g2 g1i g2i
  cases sl <;> cases neg
  · go_enter Tryz.func245, Tryz.ntmps245
    go_wp2_with fail
    refine (HS.out _).mono ?_
    rintro e w1 ⟨rfl, hb1⟩
    have HB1 := hide hb1
    clear hb1
    go_wp2_with fail
    refine (HM3.out _).mono ?_
    rintro e w2 ⟨rfl, hb2⟩
    have HB2 := hide (HB1.out.trans (hb2.mono HB1.out.size))
    clear hb2
    go_wp2_with fail
    refine ret3v rfl rfl rfl rfl rfl ?_
    exact ⟨by rw [HV.out]; rfl, HB2.out⟩
  · go_enter Tryz.func245, Tryz.ntmps245
    go_wp2_with fail
    refine (HS.out _).mono ?_
    rintro e w1 ⟨rfl, hb1⟩
    have HB1 := hide hb1
    clear hb1
    go_wp2_with fail
    refine (HM3.out _).mono ?_
    rintro e w2 ⟨rfl, hb2⟩
    have HB2 := hide (HB1.out.trans (hb2.mono HB1.out.size))
    clear hb2
    go_wp2_with fail
    refine ret3v rfl rfl rfl rfl rfl ?_
    exact ⟨by rw [HV.out]; rfl, HB2.out⟩
  all_goals
    go_enter Tryz.func245, Tryz.ntmps245
    go_wp2_with fail
    refine (HS.out _).mono ?_
    rintro e w1 ⟨rfl, hb1⟩
    have HB1 := hide hb1
    clear hb1
    go_wp2_with fail
    refine (HM3.out _).mono ?_
    rintro e w2 ⟨rfl, hb2⟩
    have HB2 := hide (HB1.out.trans (hb2.mono HB1.out.size))
    clear hb2
    go_wp2_with fail
    refine (HM4.out _).mono ?_
    rintro e w3 ⟨rfl, hb3⟩
    have HB3 := hide (HB2.out.trans (hb3.mono HB2.out.size))
    clear hb3
    go_wp2_with fail
    refine ret3v rfl rfl rfl rfl rfl ?_
    exact ⟨by rw [HV.out]; rfl, HB3.out⟩
open Go.RowKit Go.KP Go.KI Go.Shelf

theorem ratS_len {x : Rat} (h : fitsQ x) : (ratS x).length ≤ 1000 := by
  have h1 := itoa_len x.num
  have h2 := fits_len.1 h.1
  have h3 := fits_nat.1 h.2
  unfold ratS
  split
  · omega
  · rw [List.length_append, List.length_cons]
    omega
theorem good_len {s : ByteArray} {x : Rat} (h : s.data.toList = ratS x) (f : fitsQ x) : s.size ≤ 1000000 := by
  have := ratS_len f
  rw [← bytes_len, h]
  omega
theorem good_val {s : ByteArray} {x : Rat} (h : s.data.toList = ratS x) (f : fitsQ x) : chkQ s.data.toList = 0 ∧ valQ s.data.toList = x := by
  rw [h, ratS_num]
  exact ⟨chkQ_fits f, rfl⟩
theorem qmul_to {s t : ByteArray} {x y : Rat} (h1 : s.data.toList = ratS x) (h2 : t.data.toList = ratS y) (f1 : fitsQ x) (f2 : fitsQ y) (hc : mulC x y) (B : Nat) (w : World) (hB : B ≤ w.heap.size) (hT : PQ B w) :
    Calls Tryz.prog 42 #[.string s, .string t] w (Ret w (.tuple #[.string (strB (ratS (x * y))), .int .i64 0])) := by
  obtain ⟨a1, a2⟩ := good_val h1 f1
  obtain ⟨b1, b2⟩ := good_val h2 f2
  have h := qMul_any s t (good_len h1 f1) (good_len h2 f2) B w hB hT
  unfold qopS qopE at h
  rw [if_pos (zero_bothQ a1 b1), if_pos (zero_bothQ a1 b1), a2, b2, if_pos hc, if_pos hc] at h
  exact h
theorem qdiv_to {s t : ByteArray} {x y : Rat} (h1 : s.data.toList = ratS x) (h2 : t.data.toList = ratS y) (f1 : fitsQ x) (f2 : fitsQ y) (hy : y ≠ 0) (hc : cmpC x y) (B : Nat) (w : World) (hB : B ≤ w.heap.size) (hT : PQ B w) :
    Calls Tryz.prog 251 #[.string s, .string t] w (Ret w (.tuple #[.string (strB (ratS (x / y))), .int .i64 0])) := by
  obtain ⟨a1, a2⟩ := good_val h1 f1
  obtain ⟨b1, b2⟩ := good_val h2 f2
  have h := qDiv_any s t (good_len h1 f1) (good_len h2 f2) B w hB hT
  unfold divS divE at h
  rw [if_pos (zero_bothQ a1 b1), if_pos (zero_bothQ a1 b1), a2, b2, if_neg hy, if_neg hy, if_pos hc, if_pos hc] at h
  exact h
end Go.Proofs.YtpmnhipffkhcpaaGreatDoor
namespace Go.KI
open Go

structure V3 where
  x : Rat
  y : Rat
  z : Rat
theorem V3.ext {a b : V3} (h1 : a.x = b.x) (h2 : a.y = b.y) (h3 : a.z = b.z) : a = b := by
  cases a
  cases b
  cases h1
  cases h2
  cases h3
  rfl
theorem V3.eq_iff {a b : V3} : a = b ↔ (a.x = b.x ∧ a.y = b.y ∧ a.z = b.z) := ⟨fun h => by rw [h]; exact ⟨rfl, rfl, rfl⟩, fun h => V3.ext h.1 h.2.1 h.2.2⟩
instance : DecidableEq V3 := fun _ _ => decidable_of_iff _ V3.eq_iff.symm
def addO (x y : Rat) : Option Rat := if addC x y then some (x + y) else none
def mulO (x y : Rat) : Option Rat := if mulC x y then some (x * y) else none
theorem addO_sz {p q : Nat} {x y : Rat} (hx : sz p x) (hy : sz q y) (h : p + q + 1 ≤ most) : addO x y = some (x + y) := if_pos (addC_of hx hy h)
theorem mulO_sz {p q : Nat} {x y : Rat} (hx : sz p x) (hy : sz q y) (h : p + q ≤ most) : mulO x y = some (x * y) := if_pos (mulC_of hx hy h)
def cmpR (x y : Rat) : Int := if x < y then -1 else if y < x then 1 else 0
end Go.KI
namespace Go.Proofs.YtpmnhipffkhcpaaGreatDoor
open Go.RowKit Go.KP Go.KI Go.Shelf
attribute [local go_sem] Oper.semAt_some

def T (q : Rat) : ByteArray := strB (ratS q)
theorem T_list (q : Rat) : (T q).data.toList = ratS q := strB_list _
theorem T_of {s : ByteArray} {q : Rat} (h : s.data.toList = ratS q) : s = T q := bytes_eq (by rw [h, T_list])
theorem T_beq (p q : Rat) : ((T p).toList == (T q).toList) = decide (p = q) := by
  rw [ByteArray.toList_eq, ByteArray.toList_eq, T_list, T_list]
  by_cases h : p = q
  · rw [h]
    simp
  · rw [decide_eq_false h]
    exact beq_false_of_ne fun e => h (ratS_inj e)
theorem T_size {q : Rat} (h : fitsQ q) : (T q).size ≤ 1000 := by
  rw [← bytes_len, T_list]
  exact ratS_len h
theorem T0 : T 0 = ⟨#[48]⟩ := by
  apply bytes_eq
  rw [T_list, show (0 : Rat) = ((0 : Int) : Rat) from rfl, ratS_int]
  show Lib.itoa ((0 : Nat) : Int) = _
  rw [Lib.itoa_nonneg, dec_zero]
def ResO (w : World) (o : Option Rat) (e : Ending) (w' : World) : Prop := (∃ v, o = some v ∧ Ret w (.tuple #[.string (T v), .int .i64 0]) e w') ∨ (o = none ∧ Ret w (.tuple #[.string ⟨#[]⟩, .int .i64 4]) e w')
theorem ResO.of {w : World} {o : Option Rat} {x : Rat} (h : o = some x) {e : Ending} {w' : World} (hr : ResO w o e w') : Ret w (.tuple #[.string (T x), .int .i64 0]) e w' := by
  rcases hr with ⟨v, h1, h2⟩ | ⟨h1, _⟩
  · rw [h] at h1
    cases h1
    exact h2
  · rw [h] at h1
    cases h1
structure BinFn (g : Nat) (F : Rat → Rat → Option Rat) : Prop where
  enters : ∀ args w, (callFunc g args).run Tryz.prog w = .ok (.enter g args) w
  calls : ∀ (x y : Rat) (B : Nat) (w : World), fitsQ x → fitsQ y → B ≤ w.heap.size → PQ B w → Calls Tryz.prog g #[.string (T x), .string (T y)] w (ResO w (F x y))
theorem T_good {x : Rat} (f : fitsQ x) : (T x).size ≤ 1000000 ∧ chkQ (T x).data.toList = 0 ∧ valQ (T x).data.toList = x := by
  have := T_size f
  rw [T_list, ratS_num]
  exact ⟨by omega, chkQ_fits f, rfl⟩
open Go.RowKit Go.KP Go.KI Go.Shelf
attribute [local go_sem] Oper.semAt_some

theorem list_is {s : ByteArray} {l m : List UInt8} (h : s.data.toList = l) : (s.toList == m) = decide (l = m) := by
  by_cases e : l = m
  · rw [(lit_eq h).1 e, decide_eq_true e]
  · rw [(lit_eq h).2 e, decide_eq_false e]
def iB (z : Int) : ByteArray := strB (Lib.itoa z)
theorem iB_list (z : Int) : (iB z).data.toList = Lib.itoa z := strB_list _
theorem iB_size {z : Int} (h : fits z) : (iB z).size ≤ 301 := fits_size (iB_list z) h
theorem iB_nonneg {z : Int} (h : 0 ≤ z) : (iB z).data.toList = Lib.decDigits z.natAbs := by
  rw [iB_list]
  rcases itoa_cases z with ⟨a, _⟩ | ⟨_, b⟩
  · omega
  · exact b
theorem iB_head (z : Int) : ∃ h : 0 < (iB z).size, (((((iB z)[0]'h).toNat : Nat) : Int) == 45) = decide (z < 0) := by
  have hne : (iB z).data.toList ≠ [] := by
    rw [iB_list]
    rcases itoa_cases z with ⟨_, a⟩ | ⟨_, a⟩ <;> rw [a]
    · simp
    · exact decDigits_ne _
  obtain ⟨hp, hh⟩ := bytes_head hne
  refine ⟨hp, ?_⟩
  rw [iB_list] at hh
  have h2 := head_itoa z
  rw [hh] at h2
  by_cases h : z < 0
  · have h3 := h2.2 h
    injection h3 with h3
    rw [h3, decide_eq_true h]
    rfl
  · rw [decide_eq_false h]
    simp only [beq_eq_false_iff_ne, ne_eq]
    intro e
    refine h (h2.1 ?_)
    congr 1
    apply UInt8.toNat_inj.1
    have e2 : (45 : UInt8).toNat = 45 := rfl
    omega
theorem iB_neg_drop {z : Int} (h : z < 0) : (iB z).extract 1 (iB z).size = iB (-z) := by
  rw [ext_drop, iB_list]
  rcases itoa_cases z with ⟨_, a⟩ | ⟨a, _⟩
  · rw [a]
    apply bytes_eq
    rw [strB_list, iB_nonneg (by omega), List.drop_succ_cons, List.drop_zero]
    congr 1
    omega
  · omega
theorem iB_pos_neg {z : Int} (h : 0 < z) : (⟨#[45]⟩ : ByteArray) ++ iB z = iB (-z) := by
  apply bytes_eq
  rw [iB_list]
  rcases itoa_cases (-z) with ⟨_, a⟩ | ⟨a, _⟩
  · rw [a]
    have e : ((⟨#[45]⟩ : ByteArray) ++ iB z).data.toList = 45 :: (iB z).data.toList := by simp
    rw [e, iB_nonneg (by omega)]
    congr 2
    omega
  · omega
theorem iB_zero_test (z : Int) : ((iB z).toList == [48]) = decide (z = 0) := by
  rw [list_is (iB_list z)]
  refine decide_eq_decide.2 ⟨fun e => itoa_inj (e.trans itoa_zero.symm), fun e => by rw [e, itoa_zero]⟩
theorem iB_one_test (z : Int) : ((iB z).toList == [49]) = decide (z = 1) := by
  rw [list_is (iB_list z)]
  refine decide_eq_decide.2 ⟨fun e => itoa_inj (e.trans itoa_one.symm), fun e => by rw [e, itoa_one]⟩
theorem iB1 : iB 1 = ⟨#[49]⟩ := bytes_eq (by rw [iB_list, itoa_one])
theorem iB_both {x y : Int} (f1 : fits x) (f2 : fits y) : chkI (iB x).data.toList = 0 ∧ chkI (iB y).data.toList = 0 ∧ bothI (iB x).data.toList (iB y).data.toList = 0 ∧ (iB x).size ≤ 1000000 ∧ (iB y).size ≤ 1000000 ∧ valI (iB x).data.toList = x ∧ valI (iB y).data.toList = y := by
  have c1 : chkI (iB x).data.toList = 0 := by rw [iB_list]; exact chk_fits f1
  have c2 : chkI (iB y).data.toList = 0 := by rw [iB_list]; exact chk_fits f2
  have l1 := iB_size f1
  have l2 := iB_size f2
  exact ⟨c1, c2, by unfold bothI; rw [if_pos c1, c2], by omega, by omega, by rw [iB_list, val_itoa], by rw [iB_list, val_itoa]⟩
theorem resI_yes {z : Int} (h : fits z) : pairV (resS z) (resE z) = .tuple #[.string (iB z), .int .i64 0] := by
  unfold resS resE
  rw [if_pos h, if_pos h]
  rfl
theorem resI_no {z : Int} (h : ¬ fits z) : pairV (resS z) (resE z) = .tuple #[.string ⟨#[]⟩, .int .i64 4] := by
  unfold resS resE
  rw [if_neg h, if_neg h]
  rfl
theorem pMul_I {x y : Int} (f1 : fits x) (f2 : fits y) (f3 : fits (x * y)) (B : Nat) (w : World) (hB : B ≤ w.heap.size) (hT : P10 B w) :
    Calls Tryz.prog 130 #[.string (iB x), .string (iB y)] w (Ret w (pairT (iB (x * y)))) := Mul_to (iB_list x) (iB_list y) (iB_list _) f1 f2 f3 B w hB hT
theorem pAdd_I {x y : Int} (f1 : fits x) (f2 : fits y) (f3 : fits (x + y)) (B : Nat) (w : World) (hB : B ≤ w.heap.size) (hT : P10 B w) :
    Calls Tryz.prog 122 #[.string (iB x), .string (iB y)] w (Ret w (pairT (iB (x + y)))) := Add_to (iB_list x) (iB_list y) (iB_list _) f1 f2 f3 B w hB hT
theorem pDivide_I {x y : Int} (f1 : fits x) (f2 : fits y) (hy : 0 < y) (B : Nat) (w : World) (hB : B ≤ w.heap.size) (hT : P10 B w) :
    Calls Tryz.prog 244 #[.string (iB x), .string (iB y)] w (Ret w (.tuple #[.string (iB (x / y)), .string (iB (x % y)), .int .i64 0])) :=
  Divide_to (iB_list x) (iB_list y) (by rw [iB_list, Int.fdiv_eq_ediv_of_nonneg _ (by omega)]) (by rw [iB_list, Int.fmod_eq_emod_of_nonneg _ (by omega)]) f1 f2 (by omega) B w hB hT
theorem pCompare_I {x y : Int} (f1 : fits x) (f2 : fits y) (w : World) :
    Calls Tryz.prog 96 #[.string (iB x), .string (iB y)] w (Ret w (.tuple #[.int .i64 (Lib.compareInt x y), .int .i64 0])) := Compare_good (iB_list x) (iB_list y) f1 f2 w
open Go.RowKit Go.KP Go.KI Go.Shelf
attribute [local go_sem] Oper.semAt_some

theorem cmp_cases (x y : Int) : (x < y ∧ Lib.compareInt x y = -1) ∨ (y < x ∧ Lib.compareInt x y = 1) ∨ (x = y ∧ Lib.compareInt x y = 0) := by
  have h1 := cmp_bound x y
  have h2 := cmp_zero (x := x) (y := y)
  unfold Lib.compareInt at *
  rcases Int.lt_trichotomy x y with h | h | h
  · exact .inl ⟨h, by simp [h]⟩
  · exact .inr (.inr ⟨h, by simp [h]⟩)
  · exact .inr (.inl ⟨h, by simp [h, show ¬ x < y by omega]⟩)
theorem rCompare_any (s t : ByteArray) (w : World) (hs : s.size ≤ 1000000) (ht : t.size ≤ 1000000) :
    Calls Tryz.prog 294 #[.string s, .string t] w (Ret w (.tuple #[.int .i64 (cmpV s.data.toList t.data.toList), .int .i64 (bothI s.data.toList t.data.toList)])) := by
  have H1 := hide (rboth_any s t hs ht w)
  by_cases hE : bothI s.data.toList t.data.toList = 0
  · have e1 : cmpV s.data.toList t.data.toList = Lib.compareInt (valI s.data.toList) (valI t.data.toList) := if_pos hE
    obtain ⟨c1, c2, _, _⟩ := op2_good (f := (· + ·)) hE
    rw [e1, hE]
    rw [hE] at H1
    clear e1 hE hs ht
    obtain ⟨V, hV⟩ : ∃ V, V = Lib.compareInt (valI s.data.toList) (valI t.data.toList) := ⟨_, rfl⟩
    rw [← hV]
    have hcmp := cmp_cases (valI s.data.toList) (valI t.data.toList)
    rw [← hV] at hcmp
    by_cases hsm : s.size ≤ 17 ∧ t.size ≤ 17
    · have H2 := hide (fun w => rtwo_yes s t c1 c2 hsm.1 hsm.2 w)
      obtain ⟨x, hx⟩ : ∃ x, x = valI s.data.toList := ⟨_, rfl⟩
      obtain ⟨y, hy⟩ : ∃ y, y = valI t.data.toList := ⟨_, rfl⟩
      rw [← hx, ← hy] at H2 hcmp
      clear c1 c2 hsm hx hy hV
      rcases hcmp with ⟨h, rfl⟩ | ⟨h, rfl⟩ | ⟨h, rfl⟩
      case' inl => have t1 : x < y := h
      case' inr.inl =>
        have t1 : (x < y) = False := eq_false (by omega)
        have t2 : y < x := h
      case' inr.inr =>
        have t1 : (x < y) = False := eq_false (by omega)
        have t2 : (y < x) = False := eq_false (by omega)
      all_goals
        clear h
        go_enter Tryz.func294, Tryz.ntmps294
        go_wp2_with fail
        refine H1.out.mono ?_
        rintro e w1 ⟨rfl, hb1⟩
        have HB1 := hide hb1
        clear hb1 H1
        go_wp2_with fail
        refine (H2.out _).mono ?_
        rintro e w2 ⟨rfl, hb2⟩
        have HB2 := hide (HB1.out.trans (hb2.mono HB1.out.size))
        clear hb2 H2 HB1
        go_wp2_with fail
        refine bodyPost_ret (results_tmp2 rfl _ _ _) rfl ?_
        exact ⟨rfl, HB2.out⟩
    · have H2 := hide (fun w => rtwo_no s t c1 hsm w)
      have R1 := hide (fun w => rread_good s c1 w)
      have R2 := hide (fun w => rread_good t c2 w)
      clear c1 c2 hsm hV
      have HCMP := hide hcmp
      clear hcmp
      go_enter Tryz.func294, Tryz.ntmps294
      go_wp2_with fail
      refine H1.out.mono ?_
      rintro e w1 ⟨rfl, hb1⟩
      have HB1 := hide hb1
      clear hb1 H1
      go_wp2_with fail
      refine (H2.out _).mono ?_
      rintro e w2 ⟨x0, y0, rfl, hb2⟩
      have HB2 := hide (HB1.out.trans (hb2.mono HB1.out.size))
      clear hb2 H2 HB1
      go_wp2_with fail
      refine (R1.out _).mono ?_
      rintro e w3 ⟨m1, v1, l1, rfl, hb3, o1, n1, q1, k1⟩
      obtain ⟨a1, g1, hvf, _, _⟩ := o1.form
      subst hvf
      have HB3 := hide (HB2.out.trans (hb3.mono HB2.out.size))
      have O1 := hide o1; have N1 := hide n1; have Q1 := hide q1
      clear hb3 HB2 R1 o1 n1 q1
      go_wp2_with fail
      refine (R2.out _).mono ?_
      rintro e w4 ⟨m2, v2, l2, rfl, hb4, o2, n2, q2, k2⟩
      obtain ⟨a2, g2, hvf, _, _⟩ := o2.form
      subst hvf
      have HB4 := hide (HB3.out.trans (hb4.mono HB3.out.size))
      have O1' := hide (O1.out.keep hb4)
      have O2 := hide o2; have N2 := hide n2; have Q2 := hide q2
      clear hb4 HB3 R2 o2 n2 q2 O1
      go_wp2_with fail
      refine (rnegative_any m2 a2 g2 l2 w4).mono ?_
      rintro e w41 ⟨m21, rfl, hb41, q21⟩
      have HB41 := hide (HB4.out.trans (hb41.mono HB4.out.size))
      have O11 := hide (O1'.out.keep hb41)
      have O21 := hide (O2.out.keep hb41)
      have Q21 := hide q21
      clear hb41 q21 O1' O2 HB4
      go_wp2_with fail
      refine (radd_any m1 m21 a1 a2 g1 g2 l1 l2 w41 (.of_own O11.out) (.of_own O21.out) N1.out N2.out (by omega) (by omega)).mono ?_
      rintro e w5 ⟨m3, v3, l3, rfl, hb5, o3, n3, q3, k3⟩
      obtain ⟨a3, g3, hvf, _, _⟩ := o3.form
      subst hvf
      have HB5 := hide (HB41.out.trans (hb5.mono HB41.out.size))
      have hq3 : valS m3 (lv 1000000 l3) = valI s.data.toList - valI t.data.toList := by
        rw [q3, Q1.out, Q21.out, Q2.out]
        omega
      have hcmp := HCMP.out
      have hpos : l3 ≠ [] → 1 ≤ lv 1000000 l3 := fun h => by
        rcases Nat.eq_zero_or_pos (lv 1000000 l3) with h1 | h1
        · exact absurd ((n3.zero (by omega)).1 h1) h
        · exact h1
      have hres : (l3 = [] ∧ V = 0) ∨ (l3 ≠ [] ∧ m3 = true ∧ V = -1) ∨ (l3 ≠ [] ∧ m3 = false ∧ V = 1) := by
        by_cases h : l3 = []
        · refine .inl ⟨h, ?_⟩
          have h0 : valS m3 (lv 1000000 l3) = 0 := by rw [h]; cases m3 <;> rfl
          omega
        · have h1 := hpos h
          cases m3
          · exact .inr (.inr ⟨h, rfl, by simp [valS] at hq3; omega⟩)
          · exact .inr (.inl ⟨h, rfl, by simp [valS] at hq3; omega⟩)
      have F0 := hide (heap1 w5 (bigO m3 (.slice a3 l3.length g3)))
      clear hb5 q3 hq3 hpos HCMP hcmp HB41 O11 O21 N1 N2 Q1 Q2 Q21 o3 n3
      rcases hres with ⟨h, rfl⟩ | ⟨h, rfl, rfl⟩ | ⟨h, rfl, rfl⟩
      case' inl => have hl0 : ((l3.length : Int) == 0) = true := by rw [h]; rfl
      case' inr.inl =>
        have hl0 : ((l3.length : Int) == 0) = false := by
          have : l3.length ≠ 0 := fun h2 => h (List.eq_nil_of_length_eq_zero h2)
          simp only [beq_eq_false_iff_ne, ne_eq]
          omega
      case' inr.inr =>
        have hl0 : ((l3.length : Int) == 0) = false := by
          have : l3.length ≠ 0 := fun h2 => h (List.eq_nil_of_length_eq_zero h2)
          simp only [beq_eq_false_iff_ne, ne_eq]
          omega
      all_goals
        clear h
        obtain ⟨b0, bs0, bb0⟩ := F0.out
        have z0 := cell_blk b0 0
        have z1 := cell_blk b0 1
        have f0 := froz_blk b0 0
        have f1 := froz_blk b0 1
        have HB6 := hide (HB5.out.trans (bb0.mono HB5.out.size))
        clear b0 bs0 bb0
        go_wp2_with fail
        refine bodyPost_ret (results_tmp2 rfl _ _ _) rfl ?_
        exact ⟨rfl, HB6.out⟩
  · have e1 : cmpV s.data.toList t.data.toList = 0 := if_neg hE
    rw [e1]
    have hne : (bothI s.data.toList t.data.toList != 0) = true := by simpa using hE
    obtain ⟨E, hEE⟩ : ∃ E, E = bothI s.data.toList t.data.toList := ⟨_, rfl⟩
    rw [← hEE] at H1 hne ⊢
    clear e1 hE hEE
    go_enter Tryz.func294, Tryz.ntmps294
    go_wp2_with fail
    refine H1.out.mono ?_
    rintro e w1 ⟨rfl, hb1⟩
    have HB1 := hide hb1
    clear hb1 H1
    go_wp2_with fail
    refine bodyPost_ret (results_tmp2 rfl _ _ _) rfl ?_
    exact ⟨rfl, HB1.out⟩
end Go.Proofs.YtpmnhipffkhcpaaGreatDoor
namespace Go.KI
open Go
theorem isNeg_ratS (q : Rat) : isNeg (ratS q) = decide (q.num < 0) := by
  unfold isNeg
  exact decide_eq_decide.2 ratS_head
theorem cutD_ratS (q : Rat) : ahead 47 (digs (ratS q)) = Lib.decDigits q.num.natAbs ∧ (47 ∈ digs (ratS q) ↔ q.den ≠ 1) ∧ (q.den ≠ 1 → behind 47 (digs (ratS q)) = Lib.decDigits q.den) := by
  have hn : ∀ c ∈ Lib.decDigits q.num.natAbs, c ≠ 47 := fun c hc => by have := dec_no47 _ c hc; simpa using this
  rw [(digs_ratS q).1]
  by_cases h : q.den = 1
  · rw [if_pos h, List.append_nil]
    have h47 : ¬ 47 ∈ Lib.decDigits q.num.natAbs := fun e => hn 47 e rfl
    exact ⟨cut_not h47, ⟨fun e => absurd e h47, fun e => absurd h e⟩, fun e => absurd h e⟩
  · rw [if_neg h]
    obtain ⟨a, b, c⟩ := cut_at (c := 47) (a := Lib.decDigits q.num.natAbs) (b := Lib.decDigits q.den) hn
    exact ⟨a, ⟨fun _ => h, fun _ => c⟩, fun _ => b⟩
theorem dec1_len : (Lib.decDigits 1).length = 1 := by rw [one_dec]; rfl
def shortQ (q : Rat) : Prop := (Lib.decDigits q.num.natAbs).length ≤ 9 ∧ (Lib.decDigits q.den).length ≤ 9
instance (q : Rat) : Decidable (shortQ q) := inferInstanceAs (Decidable (_ ∧ _))
theorem shortQ_lt {q : Rat} (h : shortQ q) : q.num.natAbs < 1000000000 ∧ q.den < 1000000000 := ⟨(dec_len_le (n := 9) (by omega)).1 h.1, (dec_len_le (n := 9) (by omega)).1 h.2⟩
end Go.KI
namespace Go.Proofs.YtpmnhipffkhcpaaGreatDoor
open Go.RowKit Go.KP Go.KI Go.Shelf
attribute [local go_sem] Oper.semAt_some

theorem rMul_I {x y : Int} (f1 : fits x) (f2 : fits y) (B : Nat) (w : World) (hB : B ≤ w.heap.size) (hT : P10 B w) :
    Calls Tryz.prog 388 #[.string (iB x), .string (iB y)] w (Ret w (pairV (resS (x * y)) (resE (x * y)))) := by
  obtain ⟨_, _, b, l1, l2, v1, v2⟩ := iB_both f1 f2
  obtain ⟨_, _, e1, e2⟩ := op2_good (f := (· * ·)) b
  have := rMul_any _ _ B w l1 l2 hB hT
  rw [e1, e2, v1, v2] at this
  exact this
theorem rAdd_I {x y : Int} (f1 : fits x) (f2 : fits y) (B : Nat) (w : World) (hB : B ≤ w.heap.size) (hT : P10 B w) :
    Calls Tryz.prog 352 #[.string (iB x), .string (iB y)] w (Ret w (pairV (resS (x + y)) (resE (x + y)))) := by
  obtain ⟨_, _, b, l1, l2, v1, v2⟩ := iB_both f1 f2
  obtain ⟨_, _, e1, e2⟩ := op2_good (f := (· + ·)) b
  have := rAdd_any _ _ B w l1 l2 hB hT
  rw [e1, e2, v1, v2] at this
  exact this
theorem rGcd_I {x y : Int} (f1 : fits x) (f2 : fits y) (B : Nat) (w : World) (hB : B ≤ w.heap.size) (hT : P10 B w) :
    Calls Tryz.prog 339 #[.string (iB x), .string (iB y)] w (Ret w (.tuple #[.string (iB (Nat.gcd x.natAbs y.natAbs : Nat)), .int .i64 0])) := by
  obtain ⟨c1, c2, _, _, _, v1, v2⟩ := iB_both f1 f2
  by_cases hl : (iB x).size ≤ 17 ∧ (iB y).size ≤ 17
  · have := rGcd_small _ _ B w c1 c2 hl.1 hl.2 hB hT
    rw [v1, v2] at this
    exact this
  · have := rGcd_long _ _ w c1 c2 hl
    rw [v1, v2] at this
    exact this
theorem rDivide_I {x y : Int} (f1 : fits x) (f2 : fits y) (hy : 0 < y) (B : Nat) (w : World) (hB : B ≤ w.heap.size) (hT : P10 B w) :
    Calls Tryz.prog 248 #[.string (iB x), .string (iB y)] w (Ret w (.tuple #[.string (iB (x / y)), .string (iB (x % y)), .int .i64 0])) := by
  obtain ⟨c1, c2, _, _, _, v1, v2⟩ := iB_both f1 f2
  have h0 : (iB y).data.toList ≠ [48] := fun e => by
    rw [iB_list] at e
    have := itoa_inj (e.trans itoa_zero.symm)
    omega
  have e1 : x.fdiv y = x / y := Int.fdiv_eq_ediv_of_nonneg _ (by omega)
  have e2 : x.fmod y = x % y := Int.fmod_eq_emod_of_nonneg _ (by omega)
  by_cases hl : (iB x).size ≤ 17 ∧ (iB y).size ≤ 17
  · have := rDivide_small _ _ B w c1 c2 hl.1 hl.2 h0 hB hT
    rw [v1, v2, e1, e2] at this
    exact this
  · have := rDivide_long _ _ w c1 c2 hl h0
    rw [v1, v2, e1, e2] at this
    exact this
theorem rCompare_I {x y : Int} (f1 : fits x) (f2 : fits y) (w : World) :
    Calls Tryz.prog 294 #[.string (iB x), .string (iB y)] w (Ret w (.tuple #[.int .i64 (Lib.compareInt x y), .int .i64 0])) := by
  obtain ⟨_, _, b, l1, l2, v1, v2⟩ := iB_both f1 f2
  have := rCompare_any _ _ w l1 l2
  rw [b] at this
  unfold cmpV at this
  rw [if_pos b, v1, v2] at this
  exact this
theorem signed_abs (z : Int) : (if decide (z < 0) = true then -((z.natAbs : Nat) : Int) else ((z.natAbs : Nat) : Int)) = z := by
  by_cases h : z < 0
  · rw [decide_eq_true h, if_pos rfl]; omega
  · rw [decide_eq_false h, if_neg (by simp)]; omega
def intsQ (q : Rat) : Value := if shortQ q then .tuple #[.int .i64 q.num, .int .i64 (q.den : Int), .bool true] else .tuple #[.int .i64 0, .int .i64 0, .bool false]
theorem r2ints_T {q : Rat} (fq : fitsQ q) (w : World) : Calls Tryz.prog 245 #[.string (T q)] w (Ret w (intsQ q)) := by
  obtain ⟨h1, h2, h3⟩ := cutD_ratS q
  have h := r2ints_any (T q) (T_good fq).1 (by rw [T_list, h1]; exact decDigits_dg _) (by
    rw [T_list]
    intro h47
    rw [h3 (h2.1 h47)]
    exact decDigits_dg _) w
  have e : intsV (T q).data.toList = intsQ q := by
    unfold intsV intsQ
    rw [T_list, h1, isNeg_ratS]
    by_cases hd : q.den = 1
    · have hn : ¬ 47 ∈ digs (ratS q) := fun e => h2.1 e hd
      rw [if_neg hn]
      have hs : shortQ q ↔ ¬ (9 < (Lib.decDigits q.num.natAbs).length ∨ 9 < ([] : List UInt8).length) := by
        unfold shortQ
        rw [hd, dec1_len, List.length_nil]
        omega
      by_cases hh : shortQ q
      · rw [if_pos hh, if_neg (hs.1 hh), if_neg hn, hd, dv_decDigits]
        rw [signed_abs]
        rfl
      · rw [if_neg hh, if_pos (Decidable.not_not.1 fun e => hh (hs.2 e))]
    · have hn : 47 ∈ digs (ratS q) := h2.2 hd
      rw [if_pos hn, h3 hd]
      have hs : shortQ q ↔ ¬ (9 < (Lib.decDigits q.num.natAbs).length ∨ 9 < (Lib.decDigits q.den).length) := by
        unfold shortQ
        omega
      by_cases hh : shortQ q
      · rw [if_pos hh, if_neg (hs.1 hh), if_pos hn, dv_decDigits, dv_decDigits]
        rw [signed_abs]
      · rw [if_neg hh, if_pos (Decidable.not_not.1 fun e => hh (hs.2 e))]
  rw [e] at h
  exact h
theorem r2parts_T {q : Rat} (fq : fitsQ q) (w : World) : Calls Tryz.prog 247 #[.string (T q)] w (Ret w (.tuple #[.string (iB q.num), .string (iB (q.den : Int))])) := by
  obtain ⟨h1, h2, h3⟩ := cutD_ratS q
  have h := r2parts_any (T q) (T_good fq).1 w
  have e : partsR2 (T q).data.toList = .tuple #[.string (iB q.num), .string (iB (q.den : Int))] := by
    unfold partsR2
    rw [T_list, h1, isNeg_ratS]
    have e1 : (if decide (q.num < 0) = true then [45] else []) ++ Lib.decDigits q.num.natAbs = Lib.itoa q.num := by
      rcases itoa_cases q.num with ⟨a, b⟩ | ⟨a, b⟩
      · rw [b, decide_eq_true a]; rfl
      · rw [b, decide_eq_false (by omega)]; rfl
    have e2 : (if 47 ∈ digs (ratS q) then KI.behind 47 (digs (ratS q)) else [49]) = Lib.itoa (q.den : Int) := by
      rw [Lib.itoa_nonneg]
      by_cases hd : q.den = 1
      · rw [if_neg (fun e => h2.1 e hd), hd, one_dec]
      · rw [if_pos (h2.2 hd), h3 hd]
    rw [e1, e2]
    rfl
  rw [e] at h
  exact h
theorem r2Check_T {q : Rat} (fq : fitsQ q) (B : Nat) (w : World) (hB : B ≤ w.heap.size) (hT : PQ B w) : Calls Tryz.prog 239 #[.string (T q)] w (Ret w (.int .i64 0)) := by
  have h := r2Check_any (T q) (T_good fq).1 B w hB hT
  rw [(T_good fq).2.1] at h
  exact h
open Go.RowKit Go.KP Go.KI Go.Shelf
attribute [local go_sem] Oper.semAt_some

theorem iB_short {z : Int} (h : (iB z).size ≤ 18) : z.natAbs < 1000000000000000000 := by
  rw [← bytes_len, iB_list] at h
  refine (dec_len_le (n := 18) (by omega)).1 ?_
  rcases itoa_cases z with ⟨_, a⟩ | ⟨_, a⟩
  · rw [a, List.length_cons] at h; omega
  · rw [a] at h; exact h
theorem iB_dv {z : Int} (h : 0 ≤ z) : dv (iB z).data.toList = z.natAbs ∧ ∀ c ∈ (iB z).data.toList, isDg c = true := by
  rw [iB_nonneg h]
  exact ⟨dv_decDigits _, decDigits_dg _⟩
theorem make_text {n d : Int} (hd : 0 < d) : (d / (Nat.gcd n.natAbs d.natAbs : Nat) = 1 → iB (n / (Nat.gcd n.natAbs d.natAbs : Nat)) = T (Rat.divInt n d)) ∧
    (d / (Nat.gcd n.natAbs d.natAbs : Nat) ≠ 1 → iB (n / (Nat.gcd n.natAbs d.natAbs : Nat)) ++ ⟨#[47]⟩ ++ iB (d / (Nat.gcd n.natAbs d.natAbs : Nat)) = T (Rat.divInt n d)) := by
  have h := ratS_of (n := n) hd
  constructor
  · intro h1
    rw [if_pos h1] at h
    apply bytes_eq
    rw [iB_list, T_list, h]
  · intro h1
    rw [if_neg h1] at h
    apply bytes_eq
    rw [T_list, h]
    simp [iB, strB]
structure MakeOk (n d : Int) : Prop where
  pos : 0 < d
  fn : fits n
  fd : fits d
theorem r2make_any {n d : Int} (hd : d ≠ 0) (fn : fits n) (fd : fits d) (B : Nat) (w : World) (hB : B ≤ w.heap.size) (hT : P10 B w) :
    Calls Tryz.prog 249 #[.string (iB n), .string (iB d)] w (Ret w (.tuple #[.string (T (Rat.divInt n d)), .int .i64 0])) := by
  have HT := hide hT
  obtain ⟨n', d', hpos, fn', fd', hX, hst⟩ : ∃ n' d' : Int, 0 < d' ∧ fits n' ∧ fits d' ∧ Rat.divInt n d = Rat.divInt n' d' ∧ ((n' = n ∧ d' = d ∧ ¬ d < 0) ∨ (d < 0 ∧ d' = -d ∧ n' = -n)) := by
    by_cases h : d < 0
    · exact ⟨-n, -d, by omega, fits_of_le fn (by omega), fits_of_le fd (by omega), (Rat.divInt_eq_divInt_iff hd (by omega)).2 (by rw [Int.mul_neg, Int.neg_mul]), .inr ⟨h, rfl, rfl⟩⟩
    · exact ⟨n, d, by omega, fn, fd, rfl, .inl ⟨rfl, rfl, h⟩⟩
  rw [hX]
  clear hX
  obtain ⟨hn0, ehn⟩ := iB_head n
  obtain ⟨hd0, ehd⟩ := iB_head d
  have zn := iB_zero_test n
  have hszN := iB_size fn
  have hszD := iB_size fd
  have hpn : (0 : Int) < ((iB n).size : Int) := by omega
  have hpd : (0 : Int) < ((iB d).size : Int) := by omega
  have hpn1 : (1 : Int) ≤ ((iB n).size : Int) := by omega
  have hpd1 : (1 : Int) ≤ ((iB d).size : Int) := by omega
  have hcat : (9223372036854775807 < 1 + (iB n).size) = False := eq_false (by omega)
  have hcases : (((((iB d)[0]'hd0).toNat : Nat) : Int) == 45) = false ∧ iB n = iB n' ∧ iB d = iB d' ∨
      ((((((iB d)[0]'hd0).toNat : Nat) : Int) == 45) = true ∧ (iB d).extract 1 (iB d).size = iB d' ∧
        ((((((iB n)[0]'hn0).toNat : Nat) : Int) == 45) = true ∧ (iB n).extract 1 (iB n).size = iB n' ∨
         ((((((iB n)[0]'hn0).toNat : Nat) : Int) == 45) = false ∧ (((iB n).toList == [48]) = true ∧ iB n = iB n' ∨ ((iB n).toList == [48]) = false ∧ (⟨#[45]⟩ : ByteArray) ++ iB n = iB n')))) := by
    rcases hst with ⟨rfl, rfl, h⟩ | ⟨h, rfl, rfl⟩
    · exact .inl ⟨by rw [ehd, decide_eq_false h], rfl, rfl⟩
    · refine .inr ⟨by rw [ehd, decide_eq_true h], iB_neg_drop h, ?_⟩
      by_cases hn : n < 0
      · exact .inl ⟨by rw [ehn, decide_eq_true hn], iB_neg_drop hn⟩
      · refine .inr ⟨by rw [ehn, decide_eq_false hn], ?_⟩
        by_cases hz : n = 0
        · exact .inl ⟨by rw [zn, decide_eq_true hz], by rw [hz]; rfl⟩
        · exact .inr ⟨by rw [zn, decide_eq_false hz], iB_pos_neg (by omega)⟩
  clear hst ehn ehd zn fn fd hd
  obtain ⟨hn2, ehn2⟩ := iB_head n'
  have hs1 := iB_size fn'
  have hs2 := iB_size fd'
  have hq1 : (1 : Int) ≤ ((iB n').size : Int) := by omega
  have hq0 : (0 : Int) < ((iB n').size : Int) := by omega
  have hway : (((iB n').size : Int) ≤ 18 ∧ ((iB d').size : Int) ≤ 18) ∨ (((iB n').size : Int) ≤ 18 ∧ (((iB d').size : Int) ≤ 18) = False) ∨ (((iB n').size : Int) ≤ 18) = False := by
    by_cases a : (iB n').size ≤ 18
    · by_cases b : (iB d').size ≤ 18
      · exact .inl ⟨by omega, by omega⟩
      · exact .inr (.inl ⟨by omega, eq_false (by omega)⟩)
    · exact .inr (.inr (eq_false (by omega)))
  have HQ := hide (fun (h1 : ((iB n').size : Int) ≤ 18) (h2 : ((iB d').size : Int) ≤ 18) => show ∃ (u v : Nat), (u : Int) < 1000000000000000000 ∧ (d' = (v : Int)) ∧ (0 ≤ n' → n' = (u : Int)) ∧ (n' < 0 → n' = -(u : Int)) ∧
      (∀ w, Calls Tryz.prog 338 #[.string (iB d')] w (Ret w (.int .i64 v))) ∧
      (0 ≤ n' → ∀ w, Calls Tryz.prog 338 #[.string (iB n')] w (Ret w (.int .i64 u))) ∧
      (n' < 0 → ∀ w, Calls Tryz.prog 338 #[.string (iB (-n'))] w (Ret w (.int .i64 u))) ∧
      (∀ w, Calls Tryz.prog 246 #[.int .i64 n', .int .i64 v] w (Ret w (.string (T (Rat.divInt n' d'))))) from by
    have b1 := iB_short (z := n') (by omega)
    have b2 := iB_short (z := d') (by omega)
    refine ⟨n'.natAbs, d'.natAbs, by omega, by omega, fun _ => by omega, fun _ => by omega, ?_, ?_, ?_, ?_⟩
    · intro w
      have e := iB_dv (z := d') (by omega)
      have h := r2small_any (iB d') e.2 (by omega) w
      rw [e.1] at h
      exact h
    · intro h0 w
      have e := iB_dv (z := n') h0
      have h := r2small_any (iB n') e.2 (by omega) w
      rw [e.1] at h
      exact h
    · intro h0 w
      have e := iB_dv (z := -n') (by omega)
      have l : (iB (-n')).size ≤ 18 := by
        have e2 := congrArg ByteArray.size (iB_neg_drop h0)
        rw [ByteArray.size_extract] at e2
        omega
      have h := r2small_any (iB (-n')) e.2 l w
      rw [e.1, Int.natAbs_neg] at h
      exact h
    · intro w
      have h := r2quick_any n' d'.natAbs (by omega) (by omega) (by omega) w
      rw [show ((d'.natAbs : Nat) : Int) = d' by omega] at h
      rw [show ((d'.natAbs : Nat) : Int) = d' by omega]
      exact h)
  obtain ⟨g, hg⟩ : ∃ g, g = Nat.gcd n'.natAbs d'.natAbs := ⟨_, rfl⟩
  have hgp : 0 < g := by rw [hg]; exact Nat.gcd_pos_of_pos_right _ (by omega)
  have hgd : g ≤ d'.natAbs := by rw [hg]; exact Nat.gcd_le_right _ (by omega)
  have fg : fits ((g : Nat) : Int) := fits_of_le fd' (by omega)
  have HG := hide (fun w hB hT => rGcd_I fn' fd' B w hB hT)
  have HV1 := hide (fun w hB hT => rDivide_I fn' fg (by omega) B w hB hT)
  have HV2 := hide (fun w hB hT => rDivide_I fd' fg (by omega) B w hB hT)
  rw [← hg] at HG
  have mt := make_text (n := n') hpos
  rw [← hg] at mt
  have fN1 : fits (n' / (g : Int)) := fits_of_le fn' (by
    rw [Int.natAbs_ediv_of_dvd (by rw [hg]; exact Int.ofNat_dvd_left.2 (Nat.gcd_dvd_left _ _)), Int.natAbs_natCast]
    exact Nat.div_le_self _ _)
  have fD1 : fits (d' / (g : Int)) := fits_of_le fd' (by
    rw [Int.natAbs_ediv_of_dvd (by rw [hg]; exact Int.ofNat_dvd_left.2 (Nat.gcd_dvd_right _ _)), Int.natAbs_natCast]
    exact Nat.div_le_self _ _)
  obtain ⟨N1, hN1⟩ : ∃ x, x = n' / (g : Int) := ⟨_, rfl⟩
  obtain ⟨D1, hD1⟩ : ∃ x, x = d' / (g : Int) := ⟨_, rfl⟩
  obtain ⟨R1, hR1⟩ : ∃ x, x = iB (n' % (g : Int)) := ⟨_, rfl⟩
  obtain ⟨R2, hR2⟩ : ∃ x, x = iB (d' % (g : Int)) := ⟨_, rfl⟩
  have hD1p : 0 ≤ D1 := by rw [hD1]; exact Int.ediv_nonneg (by omega) (by omega)
  rw [← hN1] at HV1 fN1 mt
  rw [← hD1] at HV2 fD1 mt
  rw [← hR1] at HV1
  rw [← hR2] at HV2
  obtain ⟨hn3, ehn3⟩ := iB_head N1
  have s1 := iB_size fN1
  have s1p : (0 : Int) < ((iB N1).size : Int) := by omega
  have s1q : (1 : Int) ≤ ((iB N1).size : Int) := by omega
  have s2 : (iB D1).size ≤ 300 := by
    rw [← bytes_len, iB_nonneg hD1p]
    exact fits_len.1 fD1
  have s2i : ((300 : Int) < ((iB D1).size : Int)) = False := eq_false (by omega)
  have s2n : (300 < (iB D1).size) = False := eq_false (by omega)
  have hM : (((((iB N1)[0]'hn3).toNat : Nat) : Int) == 45) = false ∧ ((300 : Int) < ((iB N1).size : Int)) = False ∨ (((((iB N1)[0]'hn3).toNat : Nat) : Int) == 45) = true ∧ ∃ M : ByteArray, (iB N1).extract 1 (iB N1).size = M ∧ ((300 : Int) < (M.size : Int)) = False := by
    by_cases h : N1 < 0
    · refine .inr ⟨by rw [ehn3, decide_eq_true h], _, iB_neg_drop h, eq_false ?_⟩
      have := fits_len.1 fN1
      have e : (iB (-N1)).size = (Lib.decDigits N1.natAbs).length := by rw [← bytes_len, iB_nonneg (by omega), Int.natAbs_neg]
      omega
    · refine .inl ⟨by rw [ehn3, decide_eq_false h], eq_false ?_⟩
      have := fits_len.1 fN1
      have e : (iB N1).size = (Lib.decDigits N1.natAbs).length := by rw [← bytes_len, iB_nonneg (by omega)]
      omega
  have hE : ((iB D1).toList == [49]) = true ∧ iB N1 = T (Rat.divInt n' d') ∨ ((iB D1).toList == [49]) = false ∧ iB N1 ++ ⟨#[47]⟩ ++ iB D1 = T (Rat.divInt n' d') := by
    rw [iB_one_test]
    by_cases h : D1 = 1
    · exact .inl ⟨decide_eq_true h, mt.1 h⟩
    · exact .inr ⟨decide_eq_false h, mt.2 h⟩
  have c1 : (9223372036854775807 < (iB N1).size + 1) = False := eq_false (by omega)
  have c2 : (9223372036854775807 < (iB N1).size + 1 + (iB D1).size) = False := eq_false (by omega)
  have HM := hide hM
  have HE := hide hE
  have hsg : (((((iB n')[0]'hn2).toNat : Nat) : Int) == 45) = true ∧ n' < 0 ∧ (iB n').extract 1 (iB n').size = iB (-n') ∨ (((((iB n')[0]'hn2).toNat : Nat) : Int) == 45) = false ∧ 0 ≤ n' := by
    by_cases h : n' < 0
    · exact .inl ⟨by rw [ehn2, decide_eq_true h], h, iB_neg_drop h⟩
    · exact .inr ⟨by rw [ehn2, decide_eq_false h], by omega⟩
  obtain ⟨X, hX⟩ : ∃ X, X = T (Rat.divInt n' d') := ⟨_, rfl⟩
  rw [← hX] at HQ HE ⊢
  obtain ⟨GB, hGB⟩ : ∃ X, X = iB ((g : Nat) : Int) := ⟨_, rfl⟩
  rw [← hGB] at HG HV1 HV2
  obtain ⟨NB, hNB⟩ : ∃ X, X = iB N1 := ⟨_, rfl⟩
  obtain ⟨DB, hDB⟩ : ∃ X, X = iB D1 := ⟨_, rfl⟩
  clear hM hE mt fN1 fD1 ehn3 ehn2 hN1 hD1 hR1 hR2 hD1p hg hgp hgd fg hX hGB hT s2 fn' fd' hs1 hs2
  subst hNB
  subst hDB
  generalize iB n = NN at hn0 hpn hpn1 hcat hszN hcases ⊢
  generalize iB d = DD at hd0 hpd hpd1 hszD hcases ⊢
  generalize iB (-n') = N3 at hsg HQ
  generalize iB n' = N2 at hn2 hq1 hq0 hcases hsg hway HQ HG HV1
  generalize iB d' = D2 at hcases hway HQ HG HV2
  rcases hcases with ⟨z1, rfl, rfl⟩ | ⟨z1, e2, ⟨z2, e1⟩ | ⟨z2, ⟨z3, rfl⟩ | ⟨z3, e1⟩⟩⟩
  case inl =>
    rcases hway with ⟨a1, a2⟩ | ⟨a1, a2⟩ | a1
    · obtain ⟨u, v, hu, hv, hp, hm, HS2, HS1, HS3, HQQ⟩ := HQ.out a1 a2
      have HU2 := hide HS2
      rcases hsg with ⟨s1, hneg, e3⟩ | ⟨s1, hnn⟩
      · have hn' := hm hneg
        have HU1 := hide (HS3 hneg)
        have HU3 := hide HQQ
        rw [hn'] at HU3
        clear HQ HG HV1 HV2 HM HE hv hp hm HS2 HS1 HS3 HQQ hn' hneg c1 c2 s2i s2n s1p s1q
        go_enter Tryz.func249, Tryz.ntmps249
        go_wp2_with fail
        refine (HU1.out _).mono ?_
        rintro e w1 ⟨rfl, hb1⟩
        have HB1 := hide hb1
        clear hb1
        go_wp2_with fail
        refine (HU2.out _).mono ?_
        rintro e w2 ⟨rfl, hb2⟩
        have HB2 := hide (HB1.out.trans (hb2.mono HB1.out.size))
        clear hb2
        go_wp2_with fail
        refine (HU3.out _).mono ?_
        rintro e w3 ⟨rfl, hb3⟩
        have HB3 := hide (HB2.out.trans (hb3.mono HB2.out.size))
        clear hb3
        go_wp2_with fail
        refine bodyPost_ret (results_tmp2 rfl _ _ _) rfl ?_
        exact ⟨rfl, HB3.out⟩
      · have hn' := hp hnn
        have HU1 := hide (HS1 hnn)
        have HU3 := hide HQQ
        rw [hn'] at HU3
        clear HQ HG HV1 HV2 HM HE hv hp hm HS2 HS1 HS3 HQQ hn' hnn c1 c2 s2i s2n s1p s1q
        go_enter Tryz.func249, Tryz.ntmps249
        go_wp2_with fail
        refine (HU1.out _).mono ?_
        rintro e w1 ⟨rfl, hb1⟩
        have HB1 := hide hb1
        clear hb1
        go_wp2_with fail
        refine (HU2.out _).mono ?_
        rintro e w2 ⟨rfl, hb2⟩
        have HB2 := hide (HB1.out.trans (hb2.mono HB1.out.size))
        clear hb2
        go_wp2_with fail
        refine (HU3.out _).mono ?_
        rintro e w3 ⟨rfl, hb3⟩
        have HB3 := hide (HB2.out.trans (hb3.mono HB2.out.size))
        clear hb3
        go_wp2_with fail
        refine bodyPost_ret (results_tmp2 rfl _ _ _) rfl ?_
        exact ⟨rfl, HB3.out⟩
    all_goals
      clear HQ hsg
      rcases HE.out with ⟨t1, e9⟩ | ⟨t1, e9⟩ <;> rcases HM.out with ⟨m1, m2⟩ | ⟨m1, M, m3, m2⟩
      all_goals
        have E9 := hide e9
        clear e9 HE HM
        go_enter Tryz.func249, Tryz.ntmps249
        go_wp2_with fail
        refine (HG.out _ hB HT.out).mono ?_
        rintro e w1 ⟨rfl, hb1⟩
        have HB1 := hide hb1
        clear hb1
        go_wp2_with fail
        refine (HV1.out _ (Nat.le_trans hB HB1.out.size) (HT.out.on HB1.out hB)).mono ?_
        rintro e w2 ⟨rfl, hb2⟩
        have HB2 := hide (HB1.out.trans (hb2.mono HB1.out.size))
        clear hb2
        go_wp2_with fail
        refine (HV2.out _ (Nat.le_trans hB HB2.out.size) (HT.out.on HB2.out hB)).mono ?_
        rintro e w3 ⟨rfl, hb3⟩
        have HB3 := hide (HB2.out.trans (hb3.mono HB2.out.size))
        clear hb3
        go_wp2_with fail
        refine bodyPost_ret (results_tmp2 rfl _ _ _) rfl ?_
        exact ⟨by rw [← E9.out]; first | rfl | (simp; done), HB3.out⟩
  case inr.inl =>
    rcases hway with ⟨a1, a2⟩ | ⟨a1, a2⟩ | a1
    · obtain ⟨u, v, hu, hv, hp, hm, HS2, HS1, HS3, HQQ⟩ := HQ.out a1 a2
      have HU2 := hide HS2
      rcases hsg with ⟨s1, hneg, e3⟩ | ⟨s1, hnn⟩
      · have hn' := hm hneg
        have HU1 := hide (HS3 hneg)
        have HU3 := hide HQQ
        rw [hn'] at HU3
        clear HQ HG HV1 HV2 HM HE hv hp hm HS2 HS1 HS3 HQQ hn' hneg c1 c2 s2i s2n s1p s1q
        go_enter Tryz.func249, Tryz.ntmps249
        go_wp2_with fail
        refine (HU1.out _).mono ?_
        rintro e w1 ⟨rfl, hb1⟩
        have HB1 := hide hb1
        clear hb1
        go_wp2_with fail
        refine (HU2.out _).mono ?_
        rintro e w2 ⟨rfl, hb2⟩
        have HB2 := hide (HB1.out.trans (hb2.mono HB1.out.size))
        clear hb2
        go_wp2_with fail
        refine (HU3.out _).mono ?_
        rintro e w3 ⟨rfl, hb3⟩
        have HB3 := hide (HB2.out.trans (hb3.mono HB2.out.size))
        clear hb3
        go_wp2_with fail
        refine bodyPost_ret (results_tmp2 rfl _ _ _) rfl ?_
        exact ⟨rfl, HB3.out⟩
      · have hn' := hp hnn
        have HU1 := hide (HS1 hnn)
        have HU3 := hide HQQ
        rw [hn'] at HU3
        clear HQ HG HV1 HV2 HM HE hv hp hm HS2 HS1 HS3 HQQ hn' hnn c1 c2 s2i s2n s1p s1q
        go_enter Tryz.func249, Tryz.ntmps249
        go_wp2_with fail
        refine (HU1.out _).mono ?_
        rintro e w1 ⟨rfl, hb1⟩
        have HB1 := hide hb1
        clear hb1
        go_wp2_with fail
        refine (HU2.out _).mono ?_
        rintro e w2 ⟨rfl, hb2⟩
        have HB2 := hide (HB1.out.trans (hb2.mono HB1.out.size))
        clear hb2
        go_wp2_with fail
        refine (HU3.out _).mono ?_
        rintro e w3 ⟨rfl, hb3⟩
        have HB3 := hide (HB2.out.trans (hb3.mono HB2.out.size))
        clear hb3
        go_wp2_with fail
        refine bodyPost_ret (results_tmp2 rfl _ _ _) rfl ?_
        exact ⟨rfl, HB3.out⟩
    all_goals
      clear HQ hsg
      rcases HE.out with ⟨t1, e9⟩ | ⟨t1, e9⟩ <;> rcases HM.out with ⟨m1, m2⟩ | ⟨m1, M, m3, m2⟩
      all_goals
        have E9 := hide e9
        clear e9 HE HM
        go_enter Tryz.func249, Tryz.ntmps249
        go_wp2_with fail
        refine (HG.out _ hB HT.out).mono ?_
        rintro e w1 ⟨rfl, hb1⟩
        have HB1 := hide hb1
        clear hb1
        go_wp2_with fail
        refine (HV1.out _ (Nat.le_trans hB HB1.out.size) (HT.out.on HB1.out hB)).mono ?_
        rintro e w2 ⟨rfl, hb2⟩
        have HB2 := hide (HB1.out.trans (hb2.mono HB1.out.size))
        clear hb2
        go_wp2_with fail
        refine (HV2.out _ (Nat.le_trans hB HB2.out.size) (HT.out.on HB2.out hB)).mono ?_
        rintro e w3 ⟨rfl, hb3⟩
        have HB3 := hide (HB2.out.trans (hb3.mono HB2.out.size))
        clear hb3
        go_wp2_with fail
        refine bodyPost_ret (results_tmp2 rfl _ _ _) rfl ?_
        exact ⟨by rw [← E9.out]; first | rfl | (simp; done), HB3.out⟩
  case inr.inr.inl =>
    rcases hway with ⟨a1, a2⟩ | ⟨a1, a2⟩ | a1
    · obtain ⟨u, v, hu, hv, hp, hm, HS2, HS1, HS3, HQQ⟩ := HQ.out a1 a2
      have HU2 := hide HS2
      obtain ⟨s1, hnn⟩ := hsg.resolve_left (fun h => by rw [z2] at h; exact absurd h.1 (by decide))
      clear s1
      · have hn' := hp hnn
        have HU1 := hide (HS1 hnn)
        have HU3 := hide HQQ
        rw [hn'] at HU3
        clear HQ HG HV1 HV2 HM HE hv hp hm HS2 HS1 HS3 HQQ hn' hnn c1 c2 s2i s2n s1p s1q
        go_enter Tryz.func249, Tryz.ntmps249
        go_wp2_with fail
        refine (HU1.out _).mono ?_
        rintro e w1 ⟨rfl, hb1⟩
        have HB1 := hide hb1
        clear hb1
        go_wp2_with fail
        refine (HU2.out _).mono ?_
        rintro e w2 ⟨rfl, hb2⟩
        have HB2 := hide (HB1.out.trans (hb2.mono HB1.out.size))
        clear hb2
        go_wp2_with fail
        refine (HU3.out _).mono ?_
        rintro e w3 ⟨rfl, hb3⟩
        have HB3 := hide (HB2.out.trans (hb3.mono HB2.out.size))
        clear hb3
        go_wp2_with fail
        refine bodyPost_ret (results_tmp2 rfl _ _ _) rfl ?_
        exact ⟨rfl, HB3.out⟩
    all_goals
      clear HQ hsg
      rcases HE.out with ⟨t1, e9⟩ | ⟨t1, e9⟩ <;> rcases HM.out with ⟨m1, m2⟩ | ⟨m1, M, m3, m2⟩
      all_goals
        have E9 := hide e9
        clear e9 HE HM
        go_enter Tryz.func249, Tryz.ntmps249
        go_wp2_with fail
        refine (HG.out _ hB HT.out).mono ?_
        rintro e w1 ⟨rfl, hb1⟩
        have HB1 := hide hb1
        clear hb1
        go_wp2_with fail
        refine (HV1.out _ (Nat.le_trans hB HB1.out.size) (HT.out.on HB1.out hB)).mono ?_
        rintro e w2 ⟨rfl, hb2⟩
        have HB2 := hide (HB1.out.trans (hb2.mono HB1.out.size))
        clear hb2
        go_wp2_with fail
        refine (HV2.out _ (Nat.le_trans hB HB2.out.size) (HT.out.on HB2.out hB)).mono ?_
        rintro e w3 ⟨rfl, hb3⟩
        have HB3 := hide (HB2.out.trans (hb3.mono HB2.out.size))
        clear hb3
        go_wp2_with fail
        refine bodyPost_ret (results_tmp2 rfl _ _ _) rfl ?_
        exact ⟨by rw [← E9.out]; first | rfl | (simp; done), HB3.out⟩
  case inr.inr.inr =>
    rcases hway with ⟨a1, a2⟩ | ⟨a1, a2⟩ | a1
    · obtain ⟨u, v, hu, hv, hp, hm, HS2, HS1, HS3, HQQ⟩ := HQ.out a1 a2
      have HU2 := hide HS2
      rcases hsg with ⟨s1, hneg, e3⟩ | ⟨s1, hnn⟩
      · have hn' := hm hneg
        have HU1 := hide (HS3 hneg)
        have HU3 := hide HQQ
        rw [hn'] at HU3
        clear HQ HG HV1 HV2 HM HE hv hp hm HS2 HS1 HS3 HQQ hn' hneg c1 c2 s2i s2n s1p s1q
        go_enter Tryz.func249, Tryz.ntmps249
        go_wp2_with fail
        refine (HU1.out _).mono ?_
        rintro e w1 ⟨rfl, hb1⟩
        have HB1 := hide hb1
        clear hb1
        go_wp2_with fail
        refine (HU2.out _).mono ?_
        rintro e w2 ⟨rfl, hb2⟩
        have HB2 := hide (HB1.out.trans (hb2.mono HB1.out.size))
        clear hb2
        go_wp2_with fail
        refine (HU3.out _).mono ?_
        rintro e w3 ⟨rfl, hb3⟩
        have HB3 := hide (HB2.out.trans (hb3.mono HB2.out.size))
        clear hb3
        go_wp2_with fail
        refine bodyPost_ret (results_tmp2 rfl _ _ _) rfl ?_
        exact ⟨rfl, HB3.out⟩
      · have hn' := hp hnn
        have HU1 := hide (HS1 hnn)
        have HU3 := hide HQQ
        rw [hn'] at HU3
        clear HQ HG HV1 HV2 HM HE hv hp hm HS2 HS1 HS3 HQQ hn' hnn c1 c2 s2i s2n s1p s1q
        go_enter Tryz.func249, Tryz.ntmps249
        go_wp2_with fail
        refine (HU1.out _).mono ?_
        rintro e w1 ⟨rfl, hb1⟩
        have HB1 := hide hb1
        clear hb1
        go_wp2_with fail
        refine (HU2.out _).mono ?_
        rintro e w2 ⟨rfl, hb2⟩
        have HB2 := hide (HB1.out.trans (hb2.mono HB1.out.size))
        clear hb2
        go_wp2_with fail
        refine (HU3.out _).mono ?_
        rintro e w3 ⟨rfl, hb3⟩
        have HB3 := hide (HB2.out.trans (hb3.mono HB2.out.size))
        clear hb3
        go_wp2_with fail
        refine bodyPost_ret (results_tmp2 rfl _ _ _) rfl ?_
        exact ⟨rfl, HB3.out⟩
    all_goals
      clear HQ hsg
      rcases HE.out with ⟨t1, e9⟩ | ⟨t1, e9⟩ <;> rcases HM.out with ⟨m1, m2⟩ | ⟨m1, M, m3, m2⟩
      all_goals
        have E9 := hide e9
        clear e9 HE HM
        go_enter Tryz.func249, Tryz.ntmps249
        go_wp2_with fail
        refine (HG.out _ hB HT.out).mono ?_
        rintro e w1 ⟨rfl, hb1⟩
        have HB1 := hide hb1
        clear hb1
        go_wp2_with fail
        refine (HV1.out _ (Nat.le_trans hB HB1.out.size) (HT.out.on HB1.out hB)).mono ?_
        rintro e w2 ⟨rfl, hb2⟩
        have HB2 := hide (HB1.out.trans (hb2.mono HB1.out.size))
        clear hb2
        go_wp2_with fail
        refine (HV2.out _ (Nat.le_trans hB HB2.out.size) (HT.out.on HB2.out hB)).mono ?_
        rintro e w3 ⟨rfl, hb3⟩
        have HB3 := hide (HB2.out.trans (hb3.mono HB2.out.size))
        clear hb3
        go_wp2_with fail
        refine bodyPost_ret (results_tmp2 rfl _ _ _) rfl ?_
        exact ⟨by rw [← E9.out]; first | rfl | (simp; done), HB3.out⟩
end Go.Proofs.YtpmnhipffkhcpaaGreatDoor
