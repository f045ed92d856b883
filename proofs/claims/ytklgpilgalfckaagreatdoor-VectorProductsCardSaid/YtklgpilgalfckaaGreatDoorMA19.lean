/-
 Texts laid together.
-/
import Derived.Test.YtklgpilgalfckaaGreatDoorMA18
import Derived.Test.YtklgpilgalfckaaGreatDoorMA5
import Derived.Test.YtklgpilgalfckaaGreatDoorMA16
import Derived.Test.YtklgpilgalfckaaGreatDoorMA17
import Derived.Test.YtklgpilgalfckaaGreatDoorMA13
import Derived.Test.YtklgpilgalfckaaGreatDoorMA14
set_option maxRecDepth 100000
set_option maxHeartbeats 8000000
namespace Go.Proofs.YtklgpilgalfckaaGreatDoor
open Go.RowKit Go.KP Go.KI Go.Shelf
attribute [local go_sem] Oper.semAt_some

theorem jK (m : Bool) (v : Value) (w : World) : (Instr.field 222 (numV m v) 1).run Tryz.prog w = .ok v w := by kernel_rfl
theorem yaS (s t : ByteArray) (B : Nat) (w : World) (c1 : chkI s.data.toList = 0) (c2 : chkI t.data.toList = 0) (hs : s.size ≤ 17) (ht : t.size ≤ 17) (hB : B ≤ w.heap.size) (hT : P10 B w) :
 Calls Tryz.prog 175 #[.string s, .string t] w (Ret w (pairV (Lib.itoa ((Nat.gcd (valI s.data.toList).natAbs (valI t.data.toList).natAbs : Nat) : Int)) 0)) := by
 have H1 := hide (qH s t (by omega) (by omega) w)
 have hb0 : bothI s.data.toList t.data.toList = 0 := by unfold bothI; rw [if_pos c1, c2]
 rw [hb0] at H1
 have HT := hide hT
 have H2 := hide (fun w => vl s t c1 c2 hs ht w)
 have v1 := yK (n := 17) c1 (by rw [yg]; exact hs) (by omega)
 have v2 := yK (n := 17) c2 (by rw [yg]; exact ht) (by omega)
 rw [pow17] at v1 v2
 obtain ⟨x, hx⟩ := xe (valI s.data.toList)
 obtain ⟨y, hy⟩ := xe (valI t.data.toList)
 rw [← hx, ← hy] at H2 ⊢
 rw [← hx] at v1
 rw [← hy] at v2
 obtain ⟨G, hG⟩ := xe (Nat.gcd x.natAbs y.natAbs)
 rw [← hG]
 have HG := hide hG
 have V1 := hide v1; have V2 := hide v2
 clear c1 c2 hs ht hT hx hy hb0 hG v1 v2
 go_enter Tryz.func175, Tryz.ntmps175
 go_wp2_with fail
 refine H1.out.mono ?_
 rintro e w1 ⟨rfl, hb1⟩
 have HB1 := hide hb1
 clear hb1 H1
 go_wp2_with fail
 refine (H2.out _).mono ?_
 rintro e w2 ⟨rfl, hb2⟩
 have HB2 := bt HB1 hb2
 clear hb2 H2 HB1
 go_wp2_with fail
 go_loopw [7, 8] (fun a b wr => ∃ p q : Int, a = .int .i64 p ∧ b = .int .i64 q ∧ p.natAbs < 100000000000000000 ∧ q.natAbs < 100000000000000000 ∧ Hid (Nat.gcd p.natAbs q.natAbs = G ∧ Below w.heap.size w wr)) (fun _ b _ => (intOf b).natAbs)
 case atStart => exact ⟨x, y, rfl, rfl, V1.out, V2.out, HG.out.symm, HB2.out⟩
 case round =>
  obtain ⟨p, q, rfl, rfl, hp, hq, hin⟩ := hrel
  have IN := hide hin.out
  clear hin
  by_cases hq0 : q = 0
  ·subst hq0
   have hqq : ((0 : Int) != 0) = false := rfl
   have hG : (p.natAbs : Nat) = G := by have := IN.out.1; simpa using this
   have GG := hide hG
   clear hq hG
   go_wp2_with fail
   have hmx : max p (-p) = (G : Int) := by have := GG.out; omega
   rw [hmx]
   have hG1 : (G : Int) ≤ 9223372036854775807 := by have := GG.out; omega
   clear hmx hqq
   refine (yl G (by omega) hG1 B _ (HT.out.on IN.out.2 hB)).mono ?_
   rintro e w3 ⟨rfl, hb3⟩
   have HB3 := hide (IN.out.2.trans (hb3.mono IN.out.2.size))
   clear hb3
   go_wp2_with fail
   refine bodyPost_ret (results_tmp2 rfl _ _ _) rfl ?_
   exact ⟨rfl, HB3.out⟩
  ·have hqq : (q != 0) = true := by simpa using hq0
   have hyq : (q == 0) = false := by simpa using hq0
   have hr := zk p hq0
   have hgc : Nat.gcd q.natAbs (p.tmod q).natAbs = G := by
    rw [Int.natAbs_tmod, ← IN.out.1, Nat.gcd_comm q.natAbs, ← Nat.gcd_rec, Nat.gcd_comm]
   have GG := hide hgc
   clear hq0 hgc
   go_wp2_with fail
   go_quiet (fail)
   clear hyq hqq
   go_wp2_with fail
   go_roundw
   case rel => exact ⟨q, p.tmod q, rfl, rfl, hq, by omega, GG.out, ⟨IN.out.2.os, IN.out.2.tape, IN.out.2.output, IN.out.2.size, IN.out.2.block⟩⟩
   case measure => simpa [intOf] using hr
theorem ycj (s t : ByteArray) (w : World) (c1 : chkI s.data.toList = 0) (c2 : chkI t.data.toList = 0) (hl : ¬ (s.size ≤ 17 ∧ t.size ≤ 17)) :
 Calls Tryz.prog 175 #[.string s, .string t] w (Ret w (pairV (Lib.itoa ((Nat.gcd (valI s.data.toList).natAbs (valI t.data.toList).natAbs : Nat) : Int)) 0)) := by
 have l1' := (yL c1).2
 have l2' := (yL c2).2
 rw [yg] at l1' l2'
 have H1 := hide (qH s t (by omega) (by omega) w)
 have hb0 : bothI s.data.toList t.data.toList = 0 := by unfold bothI; rw [if_pos c1, c2]
 rw [hb0] at H1
 have H2 := hide (fun w => wM s t c1 hl w)
 have R1 := hide (fun w => ze s c1 w)
 have R2 := hide (fun w => ze t c2 w)
 obtain ⟨G, hG⟩ := xe (Nat.gcd (valI s.data.toList).natAbs (valI t.data.toList).natAbs)
 rw [← hG]
 have HG := hide hG
 clear c1 c2 hl hb0 l1' l2' hG
 go_enter Tryz.func175, Tryz.ntmps175
 go_wp2_with fail
 refine H1.out.mono ?_
 rintro e w1 ⟨rfl, hb1⟩
 have HB1 := hide hb1
 clear hb1 H1
 go_wp2_with fail
 refine (H2.out _).mono ?_
 rintro e w2 ⟨x0, y0, rfl, hb2⟩
 have HB2 := bt HB1 hb2
 clear hb2 H2 HB1
 go_wp2_with fail
 refine (R1.out _).mono ?_
 rintro e w3 ⟨m1, a1, l1, rfl, hb3, o1, n1, q1, k1⟩
 have HB3 := bt HB2 hb3
 have O1 := hide o1; have N1 := hide n1; have Q1 := hide q1
 obtain ⟨av1, cv1, hvf, _, _⟩ := o1.form
 subst hvf
 clear hb3 HB2 R1 o1 n1 q1
 have hf1 := fun w => jK m1 (.slice av1 l1.length cv1) w
 go_wp2_with fail
 clear hf1
 refine (R2.out _).mono ?_
 rintro e w4 ⟨m2, a2, l2, rfl, hb4, o2, n2, q2, k2⟩
 have HB4 := bt HB3 hb4
 have O1' := hide (O1.out.keep hb4)
 have O2 := hide o2; have N2 := hide n2; have Q2 := hide q2
 obtain ⟨av2, cv2, hvf, _, _⟩ := o2.form
 subst hvf
 clear hb4 HB3 R2 o2 n2 q2 O1
 have hf2 := fun w => jK m2 (.slice av2 l2.length cv2) w
 have HG2 := hide (show Nat.gcd (lv 1000000 l1) (lv 1000000 l2) = G by
  rw [HG.out, ← Q1.out, ← Q2.out, jn, jn])
 go_wp2_with fail
 clear hf2
 go_loopw [10, 11] (fun p q wr => ∃ (ap : Option Addr) (cp : Nat) (aq : Option Addr) (cq : Nat) (x y : List Nat), p = .slice ap x.length cp ∧ q = .slice aq y.length cq ∧ x.length ≤ 60 ∧ y.length ≤ 60 ∧ Hid (LimbAt wr.heap.size wr (.slice ap x.length cp) x ∧ LimbAt wr.heap.size wr (.slice aq y.length cq) y ∧ Norm 1000000 x ∧ Norm 1000000 y ∧ Nat.gcd (lv 1000000 x) (lv 1000000 y) = G ∧ Below w.heap.size w wr)) (fun _ q wr => lv 1000000 (limbsAt wr q))
 case atStart => exact ⟨av1, cv1, av2, cv2, l1, l2, rfl, rfl, k1, k2, LimbAt.yx O1'.out, LimbAt.yx O2.out, N1.out, N2.out, HG2.out, HB4.out⟩
 case round =>
  clear k1 k2
  obtain ⟨ap, cp, aq, cq, x, y, rfl, rfl, hx, hy, hin⟩ := hrel
  have I1 := hide hin.out.1; have I2 := hide hin.out.2.1; have N3 := hide hin.out.2.2.1; have N4 := hide hin.out.2.2.2.1; have GG := hide hin.out.2.2.2.2.1; have HBW := hide hin.out.2.2.2.2.2
  clear hin
  by_cases hy0 : y = []
  ·subst hy0
   have hz : valS false (lv 1000000 x) = (G : Int) := by
    have := GG.out
    rw [ycI, Nat.gcd_zero_right] at this
    rw [this]
    rfl
   have HR := hide (je false (.slice ap x.length cp) x wr.heap.size wr I1.out (Nat.le_refl _) N3.out (by omega))
   rw [hz] at HR
   clear hz
   go_wp2_with fail
   refine HR.out.mono ?_
   rintro e w5 ⟨rfl, hb5⟩
   have HB5 := hide (HBW.out.trans (hb5.mono HBW.out.size))
   clear hb5 HR
   go_wp2_with fail
   refine bodyPost_ret (results_tmp2 rfl _ _ _) rfl ?_
   exact ⟨rfl, HB5.out⟩
  ·have hyl : 0 < (y.length : Int) := by
    have := List.length_pos_iff.2 hy0
    omega
   have HD := hide (jy (.slice ap x.length cp) (.slice aq y.length cq) x y wr.heap.size wr I1.out I2.out (Nat.le_refl _) N3.out.lt N4.out hy0 (by omega) (by omega))
   have hyp : 0 < lv 1000000 y := by
    rcases Nat.eq_zero_or_pos (lv 1000000 y) with h | h
    ·exact absurd ((N4.out.zero (by omega)).1 h) hy0
    ·exact h
   have HYP := hide hyp
   clear hy0 hyp
   go_wp2_with fail
   refine HD.out.mono ?_
   rintro e w5 ⟨vq, vr, q, r, rfl, hb5, oq, or_, nq, nr, eq, er, lq⟩
   obtain ⟨ar, cr, hvf, _, _⟩ := or_.form
   subst hvf
   have hrlt : lv 1000000 r < lv 1000000 y := by rw [er]; exact Nat.mod_lt _ HYP.out
   have hrl : r.length ≤ 60 := by
    have := jg (by omega) nr N4.out.lt (Nat.le_of_lt hrlt)
    omega
   have HB5 := hide (HBW.out.trans (hb5.mono HBW.out.size))
   have J2 := hide ((I2.out.below hb5 (Nat.le_refl _)).mono hb5.size)
   have HE := hide (show Nat.gcd (lv 1000000 y) (lv 1000000 r) = G by rw [er, ← GG.out, Nat.gcd_comm (lv 1000000 y), ← Nat.gcd_rec, Nat.gcd_comm])
   have OR := hide (LimbAt.yx or_); have NR := hide nr; have HLT := hide hrlt
   clear hb5 oq or_ nq nr eq er lq HD hrlt
   go_wp2_with fail
   go_roundw
   case rel => exact ⟨aq, cq, ar, cr, y, r, rfl, rfl, hy, hrl, J2.out, OR.out, N4.out, NR.out, HE.out, HB5.out⟩
   case measure =>
    rw [zM OR.out, zM I2.out]
    exact HLT.out
end Go.Proofs.YtklgpilgalfckaaGreatDoor
namespace Go.KI
open Go
theorem cut2 (l : List UInt8) : digs (numT l) = ahead 47 (digs l) ∧ (47 ∈ l ↔ 47 ∈ digs l) ∧ denT l = behind 47 (digs l) ∧ ((numT l).head? = some 45 ↔ isNeg l = true) := by
 cases l with
 |nil => exact ⟨rfl, Iff.rfl, rfl, by decide⟩
 |cons c r =>
  by_cases h : c = 45
  ·subst h
   have e1 : digs (45 :: r) = r := rfl
   have e2 : numT (45 :: r) = 45 :: numT r := rfl
   have e3 : denT (45 :: r) = denT r := rfl
   rw [e1, e2, e3]
   exact ⟨rfl, by simp, rfl, by simp [isNeg]⟩
  ·have e1 : digs (c :: r) = c :: r := by simp [digs, h]
   rw [e1]
   by_cases h47 : c = 47
   ·subst h47
    exact ⟨rfl, Iff.rfl, rfl, by simp [isNeg, numT]⟩
   ·have e2 : numT (c :: r) = c :: numT r := by
     unfold numT
     rw [List.takeWhile_cons, if_pos (by simpa using h47)]
    refine ⟨?_, Iff.rfl, rfl, ?_⟩
    ·rw [e2]
     show (if c = 45 then _ else _) = _
     rw [if_neg h, ← e2]
     rfl
    ·rw [e2]
     simp [isNeg]
theorem ygM (l : List UInt8) : (valI l).natAbs = dv (digs l) := by
 unfold valI
 split <;> simp
theorem yg6 (l nn dd : List UInt8) (h1 : nn = ahead 47 (digs l)) (h2 : dd = if 47 ∈ digs l then behind 47 (digs l) else []) :
 chkQ l = if ¬ numeral nn ∨ (47 ∈ digs l ∧ (¬ numeral dd ∨ dd = [48] ∨ dd = [49])) ∨ (isNeg l = true ∧ nn = [48]) then 11 else if 300 < nn.length ∨ 300 < dd.length then 4 else if 47 ∈ digs l ∧ Nat.gcd (dv nn) (dv dd) ≠ 1 then 11 else 0 := by
 obtain ⟨c1, c2, c3, c4⟩ := cut2 l
 have hcut : cutOK l ↔ ¬ (¬ numeral nn ∨ (47 ∈ digs l ∧ (¬ numeral dd ∨ dd = [48] ∨ dd = [49])) ∨ (isNeg l = true ∧ nn = [48])) := by
  unfold cutOK
  rw [yf3, c1, c2, c3, c4, ← h1]
  by_cases hs : 47 ∈ digs l
  ·rw [if_pos hs] at h2
   rw [← h2]
   constructor
   ·rintro a (b | b | b)
    ·exact a (.inl (.inl b))
    ·exact a (.inr b)
    ·exact a (.inl (.inr b))
   ·rintro a ((b | b) | b)
    ·exact a (.inl b)
    ·exact a (.inr (.inr b))
    ·exact a (.inr (.inl b))
  ·constructor
   ·rintro a (b | b | b)
    ·exact a (.inl (.inl b))
    ·exact absurd b.1 hs
    ·exact a (.inl (.inr b))
   ·rintro a ((b | b) | b)
    ·exact a (.inl b)
    ·exact a (.inr (.inr b))
    ·exact absurd b.1 hs
 by_cases hc : cutOK l
 ·rw [if_neg (hcut.1 hc), ycl hc, c1, ← h1, ygM, c1, ← h1]
  unfold denS
  by_cases hs : 47 ∈ digs l
  ·have hs2 := c2.2 hs
   rw [if_pos hs] at h2
   simp only [hs, hs2, if_true, true_and, c3, ← h2]
  ·have hs2 : ¬ 47 ∈ l := fun e => hs (c2.1 e)
   rw [if_neg hs] at h2
   simp [hs, hs2, h2]
 ·rw [if_pos (Decidable.not_not.1 fun e => hc (hcut.2 e))]
  unfold chkQ
  rw [if_pos (Decidable.not_not.1 hc)]
theorem ya2 {l : List UInt8} (h : numeral l) (hl : l.length ≤ 300) : chkI l = 0 ∧ valI l = ((dv l : Nat) : Int) := by
 have e := jD h
 obtain ⟨u, hu⟩ := xe (dv l)
 rw [← hu] at e ⊢
 rw [e] at hl ⊢
 rw [← Lib.itoa_nonneg]
 exact ⟨yM (qm.2 hl), ym _⟩
end Go.KI
namespace Go.Proofs.YtklgpilgalfckaaGreatDoor
open Go.RowKit Go.KP Go.KI Go.Shelf
attribute [local go_sem] Oper.semAt_some

theorem ygR (s t : ByteArray) (h1 : numeral s.data.toList) (h2 : numeral t.data.toList) (l1 : s.size ≤ 300) (l2 : t.size ≤ 300) (B : Nat) (w : World) (hB : B ≤ w.heap.size) (hT : P10 B w) :
 Calls Tryz.prog 175 #[.string s, .string t] w (Ret w (.tuple #[.string (strB (Lib.decDigits (Nat.gcd (dv s.data.toList) (dv t.data.toList)))), .int .i64 0])) := by
 obtain ⟨c1, v1⟩ := ya2 h1 (by rw [yg]; exact l1)
 obtain ⟨c2, v2⟩ := ya2 h2 (by rw [yg]; exact l2)
 have e : pairV (Lib.itoa ((Nat.gcd (valI s.data.toList).natAbs (valI t.data.toList).natAbs : Nat) : Int)) 0 = .tuple #[.string (strB (Lib.decDigits (Nat.gcd (dv s.data.toList) (dv t.data.toList)))), .int .i64 0] := by
  rw [v1, v2, Int.natAbs_natCast, Int.natAbs_natCast, Lib.itoa_nonneg]
 rw [← e]
 by_cases hl : s.size ≤ 17 ∧ t.size ≤ 17
 ·exact yaS s t B w c1 c2 hl.1 hl.2 hB hT
 ·exact ycj s t w c1 c2 hl
theorem xN {s : ByteArray} {l m : List UInt8} (h : s.data.toList = l) : (s.toList == m) = decide (l = m) := by
 by_cases e : l = m
 ·rw [(zz h).1 e, decide_eq_true e]
 ·rw [(zz h).2 e, decide_eq_false e]
theorem wQ (s : ByteArray) (hs : s.size ≤ 9223372036854775807) (B : Nat) (w : World) (hB : B ≤ w.heap.size) (hT : PQ B w) :
 Calls Tryz.prog 121 #[.string s] w (Ret w (.int .i64 (chkQ s.data.toList))) := by
 have HT := hide hT
 clear hT
 obtain ⟨V, hV⟩ := xe (chkQ s.data.toList)
 rw [← hV]
 have HS := hide (fun w => xb s hs w)
 obtain ⟨nn, hnn⟩ := xe (KI.ahead 47 (digs s.data.toList))
 obtain ⟨dd, hdd⟩ := xe ((if 47 ∈ digs s.data.toList then KI.behind 47 (digs s.data.toList) else []))
 rw [yg6 _ nn dd hnn hdd] at hV
 have hld : (digs s.data.toList).length ≤ s.size := by
  rw [yZ, List.length_drop, yg]
  omega
 have hln : nn.length ≤ 9223372036854775807 := by
  have : nn.length ≤ (digs s.data.toList).length := by
   rw [hnn]
   exact List.Sublist.length_le (List.takeWhile_sublist _)
  omega
 have hlm : dd.length ≤ 9223372036854775807 := by
  have : dd.length ≤ (digs s.data.toList).length := by
   rw [hdd]
   split
   ·exact List.Sublist.length_le ((List.drop_sublist _ _).trans (List.dropWhile_sublist _))
   ·exact Nat.zero_le _
  omega
 have hd0 : decide (47 ∈ digs s.data.toList) = false → dd = [] := by
  intro h
  rw [hdd, if_neg (by simpa using h)]
 obtain ⟨neg, hneg⟩ := xe (isNeg s.data.toList)
 obtain ⟨sl, hsl⟩ := xe (decide (47 ∈ digs s.data.toList))
 unfold splitR at HS
 rw [← hnn, ← hdd, ← hneg, ← hsl] at HS
 rw [← hsl] at hd0
 have hsl2 : 47 ∈ digs s.data.toList ↔ sl = true := by rw [hsl, decide_eq_true_iff]
 simp only [hsl2, ← hneg] at hV
 clear hsl hsl2 hneg hdd hnn hld hs
 obtain ⟨NN, hNN⟩ := xe (strB nn)
 obtain ⟨DD, hDD⟩ := xe (strB dd)
 have e1 : NN.data.toList = nn := by rw [hNN, yh]
 have e2 : DD.data.toList = dd := by rw [hDD, yh]
 rw [← hNN, ← hDD] at HS
 have hNs : NN.size = nn.length := by rw [← e1, yg]
 have hDs : DD.size = dd.length := by rw [← e2, yg]
 clear hNN hDD
 rw [← e1] at hV
 rw [← e2] at hV hd0
 rw [yg, yg] at hV
 have hDz : sl = false → DD.size = 0 := by
  intro h
  have := hd0 h
  rw [← yg, this]
  rfl
 have HD1 := hide (fun b hb w => kz NN (by omega) b hb w)
 have HD2 := hide (fun b hb w => kz DD (by omega) b hb w)
 have tn := xN (s := NN) (m := [48]) rfl
 have td := xN (s := DD) (m := [48]) rfl
 have tu := xN (s := DD) (m := [49]) rfl
 clear hNs hDs hln hlm e1 e2 hd0
 by_cases n1 : numeral NN.data.toList
 rotate_left
 ·rw [if_pos (.inl n1)] at hV
  subst hV
  have HE1 := hide (HD1.out false (by simpa using n1))
  clear n1 hDz tn td tu HD1 HD2
  go_enter Tryz.func121, Tryz.ntmps121
  go_wp2_with fail
  refine (HS.out _).mono ?_
  rintro e w1 ⟨rfl, hb1⟩
  have HB1 := hide hb1
  clear hb1
  go_wp2_with fail
  refine (HE1.out _).mono ?_
  rintro e w2 ⟨rfl, hb2⟩
  have HB2 := bt HB1 hb2
  clear hb2
  go_wp2_with fail
  go_ret
  exact ⟨rfl, HB2.out⟩
 have HE1 := hide (HD1.out true (by simpa using n1))
 clear HD1
 cases sl
 ·have hz := hDz rfl
  have z1 : (300 < DD.size) = False := eq_false (by omega)
  have z1i : ((300 : Int) < (DD.size : Int)) = False := eq_false (by omega)
  by_cases hz : neg = true ∧ NN.data.toList = [48]
  ·rw [if_pos (.inr (.inr hz))] at hV
   subst hV
   obtain ⟨rfl, h48⟩ := hz
   rw [decide_eq_true h48] at tn
   clear n1 hDz td tu HD2 h48 hz
   go_enter Tryz.func121, Tryz.ntmps121
   go_wp2_with fail
   refine (HS.out _).mono ?_
   rintro e w1 ⟨rfl, hb1⟩
   have HB1 := hide hb1
   clear hb1
   go_wp2_with fail
   refine (HE1.out _).mono ?_
   rintro e w2 ⟨rfl, hb2⟩
   have HB2 := bt HB1 hb2
   clear hb2
   go_wp2_with fail
   go_ret
   exact ⟨rfl, HB2.out⟩
  rw [if_neg (by rintro (a | a | a); · exact a n1
                 ·exact Bool.noConfusion a.1
                 ·exact hz a)] at hV
  have hneg : neg = false ∨ (neg = true ∧ (NN.toList == [48]) = false) := by
   cases neg
   ·exact .inl rfl
   ·refine .inr ⟨rfl, ?_⟩
    rw [tn, decide_eq_false_iff_not]
    exact fun e => hz ⟨rfl, e⟩
  clear tn
  by_cases g1 : 300 < NN.size
  ·rw [if_pos (.inl g1)] at hV
   subst hV
   have g1i : (300 : Int) < (NN.size : Int) := by omega
   clear n1 hDz td tu HD2 hz z1 z1i
   rcases hneg with rfl | ⟨rfl, tn⟩
   all_goals
    go_enter Tryz.func121, Tryz.ntmps121
    go_wp2_with fail
    refine (HS.out _).mono ?_
    rintro e w1 ⟨rfl, hb1⟩
    have HB1 := hide hb1
    clear hb1
    go_wp2_with fail
    refine (HE1.out _).mono ?_
    rintro e w2 ⟨rfl, hb2⟩
    have HB2 := bt HB1 hb2
    clear hb2
    go_wp2_with fail
    go_ret
    exact ⟨rfl, HB2.out⟩
  ·rw [if_neg (by omega), if_neg (by rintro ⟨a, _⟩; cases a)] at hV
   subst hV
   have g1i : ((300 : Int) < (NN.size : Int)) = False := eq_false (by omega)
   have g1n : (300 < NN.size) = False := eq_false g1
   clear n1 hDz td tu HD2 hz g1
   rcases hneg with rfl | ⟨rfl, tn⟩
   all_goals
    go_enter Tryz.func121, Tryz.ntmps121
    go_wp2_with fail
    refine (HS.out _).mono ?_
    rintro e w1 ⟨rfl, hb1⟩
    have HB1 := hide hb1
    clear hb1
    go_wp2_with fail
    refine (HE1.out _).mono ?_
    rintro e w2 ⟨rfl, hb2⟩
    have HB2 := bt HB1 hb2
    clear hb2
    go_wp2_with fail
    go_ret
    exact ⟨rfl, HB2.out⟩
 clear hDz
 by_cases n2 : numeral DD.data.toList
 rotate_left
 ·rw [if_pos (.inr (.inl ⟨rfl, .inl n2⟩))] at hV
  subst hV
  have HE2 := hide (HD2.out false (by simpa using n2))
  clear n1 n2 tn td tu HD2
  go_enter Tryz.func121, Tryz.ntmps121
  go_wp2_with fail
  refine (HS.out _).mono ?_
  rintro e w1 ⟨rfl, hb1⟩
  have HB1 := hide hb1
  clear hb1
  go_wp2_with fail
  refine (HE1.out _).mono ?_
  rintro e w2 ⟨rfl, hb2⟩
  have HB2 := bt HB1 hb2
  clear hb2
  go_wp2_with fail
  refine (HE2.out _).mono ?_
  rintro e w3 ⟨rfl, hb3⟩
  have HB3 := bt HB2 hb3
  clear hb3
  go_wp2_with fail
  go_ret
  exact ⟨rfl, HB3.out⟩
 have HE2 := hide (HD2.out true (by simpa using n2))
 clear HD2
 by_cases d0 : DD.data.toList = [48]
 ·rw [if_pos (.inr (.inl ⟨rfl, .inr (.inl d0)⟩))] at hV
  subst hV
  rw [decide_eq_true d0] at td
  clear n1 n2 tn tu d0
  go_enter Tryz.func121, Tryz.ntmps121
  go_wp2_with fail
  refine (HS.out _).mono ?_
  rintro e w1 ⟨rfl, hb1⟩
  have HB1 := hide hb1
  clear hb1
  go_wp2_with fail
  refine (HE1.out _).mono ?_
  rintro e w2 ⟨rfl, hb2⟩
  have HB2 := bt HB1 hb2
  clear hb2
  go_wp2_with fail
  refine (HE2.out _).mono ?_
  rintro e w3 ⟨rfl, hb3⟩
  have HB3 := bt HB2 hb3
  clear hb3
  go_wp2_with fail
  go_ret
  exact ⟨rfl, HB3.out⟩
 rw [decide_eq_false d0] at td
 by_cases d1 : DD.data.toList = [49]
 ·rw [if_pos (.inr (.inl ⟨rfl, .inr (.inr d1)⟩))] at hV
  subst hV
  rw [decide_eq_true d1] at tu
  clear n1 n2 tn d0 d1
  go_enter Tryz.func121, Tryz.ntmps121
  go_wp2_with fail
  refine (HS.out _).mono ?_
  rintro e w1 ⟨rfl, hb1⟩
  have HB1 := hide hb1
  clear hb1
  go_wp2_with fail
  refine (HE1.out _).mono ?_
  rintro e w2 ⟨rfl, hb2⟩
  have HB2 := bt HB1 hb2
  clear hb2
  go_wp2_with fail
  refine (HE2.out _).mono ?_
  rintro e w3 ⟨rfl, hb3⟩
  have HB3 := bt HB2 hb3
  clear hb3
  go_wp2_with fail
  go_ret
  exact ⟨rfl, HB3.out⟩
 rw [decide_eq_false d1] at tu
 by_cases hz : neg = true ∧ NN.data.toList = [48]
 ·rw [if_pos (.inr (.inr hz))] at hV
  subst hV
  obtain ⟨rfl, h48⟩ := hz
  rw [decide_eq_true h48] at tn
  clear n1 n2 h48 d0 d1
  go_enter Tryz.func121, Tryz.ntmps121
  go_wp2_with fail
  refine (HS.out _).mono ?_
  rintro e w1 ⟨rfl, hb1⟩
  have HB1 := hide hb1
  clear hb1
  go_wp2_with fail
  refine (HE1.out _).mono ?_
  rintro e w2 ⟨rfl, hb2⟩
  have HB2 := bt HB1 hb2
  clear hb2
  go_wp2_with fail
  refine (HE2.out _).mono ?_
  rintro e w3 ⟨rfl, hb3⟩
  have HB3 := bt HB2 hb3
  clear hb3
  go_wp2_with fail
  go_ret
  exact ⟨rfl, HB3.out⟩
 rw [if_neg (by rintro (a | a | a); · exact a n1
                ·rcases a.2 with b | b | b
                 ·exact b n2
                 ·exact d0 b
                 ·exact d1 b
                ·exact hz a)] at hV
 have hneg : neg = false ∨ (neg = true ∧ (NN.toList == [48]) = false) := by
  cases neg
  ·exact .inl rfl
  ·refine .inr ⟨rfl, ?_⟩
   rw [tn, decide_eq_false_iff_not]
   exact fun e => hz ⟨rfl, e⟩
 clear tn hz d0 d1
 by_cases g1 : 300 < NN.size
 ·rw [if_pos (.inl g1)] at hV
  subst hV
  have g1i : (300 : Int) < (NN.size : Int) := by omega
  clear n1 n2
  rcases hneg with rfl | ⟨rfl, tn⟩
  all_goals
   go_enter Tryz.func121, Tryz.ntmps121
   go_wp2_with fail
   refine (HS.out _).mono ?_
   rintro e w1 ⟨rfl, hb1⟩
   have HB1 := hide hb1
   clear hb1
   go_wp2_with fail
   refine (HE1.out _).mono ?_
   rintro e w2 ⟨rfl, hb2⟩
   have HB2 := bt HB1 hb2
   clear hb2
   go_wp2_with fail
   refine (HE2.out _).mono ?_
   rintro e w3 ⟨rfl, hb3⟩
   have HB3 := bt HB2 hb3
   clear hb3
   go_wp2_with fail
   go_ret
   exact ⟨rfl, HB3.out⟩
 have g1i : ((300 : Int) < (NN.size : Int)) = False := eq_false (by omega)
 have g1n : (300 < NN.size) = False := eq_false g1
 by_cases g2 : 300 < DD.size
 ·rw [if_pos (.inr g2)] at hV
  subst hV
  have g2i : (300 : Int) < (DD.size : Int) := by omega
  clear n1 n2 g1
  rcases hneg with rfl | ⟨rfl, tn⟩
  all_goals
   go_enter Tryz.func121, Tryz.ntmps121
   go_wp2_with fail
   refine (HS.out _).mono ?_
   rintro e w1 ⟨rfl, hb1⟩
   have HB1 := hide hb1
   clear hb1
   go_wp2_with fail
   refine (HE1.out _).mono ?_
   rintro e w2 ⟨rfl, hb2⟩
   have HB2 := bt HB1 hb2
   clear hb2
   go_wp2_with fail
   refine (HE2.out _).mono ?_
   rintro e w3 ⟨rfl, hb3⟩
   have HB3 := bt HB2 hb3
   clear hb3
   go_wp2_with fail
   go_ret
   exact ⟨rfl, HB3.out⟩
 have g2i : ((300 : Int) < (DD.size : Int)) = False := eq_false (by omega)
 have g2n : (300 < DD.size) = False := eq_false g2
 rw [if_neg (by omega)] at hV
 by_cases k9 : NN.size ≤ 9 ∧ DD.size ≤ 9
 ·obtain ⟨k1, k2⟩ := k9
  have k1i : (NN.size : Int) ≤ 9 := by omega
  have k2i : (DD.size : Int) ≤ 9 := by omega
  have a1 : ∀ c ∈ NN.data.toList, isDg c = true := List.all_eq_true.1 n1.2.1
  have a2 : ∀ c ∈ DD.data.toList, isDg c = true := List.all_eq_true.1 n2.2.1
  have HM1 := hide (fun w => zH NN a1 (by omega) w)
  have HM2 := hide (fun w => zH DD a2 (by omega) w)
  have l1 : dv NN.data.toList < 10 ^ 9 := Nat.lt_of_lt_of_le (yay _ a1) (Nat.pow_le_pow_right (by omega) (by rw [yg]; omega))
  have l2 : dv DD.data.toList < 10 ^ 9 := Nat.lt_of_lt_of_le (yay _ a2) (Nat.pow_le_pow_right (by omega) (by rw [yg]; omega))
  have HG := hide (fun w => ycN (dv NN.data.toList) (dv DD.data.toList) (by omega) (by omega) w)
  obtain ⟨x, hx⟩ := xe (dv NN.data.toList)
  obtain ⟨y, hy⟩ := xe (dv DD.data.toList)
  obtain ⟨g, hg⟩ := xe (Nat.gcd x y)
  rw [← hx] at HM1 HG hV
  rw [← hy] at HM2 HG hV
  rw [← hg] at HG
  simp only [← hg] at hV
  have hw : (g = 1 ∧ V = 0) ∨ (((g : Int) == 1) = false ∧ V = 11) := by
   by_cases h : g = 1
   ·exact .inl ⟨h, by rw [hV, if_neg]; exact fun e => e.2 h⟩
   ·refine .inr ⟨?_, by rw [hV, if_pos ⟨trivial, h⟩]⟩
    simp only [beq_eq_false_iff_ne, ne_eq]
    omega
  clear hV hg hx hy l1 l2 a1 a2 n1 n2 g1 g2 k1 k2
  rcases hw with ⟨rfl, rfl⟩ | ⟨hg1, rfl⟩ <;> rcases hneg with rfl | ⟨rfl, tn⟩
  all_goals
   go_enter Tryz.func121, Tryz.ntmps121
   go_wp2_with fail
   refine (HS.out _).mono ?_
   rintro e w1 ⟨rfl, hb1⟩
   have HB1 := hide hb1
   clear hb1
   go_wp2_with fail
   refine (HE1.out _).mono ?_
   rintro e w2 ⟨rfl, hb2⟩
   have HB2 := bt HB1 hb2
   clear hb2
   go_wp2_with fail
   refine (HE2.out _).mono ?_
   rintro e w3 ⟨rfl, hb3⟩
   have HB3 := bt HB2 hb3
   clear hb3
   go_wp2_with fail
   refine (HM1.out _).mono ?_
   rintro e w4 ⟨rfl, hb4⟩
   have HB4 := bt HB3 hb4
   clear hb4
   go_wp2_with fail
   refine (HM2.out _).mono ?_
   rintro e w5 ⟨rfl, hb5⟩
   have HB5 := bt HB4 hb5
   clear hb5
   go_wp2_with fail
   refine (HG.out _).mono ?_
   rintro e w6 ⟨rfl, hb6⟩
   have HB6 := bt HB5 hb6
   clear hb6
   go_wp2_with fail
   go_ret
   exact ⟨rfl, HB6.out⟩
 ·have HG := hide (fun w hB hT => ygR NN DD n1 n2 (by omega) (by omega) B w hB hT)
  obtain ⟨x, hx⟩ := xe (dv NN.data.toList)
  obtain ⟨y, hy⟩ := xe (dv DD.data.toList)
  obtain ⟨g, hg⟩ := xe (Nat.gcd x y)
  rw [← hx, ← hy] at HG hV
  rw [← hg] at HG
  simp only [← hg] at hV
  have hko : ((NN.size : Int) ≤ 9) = False ∨ ((NN.size : Int) ≤ 9 ∧ ((DD.size : Int) ≤ 9) = False) := by
   by_cases a : NN.size ≤ 9
   ·exact .inr ⟨by omega, eq_false (by omega)⟩
   ·exact .inl (eq_false (by omega))
  obtain ⟨G, hG⟩ := xe (strB (Lib.decDigits g))
  have hGl : G.data.toList = Lib.decDigits g := by rw [hG, yh]
  have hw : ((G.toList == [49]) = true ∧ V = 0) ∨ ((G.toList == [49]) = false ∧ V = 11) := by
   rw [xN hGl]
   by_cases h : g = 1
   ·exact .inl ⟨by rw [h, qC]; rfl, by rw [hV, if_neg]; exact fun e => e.2 h⟩
   ·refine .inr ⟨?_, by rw [hV, if_pos ⟨trivial, h⟩]⟩
    rw [decide_eq_false_iff_not]
    intro e
    rw [← qC] at e
    exact h (ybl e)
  rw [← hG] at HG
  clear hV hg hx hy hG hGl n1 n2 g1 g2 k9
  rcases hko with k1i | ⟨k1i, k2i⟩ <;> rcases hw with ⟨hg1, rfl⟩ | ⟨hg1, rfl⟩ <;> rcases hneg with rfl | ⟨rfl, tn⟩
  all_goals
   go_enter Tryz.func121, Tryz.ntmps121
   go_wp2_with fail
   refine (HS.out _).mono ?_
   rintro e w1 ⟨rfl, hb1⟩
   have HB1 := hide hb1
   clear hb1
   go_wp2_with fail
   refine (HE1.out _).mono ?_
   rintro e w2 ⟨rfl, hb2⟩
   have HB2 := bt HB1 hb2
   clear hb2
   go_wp2_with fail
   refine (HE2.out _).mono ?_
   rintro e w3 ⟨rfl, hb3⟩
   have HB3 := bt HB2 hb3
   clear hb3
   go_wp2_with fail
   refine (HG.out _ (Nat.le_trans hB HB3.out.size) (HT.out.p10.on HB3.out hB)).mono ?_
   rintro e w4 ⟨rfl, hb4⟩
   have HB4 := bt HB3 hb4
   clear hb4
   go_wp2_with fail
   go_ret
   exact ⟨rfl, HB4.out⟩
theorem zZ (s : ByteArray) (hs : s.size ≤ 1000000) (B : Nat) (w : World) (hB : B ≤ w.heap.size) (hT : PQ B w) :
 Calls Tryz.prog 121 #[.string s] w (Ret w (.int .i64 (chkQ s.data.toList))) := wQ s (by omega) B w hB hT

theorem yak (a b c : ByteArray) (ha : a.size ≤ 1000000) (hb : b.size ≤ 1000000) (hc : c.size ≤ 1000000) (B : Nat) (w : World) (hB : B ≤ w.heap.size) (hT : PQ B w) :
 Calls Tryz.prog 68 #[spotV a b c] w (Ret w (.int .i64 (chk3 a.data.toList b.data.toList c.data.toList))) := by
 have HT := hide hT
 have H1 := hide (fun w hB hT => zZ a ha B w hB hT)
 have H2 := hide (fun w hB hT => zZ b hb B w hB hT)
 have H3 := hide (fun w hB hT => zZ c hc B w hB hT)
 obtain ⟨V, hV⟩ := xe (chk3 a.data.toList b.data.toList c.data.toList)
 rw [← hV]
 unfold chk3 at hV
 obtain ⟨x, hx⟩ := xe (chkQ a.data.toList)
 obtain ⟨y, hy⟩ := xe (chkQ b.data.toList)
 obtain ⟨z, hz⟩ := xe (chkQ c.data.toList)
 rw [← hx] at H1 hV
 rw [← hy] at H2 hV
 rw [← hz] at H3 hV
 clear hx hy hz ha hb hc hT
 have X0 := hide (heap1 w (spotO a b c))
 have hcs : ((x != 0) = true ∧ V = x) ∨ (x = 0 ∧ (y != 0) = true ∧ V = y) ∨ (x = 0 ∧ y = 0 ∧ V = z) := by
  by_cases h : x = 0
  ·rw [if_neg (by simpa using h)] at hV
   by_cases h2 : y = 0
   ·rw [if_neg (by simpa using h2)] at hV
    exact .inr (.inr ⟨h, h2, hV⟩)
   ·rw [if_pos h2] at hV
    exact .inr (.inl ⟨h, by simpa using h2, hV⟩)
  ·rw [if_pos h] at hV
   exact .inl ⟨by simpa using h, hV⟩
 clear hV
 rcases hcs with ⟨hx, rfl⟩ | ⟨rfl, hy, rfl⟩ | ⟨rfl, rfl, rfl⟩
 all_goals
  go_enter Tryz.func68, Tryz.ntmps68
  go_wp2_with fail
  refine (H1.out _ (Nat.le_trans hB X0.out.2.2.size) (HT.out.on X0.out.2.2 hB)).mono ?_
  rintro e w1 ⟨rfl, hb1⟩
  have A1 := hide (yc hb1 X0.out.1 (yd X0.out.1))
  have HB1 := hide (X0.out.2.2.trans (hb1.mono X0.out.2.2.size))
  have a1 := ya A1.out 1
  have al := yd A1.out
  clear hb1
  go_wp2_with fail
  first
  |(go_ret; exact ⟨rfl, HB1.out⟩)
  |skip
 ·refine (H2.out _ (Nat.le_trans hB HB1.out.size) (HT.out.on HB1.out hB)).mono ?_
  rintro e w2 ⟨rfl, hb2⟩
  have HB2 := bt HB1 hb2
  clear hb2
  go_wp2_with fail
  go_ret
  exact ⟨rfl, HB2.out⟩
 ·refine (H2.out _ (Nat.le_trans hB HB1.out.size) (HT.out.on HB1.out hB)).mono ?_
  rintro e w2 ⟨rfl, hb2⟩
  have A2 := bh hb2 A1
  have HB2 := bt HB1 hb2
  clear hb2 a1 al
  have a2 := ya A2.out 2
  have al := yd A2.out
  go_wp2_with fail
  refine (H3.out _ (Nat.le_trans hB HB2.out.size) (HT.out.on HB2.out hB)).mono ?_
  rintro e w3 ⟨rfl, hb3⟩
  have HB3 := bt HB2 hb3
  clear hb3
  go_wp2_with fail
  go_ret
  exact ⟨rfl, HB3.out⟩
structure S3 where
 x : ByteArray
 y : ByteArray
 z : ByteArray
def optT : Option Rat → ByteArray
 |some x => T x
 |none => ⟨#[]⟩
def optE : Option Rat → Int
 |some _ => 0
 |none => 4
theorem ResO.opt {w : World} {o : Option Rat} {e : Ending} {w' : World} (hr : ResO w o e w') : Ret w (.tuple #[.string (optT o), .int .i64 (optE o)]) e w' := by
 rcases hr with ⟨v, rfl, h2⟩ | ⟨rfl, h2⟩
 ·exact h2
 ·exact h2

structure TermOk (c : Rat) (m : Nat) : Prop where
 fc : fitsQ c
 cne : c ≠ 0
 pos : 0 < m
 fm : fitsQ ((m : Nat) : Rat)
 norm : normN m = (1, m)
def termE (c : Rat) (m : Nat) : Int := if 60 < dlen c ∨ 40 < dlen ((m : Nat) : Rat) then 4 else 0
theorem yga {q : Rat} {p : Nat} (hp : 1 ≤ p) (h : dlen q ≤ p) : sz p q := by
 unfold dlen at h
 exact ⟨(yn (by omega)).1 (by omega), (yn (by omega)).1 (by omega)⟩
theorem yek {m : Nat} (h0 : 0 < m) (h : normN m = (1, m)) : nC ((m : Nat) : Rat) = 1 ∧ nL ((m : Nat) : Rat) = m := by
 obtain ⟨hN, hD⟩ := jT m
 have hne : ¬ ((m : Nat) : Rat).num = 0 := by rw [hN]; omega
 unfold nC nL
 rw [if_neg hne, if_neg hne]
 unfold normC normL
 rw [hN, hD, Int.toNat_natCast, Nat.mul_one, h]
 refine ⟨?_, rfl⟩
 show Rat.divInt 1 1 = 1
 decide +kernel
theorem yeJ {c : Rat} (hc : c ≠ 0) : ((T c).toList == [48]) = false := (zz (yI c)).2 (fun e => hc (yeR (yp (by rw [yI, e, T0]))))
theorem yim {m : Nat} (h : 0 < m) : ((m : Nat) : Rat) ≠ 0 := fun e => by
 have h2 := congrArg Rat.num e
 rw [(jT m).1] at h2
 have h3 : (m : Int) = 0 := h2
 omega
theorem yeY {c : Rat} {m : Nat} (H : TermOk c m) (B : Nat) (w : World) (hB : B ≤ w.heap.size) (hT : PR B w) :
 Calls Tryz.prog 98 #[termV (T c) (T (m : Rat))] w (Ret w (.int .i64 (termE c m))) := by
 have HT := hide hT
 have hck : ∀ {q : Rat}, fitsQ q → ∀ w, B ≤ w.heap.size → PQ B w → Calls Tryz.prog 89 #[.string (T q)] w (Ret w (.int .i64 0)) := fun {q} hq w hB hT => by
  have h := zW (T q) (yW hq).1 B w hB hT
  rw [(yW hq).2.1] at h
  exact h
 have HC1 := hide (hck H.fc)
 have HC2 := hide (hck H.fm)
 have HL1 := hide (fun w hB hT => jZ H.fc B w hB hT)
 have HL2 := hide (fun w hB hT => jZ H.fm B w hB hT)
 have hz := yeJ H.cne
 have hX0 := yeJ (yim H.pos)
 obtain ⟨hN, hD⟩ := jT m
 have HP := hide (fun w => Tryz.strings_HasPrefix (T ((m : Nat) : Rat)) ⟨#[45]⟩ w)
 have eP : Lib.hasPrefix (T ((m : Nat) : Rat)).data.toList (⟨#[45]⟩ : ByteArray).data.toList = false := by
  refine (prefix45 _).trans ?_
  rw [yI]
  simp only [beq_eq_false_iff_ne, ne_eq]
  intro e
  have := qI.1 e
  rw [hN] at this
  omega
 rw [eP] at HP
 have HK := hide (fun w => Tryz.strings_Contains_one (T ((m : Nat) : Rat)) 47 w)
 have eK : decide (0 ≤ Lib.indexByte (T ((m : Nat) : Rat)).data.toList 47) = false := by
  rw [← Lib.contains_iff_indexByte, yey, yh]
  cases hc : (Lib.decDigits m).contains 47 with
  |false => rfl
  |true =>
   have h := yE m 47 (by simpa using hc)
   exact absurd h (by decide)
 rw [eK] at HK
 have HNO := hide (fun (hl : dlen ((m : Nat) : Rat) ≤ 40) w hB hT => ycr (vi (yga (by omega) hl) (by omega)) (by rw [hN]; omega) B w hB hT)
 rw [(yek H.pos H.norm).1, (yek H.pos H.norm).2, T1] at HNO
 obtain ⟨X, hX⟩ := xe (T ((m : Nat) : Rat))
 obtain ⟨Y, hY⟩ := xe (T c)
 obtain ⟨E, hE⟩ := xe (termE c m)
 unfold termE at hE
 obtain ⟨x1, hx1⟩ := xe (dlen c)
 obtain ⟨x2, hx2⟩ := xe (dlen ((m : Nat) : Rat))
 rw [← hX] at HC2 HL2 HP HK HNO hX0 ⊢
 rw [← hY] at HC1 HL1 hz ⊢
 rw [← hx1] at HL1 hE
 rw [← hx2] at HL2 hE HNO
 rw [show termE c m = E by rw [hE, hx1, hx2]; rfl]
 have hway : ((60 : Int) < (x1 : Int) ∧ E = 4) ∨ (((60 : Int) < (x1 : Int)) = False ∧ (40 : Int) < (x2 : Int) ∧ E = 4) ∨ (((60 : Int) < (x1 : Int)) = False ∧ ((40 : Int) < (x2 : Int)) = False ∧ x2 ≤ 40 ∧ E = 0) := by
  by_cases h1 : 60 < x1
  ·exact .inl ⟨by omega, by rw [hE, if_pos (.inl h1)]⟩
  ·by_cases h2 : 40 < x2
   ·exact .inr (.inl ⟨eq_false (by omega), by omega, by rw [hE, if_pos (.inr h2)]⟩)
   ·exact .inr (.inr ⟨eq_false (by omega), eq_false (by omega), by omega, by rw [hE, if_neg (fun h => by rcases h with h | h; exact h1 h; exact h2 h)]⟩)
 have h1 : (X.toList == [49]) = true ∨ (X.toList == [49]) = false := by cases X.toList == [49] <;> simp
 have X0 := hide (heap1 w (termO Y X))
 clear hck hN hD eP eK hX hY hx1 hx2 hE hT H
 rcases hway with ⟨g1, rfl⟩ | ⟨g1, g2, rfl⟩ | ⟨g1, g2, g3, rfl⟩
 ·skip
  go_enter Tryz.func98, Tryz.ntmps98
  go_wp2_with fail
  refine (HC1.out _ (Nat.le_trans hB X0.out.2.2.size) (HT.out.on X0.out.2.2 hB).pq).mono ?_
  rintro e w1 ⟨rfl, hb1⟩
  have G0 := hide (yc hb1 (X0.out.1) (yd (X0.out.1)))
  have HB1 := hide (Below.trans (X0.out.2.2) (hb1.mono (X0.out.2.2).size))
  clear hb1
  have q0_0 := ya G0.out 0
  have q0_1 := ya G0.out 1
  have q0_l := yd G0.out
  go_wp2_with fail
  refine (HC2.out _ (Nat.le_trans hB HB1.out.size) (HT.out.on HB1.out hB).pq).mono ?_
  rintro e w2 ⟨rfl, hb2⟩
  clear q0_0 q0_1 q0_l
  have G0 := bh hb2 G0
  have HB2 := hide (Below.trans (HB1.out) (hb2.mono (HB1.out).size))
  clear hb2
  have q0_0 := ya G0.out 0
  have q0_1 := ya G0.out 1
  have q0_l := yd G0.out
  go_wp2_with fail
  refine (HL1.out _ (Nat.le_trans hB HB2.out.size) (HT.out.on HB2.out hB).pq).mono ?_
  rintro e w3 ⟨rfl, hb3⟩
  clear q0_0 q0_1 q0_l
  have G0 := bh hb3 G0
  have HB3 := hide (Below.trans (HB2.out) (hb3.mono (HB2.out).size))
  clear hb3
  have q0_0 := ya G0.out 0
  have q0_1 := ya G0.out 1
  have q0_l := yd G0.out
  go_wp2_with fail
  go_ret
  exact ⟨rfl, HB3.out⟩
 ·skip
  go_enter Tryz.func98, Tryz.ntmps98
  go_wp2_with fail
  refine (HC1.out _ (Nat.le_trans hB X0.out.2.2.size) (HT.out.on X0.out.2.2 hB).pq).mono ?_
  rintro e w1 ⟨rfl, hb1⟩
  have G0 := hide (yc hb1 (X0.out.1) (yd (X0.out.1)))
  have HB1 := hide (Below.trans (X0.out.2.2) (hb1.mono (X0.out.2.2).size))
  clear hb1
  have q0_0 := ya G0.out 0
  have q0_1 := ya G0.out 1
  have q0_l := yd G0.out
  go_wp2_with fail
  refine (HC2.out _ (Nat.le_trans hB HB1.out.size) (HT.out.on HB1.out hB).pq).mono ?_
  rintro e w2 ⟨rfl, hb2⟩
  clear q0_0 q0_1 q0_l
  have G0 := bh hb2 G0
  have HB2 := hide (Below.trans (HB1.out) (hb2.mono (HB1.out).size))
  clear hb2
  have q0_0 := ya G0.out 0
  have q0_1 := ya G0.out 1
  have q0_l := yd G0.out
  go_wp2_with fail
  refine (HL1.out _ (Nat.le_trans hB HB2.out.size) (HT.out.on HB2.out hB).pq).mono ?_
  rintro e w3 ⟨rfl, hb3⟩
  clear q0_0 q0_1 q0_l
  have G0 := bh hb3 G0
  have HB3 := hide (Below.trans (HB2.out) (hb3.mono (HB2.out).size))
  clear hb3
  have q0_0 := ya G0.out 0
  have q0_1 := ya G0.out 1
  have q0_l := yd G0.out
  go_wp2_with fail
  refine (HL2.out _ (Nat.le_trans hB HB3.out.size) (HT.out.on HB3.out hB).pq).mono ?_
  rintro e w4 ⟨rfl, hb4⟩
  clear q0_0 q0_1 q0_l
  have G0 := bh hb4 G0
  have HB4 := hide (Below.trans (HB3.out) (hb4.mono (HB3.out).size))
  clear hb4
  have q0_0 := ya G0.out 0
  have q0_1 := ya G0.out 1
  have q0_l := yd G0.out
  go_wp2_with fail
  go_ret
  exact ⟨rfl, HB4.out⟩
 ·have HNO2 := hide (HNO.out g3)
  clear g3 HNO
  rcases h1 with h1 | h1
  ·skip
   go_enter Tryz.func98, Tryz.ntmps98
   go_wp2_with fail
   refine (HC1.out _ (Nat.le_trans hB X0.out.2.2.size) (HT.out.on X0.out.2.2 hB).pq).mono ?_
   rintro e w1 ⟨rfl, hb1⟩
   have G0 := hide (yc hb1 (X0.out.1) (yd (X0.out.1)))
   have HB1 := hide (Below.trans (X0.out.2.2) (hb1.mono (X0.out.2.2).size))
   clear hb1
   have q0_0 := ya G0.out 0
   have q0_1 := ya G0.out 1
   have q0_l := yd G0.out
   go_wp2_with fail
   refine (HC2.out _ (Nat.le_trans hB HB1.out.size) (HT.out.on HB1.out hB).pq).mono ?_
   rintro e w2 ⟨rfl, hb2⟩
   clear q0_0 q0_1 q0_l
   have G0 := bh hb2 G0
   have HB2 := hide (Below.trans (HB1.out) (hb2.mono (HB1.out).size))
   clear hb2
   have q0_0 := ya G0.out 0
   have q0_1 := ya G0.out 1
   have q0_l := yd G0.out
   go_wp2_with fail
   refine (HL1.out _ (Nat.le_trans hB HB2.out.size) (HT.out.on HB2.out hB).pq).mono ?_
   rintro e w3 ⟨rfl, hb3⟩
   clear q0_0 q0_1 q0_l
   have G0 := bh hb3 G0
   have HB3 := hide (Below.trans (HB2.out) (hb3.mono (HB2.out).size))
   clear hb3
   have q0_0 := ya G0.out 0
   have q0_1 := ya G0.out 1
   have q0_l := yd G0.out
   go_wp2_with fail
   refine (HL2.out _ (Nat.le_trans hB HB3.out.size) (HT.out.on HB3.out hB).pq).mono ?_
   rintro e w4 ⟨rfl, hb4⟩
   clear q0_0 q0_1 q0_l
   have G0 := bh hb4 G0
   have HB4 := hide (Below.trans (HB3.out) (hb4.mono (HB3.out).size))
   clear hb4
   have q0_0 := ya G0.out 0
   have q0_1 := ya G0.out 1
   have q0_l := yd G0.out
   go_wp2_with fail
   go_ret
   exact ⟨rfl, HB4.out⟩
  ·skip
   go_enter Tryz.func98, Tryz.ntmps98
   go_wp2_with fail
   refine (HC1.out _ (Nat.le_trans hB X0.out.2.2.size) (HT.out.on X0.out.2.2 hB).pq).mono ?_
   rintro e w1 ⟨rfl, hb1⟩
   have G0 := hide (yc hb1 (X0.out.1) (yd (X0.out.1)))
   have HB1 := hide (Below.trans (X0.out.2.2) (hb1.mono (X0.out.2.2).size))
   clear hb1
   have q0_0 := ya G0.out 0
   have q0_1 := ya G0.out 1
   have q0_l := yd G0.out
   go_wp2_with fail
   refine (HC2.out _ (Nat.le_trans hB HB1.out.size) (HT.out.on HB1.out hB).pq).mono ?_
   rintro e w2 ⟨rfl, hb2⟩
   clear q0_0 q0_1 q0_l
   have G0 := bh hb2 G0
   have HB2 := hide (Below.trans (HB1.out) (hb2.mono (HB1.out).size))
   clear hb2
   have q0_0 := ya G0.out 0
   have q0_1 := ya G0.out 1
   have q0_l := yd G0.out
   go_wp2_with fail
   refine (HL1.out _ (Nat.le_trans hB HB2.out.size) (HT.out.on HB2.out hB).pq).mono ?_
   rintro e w3 ⟨rfl, hb3⟩
   clear q0_0 q0_1 q0_l
   have G0 := bh hb3 G0
   have HB3 := hide (Below.trans (HB2.out) (hb3.mono (HB2.out).size))
   clear hb3
   have q0_0 := ya G0.out 0
   have q0_1 := ya G0.out 1
   have q0_l := yd G0.out
   go_wp2_with fail
   refine (HL2.out _ (Nat.le_trans hB HB3.out.size) (HT.out.on HB3.out hB).pq).mono ?_
   rintro e w4 ⟨rfl, hb4⟩
   clear q0_0 q0_1 q0_l
   have G0 := bh hb4 G0
   have HB4 := hide (Below.trans (HB3.out) (hb4.mono (HB3.out).size))
   clear hb4
   have q0_0 := ya G0.out 0
   have q0_1 := ya G0.out 1
   have q0_l := yd G0.out
   go_wp2_with fail
   refine (HP.out _).mono ?_
   rintro e w0 ⟨rfl, rfl⟩
   go_wp2_with fail
   refine (HK.out _).mono ?_
   rintro e w0 ⟨rfl, rfl⟩
   go_wp2_with fail
   refine (HNO2.out _ (Nat.le_trans hB HB4.out.size) (HT.out.on HB4.out hB)).mono ?_
   rintro e w5 ⟨rfl, hb5⟩
   clear q0_0 q0_1 q0_l
   have G0 := bh hb5 G0
   have HB5 := hide (Below.trans (HB4.out) (hb5.mono (HB4.out).size))
   clear hb5
   have q0_0 := ya G0.out 0
   have q0_1 := ya G0.out 1
   have q0_l := yd G0.out
   go_wp2_with fail
   go_ret
   exact ⟨rfl, HB5.out⟩
theorem ydK {c : Rat} {m : Nat} (H : TermOk c m) (b : Nat) (B : Nat) (w : World) (hb : w.heap[b]? = some (termO (T c) (T (m : Rat)))) (hB : B ≤ w.heap.size) (hT : PR B w) :
 Calls Tryz.prog 56 #[.slice (some ⟨b, 0, none⟩) 1 1] w (Ret w (.int .i64 (termE c m))) := by
 have HT := hide hT
 have HR := hide (fun w hB hT => yeY H B w hB hT)
 obtain ⟨X, hX⟩ := xe (T ((m : Nat) : Rat))
 obtain ⟨Y, hY⟩ := xe (T c)
 have hE4 : termE c m = 4 ∨ termE c m = 0 := by unfold termE; split <;> simp
 obtain ⟨E, hE⟩ := xe (termE c m)
 rw [← hX, ← hY] at HR hb
 rw [← hE] at HR hE4 ⊢
 have G := hide hb
 have k0 := ya G.out 0
 have k1 := ya G.out 1
 have kl := yd G.out
 have X0 := hide (heap1 w (termO Y X))
 clear hX hY hE hT hb H
 rcases hE4 with rfl | rfl
 ·go_enter Tryz.func56, Tryz.ntmps56
  go_wp2_with fail
  refine wp_loop_rounds 2 ?_
  rw [rounds_succ]
  go_wp2_with fail
  refine (HR.out _ (Nat.le_trans hB X0.out.2.2.size) (HT.out.on X0.out.2.2 hB)).mono ?_
  rintro e w1 ⟨rfl, hb1⟩
  have HB1 := hide (X0.out.2.2.trans (hb1.mono X0.out.2.2.size))
  clear hb1
  go_wp2_with fail
  go_ret
  exact ⟨rfl, HB1.out⟩
 ·go_enter Tryz.func56, Tryz.ntmps56
  go_wp2_with fail
  refine wp_loop_rounds 2 ?_
  rw [rounds_succ]
  go_wp2_with fail
  refine (HR.out _ (Nat.le_trans hB X0.out.2.2.size) (HT.out.on X0.out.2.2 hB)).mono ?_
  rintro e w1 ⟨rfl, hb1⟩
  have HB1 := hide (X0.out.2.2.trans (hb1.mono X0.out.2.2.size))
  clear hb1
  go_wp2_with fail
  rw [rounds_succ]
  go_wp2_with fail
  go_ret
  exact ⟨rfl, HB1.out⟩

def intsV (l : List UInt8) : Value :=
 if 9 < (KI.ahead 47 (digs l)).length ∨ 9 < (if 47 ∈ digs l then KI.behind 47 (digs l) else []).length then .tuple #[.int .i64 0, .int .i64 0, .bool false]
 else .tuple #[.int .i64 (if isNeg l then -(dv (KI.ahead 47 (digs l)) : Int) else (dv (KI.ahead 47 (digs l)) : Int)), .int .i64 (if 47 ∈ digs l then (dv (KI.behind 47 (digs l)) : Int) else 1), .bool true]

theorem ret3v {f : Func} {R : Ending → World → Prop} {a : Act} {W : World} {t0 t1 t2 : Tmp} {v0 v1 v2 : Value} (hf : f.results = #[.tmp t0, .tmp t1, .tmp t2]) (h0 : a.tmps[t0]? = some v0) (h1 : a.tmps[t1]? = some v1) (h2 : a.tmps[t2]? = some v2) (hd : a.defers = []) (hR : R (.returned (.tuple #[v0, v1, v2])) W) :
 bodyPost Tryz.prog f R .ret a W := by
 refine bodyPost_ret ?_ hd hR
 simp [results, hf, go_sem, h0, h1, h2]

theorem yeU (s : ByteArray) (hs : s.size ≤ 1000000) (hn : ∀ c ∈ KI.ahead 47 (digs s.data.toList), isDg c = true) (hd : 47 ∈ digs s.data.toList → ∀ c ∈ KI.behind 47 (digs s.data.toList), isDg c = true) (w : World) :
 Calls Tryz.prog 82 #[.string s] w (Ret w (intsV s.data.toList)) := by
 obtain ⟨V, hV⟩ := xe (intsV s.data.toList)
 rw [← hV]
 have HS := hide (fun w => xb s (by omega) w)
 obtain ⟨nn, hnn⟩ := xe (KI.ahead 47 (digs s.data.toList))
 obtain ⟨dd, hdd⟩ := xe ((if 47 ∈ digs s.data.toList then KI.behind 47 (digs s.data.toList) else []))
 obtain ⟨neg, hneg⟩ := xe (isNeg s.data.toList)
 obtain ⟨sl, hsl⟩ := xe (decide (47 ∈ digs s.data.toList))
 have hd2 : ∀ c ∈ dd, isDg c = true := by
  rw [hdd]
  intro c hc
  split at hc
  ·next h => exact hd h c hc
  ·cases hc
 have hV2 : V = if 9 < nn.length ∨ 9 < dd.length then .tuple #[.int .i64 0, .int .i64 0, .bool false]
  else .tuple #[.int .i64 (if neg then -(dv nn : Int) else (dv nn : Int)), .int .i64 (if sl then (dv dd : Int) else 1), .bool true] := by
  rw [hV, intsV, ← hnn, ← hdd, ← hneg]
  split
  ·rfl
  ·by_cases h : 47 ∈ digs s.data.toList
   ·rw [hsl, hdd]
    simp [h]
   ·rw [hsl, hdd]
    simp [h]
 unfold splitR at HS
 rw [← hnn, ← hdd, ← hneg, ← hsl] at HS
 rw [← hnn] at hn
 clear hsl hneg hdd hnn hd hV hs
 obtain ⟨NN, hNN⟩ := xe (strB nn)
 obtain ⟨DD, hDD⟩ := xe (strB dd)
 have hNs : NN.size = nn.length := by rw [hNN, yu]
 have hDs : DD.size = dd.length := by rw [hDD, yu]
 have HM := hide (fun (h : NN.size ≤ 18) (w : World) => zH NN (by rw [hNN, yh]; exact hn) h w)
 have HM2 := hide (fun (h : DD.size ≤ 18) (w : World) => zH DD (by rw [hDD, yh]; exact hd2) h w)
 have e1 : NN.data.toList = nn := by rw [hNN, yh]
 have e2 : DD.data.toList = dd := by rw [hDD, yh]
 rw [e1] at HM
 rw [e2] at HM2
 rw [← hNN, ← hDD] at HS
 rw [← hNs, ← hDs] at hV2
 have hm1 : NN.size ≤ 9 → dv nn < 10 ^ 9 := by
  intro h
  exact Nat.lt_of_lt_of_le (yay _ hn) (Nat.pow_le_pow_right (by omega) (by omega))
 have hm2 : DD.size ≤ 9 → dv dd < 10 ^ 9 := by
  intro h
  exact Nat.lt_of_lt_of_le (yay _ hd2) (Nat.pow_le_pow_right (by omega) (by omega))
 clear hNN hDD hNs hDs e1 e2 hn hd2
 obtain ⟨x, hx⟩ := xe (dv nn)
 obtain ⟨y, hy⟩ := xe (dv dd)
 rw [← hx] at hm1 hV2 HM
 rw [← hy] at hm2 hV2 HM2
 clear hx hy
 by_cases g1 : 9 < NN.size
 ·rw [if_pos (.inl g1)] at hV2
  have HV := hide hV2
  have g1i : (9 : Int) < (NN.size : Int) := by omega
  clear hV2 hm1 hm2 HM HM2 g1
  go_enter Tryz.func82, Tryz.ntmps82
  go_wp2_with fail
  refine (HS.out _).mono ?_
  rintro e w1 ⟨rfl, hb1⟩
  have HB1 := hide hb1
  clear hb1
  go_wp2_with fail
  refine ret3v rfl rfl rfl rfl rfl ?_
  exact ⟨by rw [HV.out]; rfl, HB1.out⟩
 have g1i : (NN.size : Int) ≤ 9 := by omega
 by_cases g2 : 9 < DD.size
 ·rw [if_pos (.inr g2)] at hV2
  have HV := hide hV2
  have g2i : (9 : Int) < (DD.size : Int) := by omega
  clear hV2 hm1 hm2 HM HM2 g1 g2
  go_enter Tryz.func82, Tryz.ntmps82
  go_wp2_with fail
  refine (HS.out _).mono ?_
  rintro e w1 ⟨rfl, hb1⟩
  have HB1 := hide hb1
  clear hb1
  go_wp2_with fail
  refine ret3v rfl rfl rfl rfl rfl ?_
  exact ⟨by rw [HV.out]; rfl, HB1.out⟩
 have g2i : (DD.size : Int) ≤ 9 := by omega
 rw [if_neg (by omega)] at hV2
 have HM3 := hide (HM.out (by omega))
 have HM4 := hide (HM2.out (by omega))
 have hx1 : (x : Int) < 1000000000 := by have := hm1 (by omega); omega
 have hy1 : (y : Int) < 1000000000 := by have := hm2 (by omega); omega
 have hx0 : (0 : Int) ≤ (x : Int) := by omega
 have HV := hide hV2
 clear hV2 hm1 hm2 HM HM2
 have f1 : ((9 : Int) < (NN.size : Int)) = False := eq_false (by omega)
 have f2 : ((9 : Int) < (DD.size : Int)) = False := eq_false (by omega)
 have f3 : (9 < NN.size) = False := eq_false g1
 have f4 : (9 < DD.size) = False := eq_false g2
 clear g1 g2 g1i g2i
 cases sl <;> cases neg
 ·go_enter Tryz.func82, Tryz.ntmps82
  go_wp2_with fail
  refine (HS.out _).mono ?_
  rintro e w1 ⟨rfl, hb1⟩
  have HB1 := hide hb1
  clear hb1
  go_wp2_with fail
  refine (HM3.out _).mono ?_
  rintro e w2 ⟨rfl, hb2⟩
  have HB2 := bt HB1 hb2
  clear hb2
  go_wp2_with fail
  refine ret3v rfl rfl rfl rfl rfl ?_
  exact ⟨by rw [HV.out]; rfl, HB2.out⟩
 ·go_enter Tryz.func82, Tryz.ntmps82
  go_wp2_with fail
  refine (HS.out _).mono ?_
  rintro e w1 ⟨rfl, hb1⟩
  have HB1 := hide hb1
  clear hb1
  go_wp2_with fail
  refine (HM3.out _).mono ?_
  rintro e w2 ⟨rfl, hb2⟩
  have HB2 := bt HB1 hb2
  clear hb2
  go_wp2_with fail
  refine ret3v rfl rfl rfl rfl rfl ?_
  exact ⟨by rw [HV.out]; rfl, HB2.out⟩
 all_goals
  go_enter Tryz.func82, Tryz.ntmps82
  go_wp2_with fail
  refine (HS.out _).mono ?_
  rintro e w1 ⟨rfl, hb1⟩
  have HB1 := hide hb1
  clear hb1
  go_wp2_with fail
  refine (HM3.out _).mono ?_
  rintro e w2 ⟨rfl, hb2⟩
  have HB2 := bt HB1 hb2
  clear hb2
  go_wp2_with fail
  refine (HM4.out _).mono ?_
  rintro e w3 ⟨rfl, hb3⟩
  have HB3 := bt HB2 hb3
  clear hb3
  go_wp2_with fail
  refine ret3v rfl rfl rfl rfl rfl ?_
  exact ⟨by rw [HV.out]; rfl, HB3.out⟩

theorem yf8 (x y : Int) : (x < y ∧ Lib.compareInt x y = -1) ∨ (y < x ∧ Lib.compareInt x y = 1) ∨ (x = y ∧ Lib.compareInt x y = 0) := by
 have h1 := ygc x y
 have h2 := yhm (x := x) (y := y)
 unfold Lib.compareInt at *
 rcases Int.lt_trichotomy x y with h | h | h
 ·exact .inl ⟨h, by simp [h]⟩
 ·exact .inr (.inr ⟨h, by simp [h]⟩)
 ·exact .inr (.inl ⟨h, by simp [h, show ¬ x < y by omega]⟩)
theorem ycm (s t : ByteArray) (w : World) (hs : s.size ≤ 1000000) (ht : t.size ≤ 1000000) :
 Calls Tryz.prog 212 #[.string s, .string t] w (Ret w (.tuple #[.int .i64 (cmpV s.data.toList t.data.toList), .int .i64 (bothI s.data.toList t.data.toList)])) := by
 have H1 := hide (qH s t hs ht w)
 by_cases hE : bothI s.data.toList t.data.toList = 0
 ·have e1 : cmpV s.data.toList t.data.toList = Lib.compareInt (valI s.data.toList) (valI t.data.toList) := if_pos hE
  obtain ⟨c1, c2, _, _⟩ := zE (f := (· + ·)) hE
  rw [e1, hE]
  rw [hE] at H1
  clear e1 hE hs ht
  obtain ⟨V, hV⟩ := xe (Lib.compareInt (valI s.data.toList) (valI t.data.toList))
  rw [← hV]
  have hcmp := yf8 (valI s.data.toList) (valI t.data.toList)
  rw [← hV] at hcmp
  by_cases hsm : s.size ≤ 17 ∧ t.size ≤ 17
  ·have H2 := hide (fun w => vl s t c1 c2 hsm.1 hsm.2 w)
   obtain ⟨x, hx⟩ := xe (valI s.data.toList)
   obtain ⟨y, hy⟩ := xe (valI t.data.toList)
   rw [← hx, ← hy] at H2 hcmp
   clear c1 c2 hsm hx hy hV
   rcases hcmp with ⟨h, rfl⟩ | ⟨h, rfl⟩ | ⟨h, rfl⟩
   case' inl => have t1 : x < y := h
   case' inr.inl =>
    have t1 : (x < y) = False := eq_false (by omega)
    have t2 : y < x := h
   case' inr.inr =>
    have t1 : (x < y) = False := eq_false (by omega)
    have t2 : (y < x) = False := eq_false (by omega)
   all_goals
    clear h
    go_enter Tryz.func212, Tryz.ntmps212
    go_wp2_with fail
    refine H1.out.mono ?_
    rintro e w1 ⟨rfl, hb1⟩
    have HB1 := hide hb1
    clear hb1 H1
    go_wp2_with fail
    refine (H2.out _).mono ?_
    rintro e w2 ⟨rfl, hb2⟩
    have HB2 := bt HB1 hb2
    clear hb2 H2 HB1
    go_wp2_with fail
    refine bodyPost_ret (results_tmp2 rfl _ _ _) rfl ?_
    exact ⟨rfl, HB2.out⟩
  ·have H2 := hide (fun w => wM s t c1 hsm w)
   have R1 := hide (fun w => ze s c1 w)
   have R2 := hide (fun w => ze t c2 w)
   clear c1 c2 hsm hV
   have HCMP := hide hcmp
   clear hcmp
   go_enter Tryz.func212, Tryz.ntmps212
   go_wp2_with fail
   refine H1.out.mono ?_
   rintro e w1 ⟨rfl, hb1⟩
   have HB1 := hide hb1
   clear hb1 H1
   go_wp2_with fail
   refine (H2.out _).mono ?_
   rintro e w2 ⟨x0, y0, rfl, hb2⟩
   have HB2 := bt HB1 hb2
   clear hb2 H2 HB1
   go_wp2_with fail
   refine (R1.out _).mono ?_
   rintro e w3 ⟨m1, v1, l1, rfl, hb3, o1, n1, q1, k1⟩
   obtain ⟨a1, g1, hvf, _, _⟩ := o1.form
   subst hvf
   have HB3 := bt HB2 hb3
   have O1 := hide o1; have N1 := hide n1; have Q1 := hide q1
   clear hb3 HB2 R1 o1 n1 q1
   go_wp2_with fail
   refine (R2.out _).mono ?_
   rintro e w4 ⟨m2, v2, l2, rfl, hb4, o2, n2, q2, k2⟩
   obtain ⟨a2, g2, hvf, _, _⟩ := o2.form
   subst hvf
   have HB4 := bt HB3 hb4
   have O1' := hide (O1.out.keep hb4)
   have O2 := hide o2; have N2 := hide n2; have Q2 := hide q2
   clear hb4 HB3 R2 o2 n2 q2 O1
   go_wp2_with fail
   refine (ybc m2 a2 g2 l2 w4).mono ?_
   rintro e w41 ⟨m21, rfl, hb41, q21⟩
   have HB41 := bt HB4 hb41
   have O11 := hide (O1'.out.keep hb41)
   have O21 := hide (O2.out.keep hb41)
   have Q21 := hide q21
   clear hb41 q21 O1' O2 HB4
   go_wp2_with fail
   refine (kQ m1 m21 a1 a2 g1 g2 l1 l2 w41 (.yx O11.out) (.yx O21.out) N1.out N2.out (by omega) (by omega)).mono ?_
   rintro e w5 ⟨m3, v3, l3, rfl, hb5, o3, n3, q3, k3⟩
   obtain ⟨a3, g3, hvf, _, _⟩ := o3.form
   subst hvf
   have HB5 := bt HB41 hb5
   have hq3 : valS m3 (lv 1000000 l3) = valI s.data.toList - valI t.data.toList := by
    rw [q3, Q1.out, Q21.out, Q2.out]
    omega
   have hcmp := HCMP.out
   have hpos : l3 ≠ [] → 1 ≤ lv 1000000 l3 := fun h => by
    rcases Nat.eq_zero_or_pos (lv 1000000 l3) with h1 | h1
    ·exact absurd ((n3.zero (by omega)).1 h1) h
    ·exact h1
   have hres : (l3 = [] ∧ V = 0) ∨ (l3 ≠ [] ∧ m3 = true ∧ V = -1) ∨ (l3 ≠ [] ∧ m3 = false ∧ V = 1) := by
    by_cases h : l3 = []
    ·refine .inl ⟨h, ?_⟩
     have h0 : valS m3 (lv 1000000 l3) = 0 := by rw [h]; cases m3 <;> rfl
     omega
    ·have h1 := hpos h
     cases m3
     ·exact .inr (.inr ⟨h, rfl, by simp [valS] at hq3; omega⟩)
     ·exact .inr (.inl ⟨h, rfl, by simp [valS] at hq3; omega⟩)
   have F0 := hide (heap1 w5 (bigO m3 (.slice a3 l3.length g3)))
   clear hb5 q3 hq3 hpos HCMP hcmp HB41 O11 O21 N1 N2 Q1 Q2 Q21 o3 n3
   rcases hres with ⟨h, rfl⟩ | ⟨h, rfl, rfl⟩ | ⟨h, rfl, rfl⟩
   case' inl => have hl0 : ((l3.length : Int) == 0) = true := by rw [h]; rfl
   case' inr.inl =>
    have hl0 : ((l3.length : Int) == 0) = false := by
     have : l3.length ≠ 0 := fun h2 => h (List.eq_nil_of_length_eq_zero h2)
     simp only [beq_eq_false_iff_ne, ne_eq]
     omega
   case' inr.inr =>
    have hl0 : ((l3.length : Int) == 0) = false := by
     have : l3.length ≠ 0 := fun h2 => h (List.eq_nil_of_length_eq_zero h2)
     simp only [beq_eq_false_iff_ne, ne_eq]
     omega
   all_goals
    clear h
    obtain ⟨b0, bs0, bb0⟩ := F0.out
    have z0 := ya b0 0
    have z1 := ya b0 1
    have f0 := yf b0 0
    have f1 := yf b0 1
    have HB6 := hide (HB5.out.trans (bb0.mono HB5.out.size))
    clear b0 bs0 bb0
    go_wp2_with fail
    refine bodyPost_ret (results_tmp2 rfl _ _ _) rfl ?_
    exact ⟨rfl, HB6.out⟩
 ·have e1 : cmpV s.data.toList t.data.toList = 0 := if_neg hE
  rw [e1]
  have hne : (bothI s.data.toList t.data.toList != 0) = true := by simpa using hE
  obtain ⟨E, hEE⟩ := xe (bothI s.data.toList t.data.toList)
  rw [← hEE] at H1 hne ⊢
  clear e1 hE hEE
  go_enter Tryz.func212, Tryz.ntmps212
  go_wp2_with fail
  refine H1.out.mono ?_
  rintro e w1 ⟨rfl, hb1⟩
  have HB1 := hide hb1
  clear hb1 H1
  go_wp2_with fail
  refine bodyPost_ret (results_tmp2 rfl _ _ _) rfl ?_
  exact ⟨rfl, HB1.out⟩
end Go.Proofs.YtklgpilgalfckaaGreatDoor
namespace Go.KI
open Go
theorem yaL (q : Rat) : isNeg (ratS q) = decide (q.num < 0) := by
 unfold isNeg
 exact decide_eq_decide.2 qI
theorem yci (q : Rat) : ahead 47 (digs (ratS q)) = Lib.decDigits q.num.natAbs ∧ (47 ∈ digs (ratS q) ↔ q.den ≠ 1) ∧ (q.den ≠ 1 → behind 47 (digs (ratS q)) = Lib.decDigits q.den) := by
 have hn : ∀ c ∈ Lib.decDigits q.num.natAbs, c ≠ 47 := fun c hc => by have := ybb _ c hc; simpa using this
 rw [(ybU q).1]
 by_cases h : q.den = 1
 ·rw [if_pos h, List.append_nil]
  have h47 : ¬ 47 ∈ Lib.decDigits q.num.natAbs := fun e => hn 47 e rfl
  exact ⟨ybx h47, ⟨fun e => absurd e h47, fun e => absurd h e⟩, fun e => absurd h e⟩
 ·rw [if_neg h]
  obtain ⟨a, b, c⟩ := yiu (c := 47) (a := Lib.decDigits q.num.natAbs) (b := Lib.decDigits q.den) hn
  exact ⟨a, ⟨fun _ => h, fun _ => c⟩, fun _ => b⟩
theorem yhg : (Lib.decDigits 1).length = 1 := by rw [qC]; rfl
def shortQ (q : Rat) : Prop := (Lib.decDigits q.num.natAbs).length ≤ 9 ∧ (Lib.decDigits q.den).length ≤ 9
instance (q : Rat) : Decidable (shortQ q) := inferInstanceAs (Decidable (_ ∧ _))
theorem zD {q : Rat} (h : shortQ q) : q.num.natAbs < 1000000000 ∧ q.den < 1000000000 := ⟨(yn (n := 9) (by omega)).1 h.1, (yn (n := 9) (by omega)).1 h.2⟩
end Go.KI
namespace Go.Proofs.YtklgpilgalfckaaGreatDoor
open Go.RowKit Go.KP Go.KI Go.Shelf
attribute [local go_sem] Oper.semAt_some

theorem ycp {x y : Int} (f1 : fits x) (f2 : fits y) (B : Nat) (w : World) (hB : B ≤ w.heap.size) (hT : P10 B w) :
 Calls Tryz.prog 158 #[.string (iB x), .string (iB y)] w (Ret w (pairV (resS (x * y)) (resE (x * y)))) := by
 obtain ⟨_, _, b, l1, l2, v1, v2⟩ := wT f1 f2
 obtain ⟨_, _, e1, e2⟩ := zE (f := (· * ·)) b
 have := ygP _ _ B w l1 l2 hB hT
 rw [e1, e2, v1, v2] at this
 exact this
theorem yiA {x y : Int} (f1 : fits x) (f2 : fits y) (B : Nat) (w : World) (hB : B ≤ w.heap.size) (hT : P10 B w) :
 Calls Tryz.prog 141 #[.string (iB x), .string (iB y)] w (Ret w (pairV (resS (x + y)) (resE (x + y)))) := by
 obtain ⟨_, _, b, l1, l2, v1, v2⟩ := wT f1 f2
 obtain ⟨_, _, e1, e2⟩ := zE (f := (· + ·)) b
 have := ygD _ _ B w l1 l2 hB hT
 rw [e1, e2, v1, v2] at this
 exact this
theorem yiE {x y : Int} (f1 : fits x) (f2 : fits y) (B : Nat) (w : World) (hB : B ≤ w.heap.size) (hT : P10 B w) :
 Calls Tryz.prog 175 #[.string (iB x), .string (iB y)] w (Ret w (.tuple #[.string (iB (Nat.gcd x.natAbs y.natAbs : Nat)), .int .i64 0])) := by
 obtain ⟨c1, c2, _, _, _, v1, v2⟩ := wT f1 f2
 by_cases hl : (iB x).size ≤ 17 ∧ (iB y).size ≤ 17
 ·have := yaS _ _ B w c1 c2 hl.1 hl.2 hB hT
  rw [v1, v2] at this
  exact this
 ·have := ycj _ _ w c1 c2 hl
  rw [v1, v2] at this
  exact this
theorem wP {x y : Int} (f1 : fits x) (f2 : fits y) (hy : 0 < y) (B : Nat) (w : World) (hB : B ≤ w.heap.size) (hT : P10 B w) :
 Calls Tryz.prog 157 #[.string (iB x), .string (iB y)] w (Ret w (.tuple #[.string (iB (x / y)), .string (iB (x % y)), .int .i64 0])) := by
 obtain ⟨c1, c2, _, _, _, v1, v2⟩ := wT f1 f2
 have h0 : (iB y).data.toList ≠ [48] := fun e => by
  rw [yv] at e
  have := vg (e.trans yP.symm)
  omega
 have e1 : x.fdiv y = x / y := Int.fdiv_eq_ediv_of_nonneg _ (by omega)
 have e2 : x.fmod y = x % y := Int.fmod_eq_emod_of_nonneg _ (by omega)
 by_cases hl : (iB x).size ≤ 17 ∧ (iB y).size ≤ 17
 ·have := ybC _ _ B w c1 c2 hl.1 hl.2 h0 hB hT
  rw [v1, v2, e1, e2] at this
  exact this
 ·have := ycv _ _ w c1 c2 hl h0
  rw [v1, v2, e1, e2] at this
  exact this
theorem yex {x y : Int} (f1 : fits x) (f2 : fits y) (w : World) :
 Calls Tryz.prog 212 #[.string (iB x), .string (iB y)] w (Ret w (.tuple #[.int .i64 (Lib.compareInt x y), .int .i64 0])) := by
 obtain ⟨_, _, b, l1, l2, v1, v2⟩ := wT f1 f2
 have := ycm _ _ w l1 l2
 rw [b] at this
 unfold cmpV at this
 rw [if_pos b, v1, v2] at this
 exact this
theorem yaI (z : Int) : (if decide (z < 0) = true then -((z.natAbs : Nat) : Int) else ((z.natAbs : Nat) : Int)) = z := by
 by_cases h : z < 0
 ·rw [decide_eq_true h, if_pos rfl]; omega
 ·rw [decide_eq_false h, if_neg (by simp)]; omega
def intsQ (q : Rat) : Value := if shortQ q then .tuple #[.int .i64 q.num, .int .i64 (q.den : Int), .bool true] else .tuple #[.int .i64 0, .int .i64 0, .bool false]
theorem xj {q : Rat} (fq : fitsQ q) (w : World) : Calls Tryz.prog 82 #[.string (T q)] w (Ret w (intsQ q)) := by
 obtain ⟨h1, h2, h3⟩ := yci q
 have h := yeU (T q) (yW fq).1 (by rw [yI, h1]; exact yE _) (by
  rw [yI]
  intro h47
  rw [h3 (h2.1 h47)]
  exact yE _) w
 have e : intsV (T q).data.toList = intsQ q := by
  unfold intsV intsQ
  rw [yI, h1, yaL]
  by_cases hd : q.den = 1
  ·have hn : ¬ 47 ∈ digs (ratS q) := fun e => h2.1 e hd
   rw [if_neg hn]
   have hs : shortQ q ↔ ¬ (9 < (Lib.decDigits q.num.natAbs).length ∨ 9 < ([] : List UInt8).length) := by
    unfold shortQ
    rw [hd, yhg, List.length_nil]
    omega
   by_cases hh : shortQ q
   ·rw [if_pos hh, if_neg (hs.1 hh), if_neg hn, hd, yD]
    rw [yaI]
    rfl
   ·rw [if_neg hh, if_pos (Decidable.not_not.1 fun e => hh (hs.2 e))]
  ·have hn : 47 ∈ digs (ratS q) := h2.2 hd
   rw [if_pos hn, h3 hd]
   have hs : shortQ q ↔ ¬ (9 < (Lib.decDigits q.num.natAbs).length ∨ 9 < (Lib.decDigits q.den).length) := by
    unfold shortQ
    omega
   by_cases hh : shortQ q
   ·rw [if_pos hh, if_neg (hs.1 hh), if_pos hn, yD, yD]
    rw [yaI]
   ·rw [if_neg hh, if_pos (Decidable.not_not.1 fun e => hh (hs.2 e))]
 rw [e] at h
 exact h
theorem zQ {q : Rat} (fq : fitsQ q) (w : World) : Calls Tryz.prog 84 #[.string (T q)] w (Ret w (.tuple #[.string (iB q.num), .string (iB (q.den : Int))])) := by
 obtain ⟨h1, h2, h3⟩ := yci q
 have h := ycZ (T q) (yW fq).1 w
 have e : partsR2 (T q).data.toList = .tuple #[.string (iB q.num), .string (iB (q.den : Int))] := by
  unfold partsR2
  rw [yI, h1, yaL]
  have e1 : (if decide (q.num < 0) = true then [45] else []) ++ Lib.decDigits q.num.natAbs = Lib.itoa q.num := by
   rcases yo q.num with ⟨a, b⟩ | ⟨a, b⟩
   ·rw [b, decide_eq_true a]; rfl
   ·rw [b, decide_eq_false (by omega)]; rfl
  have e2 : (if 47 ∈ digs (ratS q) then KI.behind 47 (digs (ratS q)) else [49]) = Lib.itoa (q.den : Int) := by
   rw [Lib.itoa_nonneg]
   by_cases hd : q.den = 1
   ·rw [if_neg (fun e => h2.1 e hd), hd, qC]
   ·rw [if_pos (h2.2 hd), h3 hd]
  rw [e1, e2]
  rfl
 rw [e] at h
 exact h
theorem yan {q : Rat} (fq : fitsQ q) (B : Nat) (w : World) (hB : B ≤ w.heap.size) (hT : PQ B w) : Calls Tryz.prog 121 #[.string (T q)] w (Ret w (.int .i64 0)) := by
 have h := zZ (T q) (yW fq).1 B w hB hT
 rw [(yW fq).2.1] at h
 exact h
end Go.Proofs.YtklgpilgalfckaaGreatDoor
