/-
 Texts laid together.
-/
import Derived.Test.YtklgpilgalfckaaGreatDoorMA4
import Derived.Test.YtklgpilgalfckaaGreatDoorMA8
import Derived.Test.YtklgpilgalfckaaGreatDoorMA5
set_option maxRecDepth 100000
set_option maxHeartbeats 16000000
namespace Go.Proofs.YtklgpilgalfckaaGreatDoor
open Go.RowKit Go.KP Go.KI Go.Shelf
attribute [local go_sem] Oper.semAt_some

theorem xE (z : Int) : pairV [] z = .tuple #[.string ⟨#[]⟩, .int .i64 z] := rfl
theorem yhx {s a t b : ByteArray} {x p y q : Int} (h : Four s a t b x p y q) (h0 : p * q ≠ 0) (B : Nat) (w : World) (hB : B ≤ w.heap.size) (hT : P10 B w) :
 Calls Tryz.prog 131 #[partsV s a, partsV t b] w (Ret w (pairV (if fits (x * y) ∧ fits (p * q) then ratS (Rat.divInt (x * y) (p * q)) else []) (if fits (x * y) ∧ fits (p * q) then 0 else 4))) := by
 have HT := hide hT
 have X0 := hide (heap2 w (partsO s a) (partsO t b))
 by_cases hf : fits (x * y)
 ·have HO := hide (fun w hB hT => kk h.h1 h.h3 h.f1 h.f3 hf B w hB hT)
  obtain ⟨N, hN⟩ := xe (strB (Lib.itoa (x * y)))
  have hNl : N.data.toList = Lib.itoa (x * y) := by rw [hN, yh]
  rw [← hN] at HO
  by_cases hd : fits (p * q)
  ·have HM := hide (fun w hB hT => kk h.h2 h.h4 h.f2 h.f4 hd B w hB hT)
   obtain ⟨D, hD⟩ := xe (strB (Lib.itoa (p * q)))
   rw [← hD] at HM
   have HN := hide (fun w hB hT => jr (t := D) hNl (by rw [hD, yh]) hf hd h0 B w hB hT)
   rw [if_pos ⟨hf, hd⟩, if_pos ⟨hf, hd⟩]
   obtain ⟨X, hX⟩ := xe (strB (ratS (Rat.divInt (x * y) (p * q))))
   rw [show pairV (ratS (Rat.divInt (x * y) (p * q))) 0 = .tuple #[.string X, .int .i64 0] by rw [hX]] at HN ⊢
   clear hN hNl hD hX hf hd h h0 hT
   go_enter Tryz.func131, Tryz.ntmps131
   go_wp2_with fail
   refine (HO.out _ (Nat.le_trans hB X0.out.2.2.2.size) (HT.out.on X0.out.2.2.2 hB)).mono ?_
   rintro e w1 ⟨rfl, hb1⟩
   have G1 := hide (yc hb1 X0.out.1 (yd X0.out.1))
   have G2 := hide (yc hb1 X0.out.2.1 (yd X0.out.2.1))
   have HB1 := hide (X0.out.2.2.2.trans (hb1.mono X0.out.2.2.2.size))
   have c1 := ya G1.out 1
   have c3 := ya G2.out 1
   clear hb1
   go_wp2_with fail
   refine (HM.out _ (Nat.le_trans hB HB1.out.size) (HT.out.on HB1.out hB)).mono ?_
   rintro e w3 ⟨rfl, hb3⟩
   have HB3 := bt HB1 hb3
   clear hb3 c1 c3
   go_wp2_with fail
   refine (HN.out _ (Nat.le_trans hB HB3.out.size) (HT.out.on HB3.out hB)).mono ?_
   rintro e w4 ⟨rfl, hb4⟩
   have HB4 := bt HB3 hb4
   clear hb4
   go_wp2_with fail
   refine bodyPost_ret (results_tmp2 rfl _ _ _) rfl ?_
   exact ⟨rfl, HB4.out⟩
  ·have HM := hide (fun w hB hT => yct h.h2 h.h4 h.f2 h.f4 hd B w hB hT)
   rw [if_neg (fun e => hd e.2), if_neg (fun e => hd e.2), xE]
   clear hN hNl hf hd h h0 hT
   go_enter Tryz.func131, Tryz.ntmps131
   go_wp2_with fail
   refine (HO.out _ (Nat.le_trans hB X0.out.2.2.2.size) (HT.out.on X0.out.2.2.2 hB)).mono ?_
   rintro e w1 ⟨rfl, hb1⟩
   have G1 := hide (yc hb1 X0.out.1 (yd X0.out.1))
   have G2 := hide (yc hb1 X0.out.2.1 (yd X0.out.2.1))
   have HB1 := hide (X0.out.2.2.2.trans (hb1.mono X0.out.2.2.2.size))
   have c1 := ya G1.out 1
   have c3 := ya G2.out 1
   clear hb1
   go_wp2_with fail
   refine (HM.out _ (Nat.le_trans hB HB1.out.size) (HT.out.on HB1.out hB)).mono ?_
   rintro e w3 ⟨rfl, hb3⟩
   have HB3 := bt HB1 hb3
   clear hb3 c1 c3
   go_wp2_with fail
   refine bodyPost_ret (results_tmp2 rfl _ _ _) rfl ?_
   exact ⟨rfl, HB3.out⟩
 ·have HO := hide (fun w hB hT => yct h.h1 h.h3 h.f1 h.f3 hf B w hB hT)
  rw [if_neg (fun e => hf e.1), if_neg (fun e => hf e.1), xE]
  clear hf h h0 hT
  go_enter Tryz.func131, Tryz.ntmps131
  go_wp2_with fail
  refine (HO.out _ (Nat.le_trans hB X0.out.2.2.2.size) (HT.out.on X0.out.2.2.2 hB)).mono ?_
  rintro e w1 ⟨rfl, hb1⟩
  have HB1 := hide (X0.out.2.2.2.trans (hb1.mono X0.out.2.2.2.size))
  clear hb1
  go_wp2_with fail
  refine bodyPost_ret (results_tmp2 rfl _ _ _) rfl ?_
  exact ⟨rfl, HB1.out⟩
theorem yfF {s a t b : ByteArray} (h : t.data.toList = [48]) (w : World) :
 Calls Tryz.prog 201 #[partsV s a, partsV t b] w (Ret w (pairV [] 12)) := by
 have X0 := hide (heap2 w (partsO s a) (partsO t b))
 have he := (zz (m := [48]) h).1 rfl
 rw [xE]
 clear h
 go_enter Tryz.func201, Tryz.ntmps201
 go_wp2_with fail
 refine bodyPost_ret (results_tmp2 rfl _ _ _) rfl ?_
 exact ⟨rfl, X0.out.2.2.2⟩
theorem yhk {s a t b : ByteArray} {x p y q : Int} (h : Four s a t b x p y q) (hy : y ≠ 0) (hp : p ≠ 0) (B : Nat) (w : World) (hB : B ≤ w.heap.size) (hT : P10 B w) :
 Calls Tryz.prog 201 #[partsV s a, partsV t b] w (Ret w (pairV (if fits (x * q) ∧ fits (y * p) then ratS (Rat.divInt (x * q) (y * p)) else []) (if fits (x * q) ∧ fits (y * p) then 0 else 4))) := by
 have HT := hide hT
 have X0 := hide (heap2 w (partsO s a) (partsO t b))
 have he := (zz (m := [48]) h.h3).2 (ydN hy)
 by_cases hc : fits (x * q) ∧ fits (y * p)
 ·have HC := hide (fun w hB hT => vU h hc.1 hc.2 B w hB hT)
  have HN := hide (fun w hB hT => jr (s := strB (Lib.itoa (x * q))) (t := strB (Lib.itoa (y * p))) (yh _) (yh _) hc.1 hc.2 (Int.mul_ne_zero hy hp) B w hB hT)
  rw [if_pos hc, if_pos hc]
  obtain ⟨X, hX⟩ := xe (strB (ratS (Rat.divInt (x * q) (y * p))))
  obtain ⟨U, hU⟩ := xe (strB (Lib.itoa (x * q)))
  obtain ⟨V, hV⟩ := xe (strB (Lib.itoa (y * p)))
  rw [← hU, ← hV] at HC
  rw [← hU, ← hV] at HN
  rw [show pairV (ratS (Rat.divInt (x * q) (y * p))) 0 = .tuple #[.string X, .int .i64 0] by rw [hX]] at HN ⊢
  clear hX hU hV hc h hy hp hT
  go_enter Tryz.func201, Tryz.ntmps201
  go_wp2_with fail
  refine (HC.out _ (Nat.le_trans hB X0.out.2.2.2.size) (HT.out.on X0.out.2.2.2 hB)).mono ?_
  rintro e w1 ⟨rfl, hb1⟩
  have HB1 := hide (X0.out.2.2.2.trans (hb1.mono X0.out.2.2.2.size))
  clear hb1
  go_wp2_with fail
  refine (HN.out _ (Nat.le_trans hB HB1.out.size) (HT.out.on HB1.out hB)).mono ?_
  rintro e w4 ⟨rfl, hb4⟩
  have HB4 := bt HB1 hb4
  clear hb4
  go_wp2_with fail
  refine bodyPost_ret (results_tmp2 rfl _ _ _) rfl ?_
  exact ⟨rfl, HB4.out⟩
 ·have HC := hide (fun w hB hT => xZ h hc B w hB hT)
  rw [if_neg hc, if_neg hc, xE]
  clear hc h hy hp hT
  go_enter Tryz.func201, Tryz.ntmps201
  go_wp2_with fail
  refine (HC.out _ (Nat.le_trans hB X0.out.2.2.2.size) (HT.out.on X0.out.2.2.2 hB)).mono ?_
  rintro e w1 ⟨u, v, rfl, hb1⟩
  have HB1 := hide (X0.out.2.2.2.trans (hb1.mono X0.out.2.2.2.size))
  clear hb1
  go_wp2_with fail
  refine bodyPost_ret (results_tmp2 rfl _ _ _) rfl ?_
  exact ⟨rfl, HB1.out⟩
abbrev boxF (g : Nat) : Obj := .cells #[.func (.func g) #[] #[]] 169
def CombRet (g : Nat) (w : World) (e : Ending) (w2 : World) : Prop := e = .returned (.func (.func 166) #[] #[.pointer (some ⟨w.heap.size, 0, none⟩)]) ∧ w2 = w.alloc (boxF g)
theorem kF (g : Nat) (w : World) :
 Calls Tryz.prog 115 #[.func (.func g) #[] #[]] w (CombRet g w) := by
 have hmf : ∀ (fn : Fn) (first cap : Array Value) (w : World), (Instr.makeFunc fn first cap).run Tryz.prog w = .ok (.func fn first cap) w := fun _ _ _ _ => rfl
 go_enter Tryz.func115, Tryz.ntmps115
 go_wp2_with fail
 go_ret
 exact ⟨rfl, rfl⟩

def qopS (C : Rat → Rat → Prop) [∀ x y, Decidable (C x y)] (f : Rat → Rat → Rat) (a b : List UInt8) : List UInt8 := if bothQ a b = 0 then (if C (valQ a) (valQ b) then ratS (f (valQ a) (valQ b)) else []) else []
def qopE (C : Rat → Rat → Prop) [∀ x y, Decidable (C x y)] (a b : List UInt8) : Int := if bothQ a b = 0 then (if C (valQ a) (valQ b) then 0 else 4) else bothQ a b
theorem vw {a b : List UInt8} (h : bothQ a b = 0) : chkQ a = 0 ∧ chkQ b = 0 := by
 unfold bothQ at h
 by_cases h1 : chkQ a = 0
 ·rw [if_pos h1] at h
  exact ⟨h1, h⟩
 ·rw [if_neg h1] at h
  exact absurd h h1
theorem yS {a b : List UInt8} (h1 : chkQ a = 0) (h2 : chkQ b = 0) : bothQ a b = 0 := by unfold bothQ; rw [if_pos h1, h2]
theorem xV {a b : List UInt8} (h1 : chkQ a = 0) (h2 : chkQ b = 0) : Four (strB (Lib.itoa (valQ a).num)) (strB (Lib.itoa ((valQ a).den : Int))) (strB (Lib.itoa (valQ b).num)) (strB (Lib.itoa ((valQ b).den : Int))) (valQ a).num ((valQ a).den : Int) (valQ b).num ((valQ b).den : Int) := by
 obtain ⟨_, f1, _, _⟩ := qj h1
 obtain ⟨_, f2, _, _⟩ := qj h2
 exact ⟨yh _, yh _, yh _, yh _, f1.1, f1.2, f2.1, f2.2⟩
theorem most8 : 8 + 8 + 1 ≤ most := by rw [yC]; omega
theorem xg (x : Rat) : (x.den : Int) ≠ 0 := yiv x
theorem jb {a b : List UInt8} (h1 : natQ a) (h2 : natQ b) : ((valQ a).num * ((valQ b).den : Int)).natAbs < 10000000000000000 ∧ ((valQ b).num * ((valQ a).den : Int)).natAbs < 10000000000000000 ∧ (((valQ a).den : Int) * ((valQ b).den : Int)).natAbs < 10000000000000000 ∧ ((valQ a).num * (valQ b).num).natAbs < 10000000000000000 ∧ (((valQ a).den : Int) * (valQ b).num).natAbs < 10000000000000000 := by
 obtain ⟨a1, a2, _⟩ := ke h1
 obtain ⟨b1, b2, _⟩ := ke h2
 have a3 : ((valQ a).den : Int).natAbs < 100000000 := by rw [Int.natAbs_natCast]; exact a2
 have b3 : ((valQ b).den : Int).natAbs < 100000000 := by rw [Int.natAbs_natCast]; exact b2
 exact ⟨(zG a1 b3).1, (zG b1 a3).1, (zG a3 b3).1, (zG a1 b1).1, (zG a3 b1).1⟩
theorem kY (x y : Rat) : combC (· + ·) x.num (x.den : Int) y.num (y.den : Int) ↔ addC x y :=
 ⟨fun h => ⟨h.1.1, h.1.2, h.2.1, h.2.2⟩, fun h => ⟨⟨h.1, h.2.1⟩, h.2.2.1, h.2.2.2⟩⟩
theorem ygA (s t : ByteArray) (hs : s.size ≤ 1000000) (ht : t.size ≤ 1000000) (B : Nat) (w : World) (hB : B ≤ w.heap.size) (hT : PQ B w) :
 Calls Tryz.prog 80 #[.string s, .string t] w (Ret w (pairV (qopS addC (· + ·) s.data.toList t.data.toList) (qopE addC s.data.toList t.data.toList))) := by
 have HT := hide hT
 by_cases hq : natQ s.data.toList ∧ natQ t.data.toList
 ·obtain ⟨k1, k2, k3, _, _⟩ := jb hq.1 hq.2
  have hb := yS hq.1.1 hq.2.1
  have hc : addC (valQ s.data.toList) (valQ t.data.toList) := yfK (qT hq.1) (qT hq.2) most8
  have e1 : qopS addC (· + ·) s.data.toList t.data.toList = ratS (valQ s.data.toList + valQ t.data.toList) := by unfold qopS; rw [if_pos hb, if_pos hc]
  have e2 : qopE addC s.data.toList t.data.toList = 0 := by unfold qopE; rw [if_pos hb, if_pos hc]
  rw [e1, e2]
  have HQ := hide (xp s t hs ht 133 addFn hq.1 hq.2 rfl rfl (by omega) (by omega) (Int.mul_ne_zero (xg _) (xg _)) B w hB hT.p10)
  rw [qu] at HQ
  obtain ⟨X, hX⟩ := xe (strB (ratS (valQ s.data.toList + valQ t.data.toList)))
  rw [show pairV (ratS (valQ s.data.toList + valQ t.data.toList)) 0 = .tuple #[.string X, .int .i64 0] by rw [hX]]
  rw [← hX] at HQ
  clear hX e1 e2 hc hb k1 k2 k3 hq hT
  go_enter Tryz.func80, Tryz.ntmps80
  go_wp2_with fail
  refine HQ.out.mono ?_
  rintro e w1 ⟨rfl, hb1⟩
  have HB1 := hide hb1
  clear hb1
  go_wp2_with fail
  refine bodyPost_ret (results_tmp2 rfl _ _ _) rfl ?_
  exact ⟨rfl, HB1.out⟩
 ·have HQ := hide (kN s t hs ht 133 hq w)
  have key : ∀ W bx, Below w.heap.size w W → W.heap[bx]? = some (boxF 134) → Calls Tryz.prog 114 #[.string s, .string t, .func (.func 166) #[] #[.pointer (some ⟨bx, 0, none⟩)]] W (Ret W (pairV (qopS addC (· + ·) s.data.toList t.data.toList) (qopE addC s.data.toList t.data.toList))) := by
   intro W bx hW hbx
   have hBW := Nat.le_trans hB hW.size
   by_cases hb : bothQ s.data.toList t.data.toList = 0
   ·obtain ⟨c1, c2⟩ := vw hb
    have h4 := xV c1 c2
    refine vt s t hs ht 166 _ c1 c2 (enters_of Tryz.func166 (by kernel_rfl) rfl) _ _ B W hBW (HT.out.on hW hB) ?_
    intro W2 hW2
    have h := kI addI h4 (Int.mul_ne_zero (xg _) (xg _)) bx _ B W2 (yc hW2 hbx (yd hbx)) (Nat.le_trans hBW hW2.size) ((HT.out.p10.on hW hB).on hW2 hBW)
    unfold qopS qopE
    rw [if_pos hb, if_pos hb]
    by_cases hc : addC (valQ s.data.toList) (valQ t.data.toList)
    ·rw [if_pos (((kY _ _).2 hc)), if_pos (((kY _ _).2 hc)), qu] at h
     rw [if_pos hc, if_pos hc]
     exact h
    ·rw [if_neg (fun e => hc ((kY _ _).1 e)), if_neg (fun e => hc ((kY _ _).1 e))] at h
     rw [if_neg hc, if_neg hc]
     exact h
   ·unfold qopS qopE
    rw [if_neg hb, if_neg hb]
    exact xy s t hs ht _ hb B W hBW (HT.out.on hW hB)
  have HK := hide key
  obtain ⟨X, hX⟩ := xe (strB (qopS addC (· + ·) s.data.toList t.data.toList))
  obtain ⟨E, hE⟩ := xe (qopE addC s.data.toList t.data.toList)
  rw [show pairV (qopS addC (· + ·) s.data.toList t.data.toList) (qopE addC s.data.toList t.data.toList) = .tuple #[.string X, .int .i64 E] by rw [hX, hE]] at HK ⊢
  clear key hX hE hq hT
  go_enter Tryz.func80, Tryz.ntmps80
  go_wp2_with fail
  refine HQ.out.mono ?_
  rintro e w1 ⟨rfl, hb1⟩
  have HB1 := hide hb1
  clear hb1
  go_wp2_with fail
  refine (kF _ _).mono ?_
  rintro e w2 ⟨rfl, rfl⟩
  have X1 := hide (heap1 w1 (boxF 134))
  have HB2 := hide (HB1.out.trans (X1.out.2.2.mono HB1.out.size))
  go_wp2_with fail
  refine (HK.out _ _ HB2.out X1.out.1).mono ?_
  rintro e w3 ⟨rfl, hb3⟩
  have HB3 := bt HB2 hb3
  clear hb3
  go_wp2_with fail
  refine bodyPost_ret (results_tmp2 rfl _ _ _) rfl ?_
  exact ⟨rfl, HB3.out⟩
theorem kO (x y : Rat) : combC (· - ·) x.num (x.den : Int) y.num (y.den : Int) ↔ subC x y :=
 ⟨fun h => ⟨h.1.1, h.1.2, h.2.1, h.2.2⟩, fun h => ⟨⟨h.1, h.2.1⟩, h.2.2.1, h.2.2.2⟩⟩
theorem yhh (s t : ByteArray) (hs : s.size ≤ 1000000) (ht : t.size ≤ 1000000) (B : Nat) (w : World) (hB : B ≤ w.heap.size) (hT : PQ B w) :
 Calls Tryz.prog 62 #[.string s, .string t] w (Ret w (pairV (qopS subC (· - ·) s.data.toList t.data.toList) (qopE subC s.data.toList t.data.toList))) := by
 have HT := hide hT
 by_cases hq : natQ s.data.toList ∧ natQ t.data.toList
 ·obtain ⟨k1, k2, k3, _, _⟩ := jb hq.1 hq.2
  have hb := yS hq.1.1 hq.2.1
  have hc : subC (valQ s.data.toList) (valQ t.data.toList) := yfq (qT hq.1) (qT hq.2) most8
  have e1 : qopS subC (· - ·) s.data.toList t.data.toList = ratS (valQ s.data.toList - valQ t.data.toList) := by unfold qopS; rw [if_pos hb, if_pos hc]
  have e2 : qopE subC s.data.toList t.data.toList = 0 := by unfold qopE; rw [if_pos hb, if_pos hc]
  rw [e1, e2]
  have HQ := hide (xp s t hs ht 113 subFn hq.1 hq.2 rfl rfl (by omega) (by omega) (Int.mul_ne_zero (xg _) (xg _)) B w hB hT.p10)
  rw [kf] at HQ
  obtain ⟨X, hX⟩ := xe (strB (ratS (valQ s.data.toList - valQ t.data.toList)))
  rw [show pairV (ratS (valQ s.data.toList - valQ t.data.toList)) 0 = .tuple #[.string X, .int .i64 0] by rw [hX]]
  rw [← hX] at HQ
  clear hX e1 e2 hc hb k1 k2 k3 hq hT
  go_enter Tryz.func62, Tryz.ntmps62
  go_wp2_with fail
  refine HQ.out.mono ?_
  rintro e w1 ⟨rfl, hb1⟩
  have HB1 := hide hb1
  clear hb1
  go_wp2_with fail
  refine bodyPost_ret (results_tmp2 rfl _ _ _) rfl ?_
  exact ⟨rfl, HB1.out⟩
 ·have HQ := hide (kN s t hs ht 113 hq w)
  have key : ∀ W bx, Below w.heap.size w W → W.heap[bx]? = some (boxF 116) → Calls Tryz.prog 114 #[.string s, .string t, .func (.func 166) #[] #[.pointer (some ⟨bx, 0, none⟩)]] W (Ret W (pairV (qopS subC (· - ·) s.data.toList t.data.toList) (qopE subC s.data.toList t.data.toList))) := by
   intro W bx hW hbx
   have hBW := Nat.le_trans hB hW.size
   by_cases hb : bothQ s.data.toList t.data.toList = 0
   ·obtain ⟨c1, c2⟩ := vw hb
    have h4 := xV c1 c2
    refine vt s t hs ht 166 _ c1 c2 (enters_of Tryz.func166 (by kernel_rfl) rfl) _ _ B W hBW (HT.out.on hW hB) ?_
    intro W2 hW2
    have h := kI subI h4 (Int.mul_ne_zero (xg _) (xg _)) bx _ B W2 (yc hW2 hbx (yd hbx)) (Nat.le_trans hBW hW2.size) ((HT.out.p10.on hW hB).on hW2 hBW)
    unfold qopS qopE
    rw [if_pos hb, if_pos hb]
    by_cases hc : subC (valQ s.data.toList) (valQ t.data.toList)
    ·rw [if_pos (((kO _ _).2 hc)), if_pos (((kO _ _).2 hc)), kf] at h
     rw [if_pos hc, if_pos hc]
     exact h
    ·rw [if_neg (fun e => hc ((kO _ _).1 e)), if_neg (fun e => hc ((kO _ _).1 e))] at h
     rw [if_neg hc, if_neg hc]
     exact h
   ·unfold qopS qopE
    rw [if_neg hb, if_neg hb]
    exact xy s t hs ht _ hb B W hBW (HT.out.on hW hB)
  have HK := hide key
  obtain ⟨X, hX⟩ := xe (strB (qopS subC (· - ·) s.data.toList t.data.toList))
  obtain ⟨E, hE⟩ := xe (qopE subC s.data.toList t.data.toList)
  rw [show pairV (qopS subC (· - ·) s.data.toList t.data.toList) (qopE subC s.data.toList t.data.toList) = .tuple #[.string X, .int .i64 E] by rw [hX, hE]] at HK ⊢
  clear key hX hE hq hT
  go_enter Tryz.func62, Tryz.ntmps62
  go_wp2_with fail
  refine HQ.out.mono ?_
  rintro e w1 ⟨rfl, hb1⟩
  have HB1 := hide hb1
  clear hb1
  go_wp2_with fail
  refine (kF _ _).mono ?_
  rintro e w2 ⟨rfl, rfl⟩
  have X1 := hide (heap1 w1 (boxF 116))
  have HB2 := hide (HB1.out.trans (X1.out.2.2.mono HB1.out.size))
  go_wp2_with fail
  refine (HK.out _ _ HB2.out X1.out.1).mono ?_
  rintro e w3 ⟨rfl, hb3⟩
  have HB3 := bt HB2 hb3
  clear hb3
  go_wp2_with fail
  refine bodyPost_ret (results_tmp2 rfl _ _ _) rfl ?_
  exact ⟨rfl, HB3.out⟩
theorem ygJ (s t : ByteArray) (hs : s.size ≤ 1000000) (ht : t.size ≤ 1000000) (B : Nat) (w : World) (hB : B ≤ w.heap.size) (hT : PQ B w) :
 Calls Tryz.prog 79 #[.string s, .string t] w (Ret w (pairV (qopS mulC (· * ·) s.data.toList t.data.toList) (qopE mulC s.data.toList t.data.toList))) := by
 have HT := hide hT
 by_cases hq : natQ s.data.toList ∧ natQ t.data.toList
 ·obtain ⟨_, _, k3, k4, _⟩ := jb hq.1 hq.2
  have hb := yS hq.1.1 hq.2.1
  have hc : mulC (valQ s.data.toList) (valQ t.data.toList) := yge (qT hq.1) (qT hq.2) (by rw [yC]; omega)
  have e1 : qopS mulC (· * ·) s.data.toList t.data.toList = ratS (valQ s.data.toList * valQ t.data.toList) := by unfold qopS; rw [if_pos hb, if_pos hc]
  have e2 : qopE mulC s.data.toList t.data.toList = 0 := by unfold qopE; rw [if_pos hb, if_pos hc]
  rw [e1, e2]
  have HQ := hide (xp s t hs ht 130 mulFn hq.1 hq.2 rfl rfl (by omega) (by omega) (Int.mul_ne_zero (xg _) (xg _)) B w hB hT.p10)
  rw [qy] at HQ
  obtain ⟨X, hX⟩ := xe (strB (ratS (valQ s.data.toList * valQ t.data.toList)))
  rw [show pairV (ratS (valQ s.data.toList * valQ t.data.toList)) 0 = .tuple #[.string X, .int .i64 0] by rw [hX]]
  rw [← hX] at HQ
  clear hX e1 e2 hc hb k3 k4 hq hT
  go_enter Tryz.func79, Tryz.ntmps79
  go_wp2_with fail
  refine HQ.out.mono ?_
  rintro e w1 ⟨rfl, hb1⟩
  have HB1 := hide hb1
  clear hb1
  go_wp2_with fail
  refine bodyPost_ret (results_tmp2 rfl _ _ _) rfl ?_
  exact ⟨rfl, HB1.out⟩
 ·have HQ := hide (kN s t hs ht 130 hq w)
  have key : ∀ W, Below w.heap.size w W → Calls Tryz.prog 114 #[.string s, .string t, .func (.func 131) #[] #[]] W (Ret W (pairV (qopS mulC (· * ·) s.data.toList t.data.toList) (qopE mulC s.data.toList t.data.toList))) := by
   intro W hW
   have hBW := Nat.le_trans hB hW.size
   by_cases hb : bothQ s.data.toList t.data.toList = 0
   ·obtain ⟨c1, c2⟩ := vw hb
    have h4 := xV c1 c2
    refine vt s t hs ht 131 #[] c1 c2 (enters_of Tryz.func131 (by kernel_rfl) rfl) _ _ B W hBW (HT.out.on hW hB) ?_
    intro W2 hW2
    have h := yhx h4 (Int.mul_ne_zero (xg _) (xg _)) B W2 (Nat.le_trans hBW hW2.size) ((HT.out.p10.on hW hB).on hW2 hBW)
    unfold qopS qopE
    rw [if_pos hb, if_pos hb]
    rw [qy] at h
    exact h
   ·unfold qopS qopE
    rw [if_neg hb, if_neg hb]
    exact xy s t hs ht _ hb B W hBW (HT.out.on hW hB)
  have HK := hide key
  obtain ⟨X, hX⟩ := xe (strB (qopS mulC (· * ·) s.data.toList t.data.toList))
  obtain ⟨E, hE⟩ := xe (qopE mulC s.data.toList t.data.toList)
  rw [show pairV (qopS mulC (· * ·) s.data.toList t.data.toList) (qopE mulC s.data.toList t.data.toList) = .tuple #[.string X, .int .i64 E] by rw [hX, hE]] at HK ⊢
  clear key hX hE hq hT
  go_enter Tryz.func79, Tryz.ntmps79
  go_wp2_with fail
  refine HQ.out.mono ?_
  rintro e w1 ⟨rfl, hb1⟩
  have HB1 := hide hb1
  clear hb1
  go_wp2_with fail
  refine (HK.out _ HB1.out).mono ?_
  rintro e w3 ⟨rfl, hb3⟩
  have HB3 := bt HB1 hb3
  clear hb3
  go_wp2_with fail
  refine bodyPost_ret (results_tmp2 rfl _ _ _) rfl ?_
  exact ⟨rfl, HB3.out⟩
def divS (a b : List UInt8) : List UInt8 := if bothQ a b = 0 then (if valQ b = 0 then [] else if cmpC (valQ a) (valQ b) then ratS (valQ a / valQ b) else []) else []
def divE (a b : List UInt8) : Int := if bothQ a b = 0 then (if valQ b = 0 then 12 else if cmpC (valQ a) (valQ b) then 0 else 4) else bothQ a b
theorem ybR : ratS 0 = [48] := by
 have h := jW 0
 rw [yP] at h
 exact h
theorem yfk {b : List UInt8} (h : chkQ b = 0) : b = [48] ↔ valQ b = 0 := by
 obtain ⟨e, _⟩ := qj h
 constructor
 ·intro h1
  refine xz ?_
  rw [← e, h1]
  exact ybR.symm
 ·intro h1
  rw [e, h1]
  exact ybR
theorem yea {x : Rat} : x.num = 0 ↔ x = 0 := Rat.num_eq_zero
theorem yhp (s t : ByteArray) (hs : s.size ≤ 1000000) (ht : t.size ≤ 1000000) (B : Nat) (w : World) (hB : B ≤ w.heap.size) (hT : PQ B w) :
 Calls Tryz.prog 149 #[.string s, .string t] w (Ret w (pairV (divS s.data.toList t.data.toList) (divE s.data.toList t.data.toList))) := by
 have HT := hide hT
 have key : ∀ W, Below w.heap.size w W → Calls Tryz.prog 114 #[.string s, .string t, .func (.func 201) #[] #[]] W (Ret W (pairV (divS s.data.toList t.data.toList) (divE s.data.toList t.data.toList))) := by
  intro W hW
  have hBW := Nat.le_trans hB hW.size
  by_cases hb : bothQ s.data.toList t.data.toList = 0
  ·obtain ⟨c1, c2⟩ := vw hb
   have h4 := xV c1 c2
   refine vt s t hs ht 201 #[] c1 c2 (enters_of Tryz.func201 (by kernel_rfl) rfl) _ _ B W hBW (HT.out.on hW hB) ?_
   intro W2 hW2
   unfold divS divE
   rw [if_pos hb, if_pos hb]
   by_cases hz : valQ t.data.toList = 0
   ·rw [if_pos hz, if_pos hz]
    exact yfF (by rw [yh, hz]; exact yP) W2
   ·rw [if_neg hz, if_neg hz]
    have h := yhk h4 (fun e => hz (yea.1 e)) (xg _) B W2 (Nat.le_trans hBW hW2.size) ((HT.out.p10.on hW hB).on hW2 hBW)
    rw [kj] at h
    exact h
  ·unfold divS divE
   rw [if_neg hb, if_neg hb]
   exact xy s t hs ht _ hb B W hBW (HT.out.on hW hB)
 have HK := hide key
 by_cases h0 : t.data.toList = [48]
 ·have ht0 : (t.toList != [48]) = false := by rw [ByteArray.toList_eq, h0]; rfl
  have ht1 := (zz (m := [48]) h0).1 rfl
  obtain ⟨X, hX⟩ := xe (strB (divS s.data.toList t.data.toList))
  obtain ⟨E, hE⟩ := xe (divE s.data.toList t.data.toList)
  rw [show pairV (divS s.data.toList t.data.toList) (divE s.data.toList t.data.toList) = .tuple #[.string X, .int .i64 E] by rw [hX, hE]] at HK ⊢
  clear key hX hE hT h0
  go_enter Tryz.func149, Tryz.ntmps149
  go_wp2_with fail
  refine (HK.out _ (Below.refl _ _)).mono ?_
  rintro e w3 ⟨rfl, hb3⟩
  have HB3 := hide hb3
  clear hb3
  go_wp2_with fail
  refine bodyPost_ret (results_tmp2 rfl _ _ _) rfl ?_
  exact ⟨rfl, HB3.out⟩
 have ht0 : (t.toList != [48]) = true := by rw [ByteArray.toList_eq]; simpa using h0
 have ht1 := (zz (m := [48]) (s := t) rfl).2 h0
 by_cases hq : natQ s.data.toList ∧ natQ t.data.toList
 ·obtain ⟨k1, _, _, _, k5⟩ := jb hq.1 hq.2
  have hb := yS hq.1.1 hq.2.1
  have hz : valQ t.data.toList ≠ 0 := fun e => h0 ((yfk hq.2.1).2 e)
  have hc : cmpC (valQ s.data.toList) (valQ t.data.toList) := km (qT hq.1) (qT hq.2) (by rw [yC]; omega)
  have e1 : divS s.data.toList t.data.toList = ratS (valQ s.data.toList / valQ t.data.toList) := by unfold divS; rw [if_pos hb, if_neg hz, if_pos hc]
  have e2 : divE s.data.toList t.data.toList = 0 := by unfold divE; rw [if_pos hb, if_neg hz, if_pos hc]
  rw [e1, e2]
  have HQ := hide (xp s t hs ht 200 divFn hq.1 hq.2 rfl rfl (by omega) (by omega) (Int.mul_ne_zero (xg _) (fun e => hz (yea.1 e))) B w hB hT.p10)
  rw [Int.mul_comm ((valQ s.data.toList).den : Int), kj] at HQ
  obtain ⟨X, hX⟩ := xe (strB (ratS (valQ s.data.toList / valQ t.data.toList)))
  rw [show pairV (ratS (valQ s.data.toList / valQ t.data.toList)) 0 = .tuple #[.string X, .int .i64 0] by rw [hX]]
  rw [← hX] at HQ
  clear hX e1 e2 hc hb k1 k5 hq hT h0 hz key HK
  go_enter Tryz.func149, Tryz.ntmps149
  go_wp2_with fail
  refine HQ.out.mono ?_
  rintro e w1 ⟨rfl, hb1⟩
  have HB1 := hide hb1
  clear hb1
  go_wp2_with fail
  refine bodyPost_ret (results_tmp2 rfl _ _ _) rfl ?_
  exact ⟨rfl, HB1.out⟩
 ·have HQ := hide (kN s t hs ht 200 hq w)
  obtain ⟨X, hX⟩ := xe (strB (divS s.data.toList t.data.toList))
  obtain ⟨E, hE⟩ := xe (divE s.data.toList t.data.toList)
  rw [show pairV (divS s.data.toList t.data.toList) (divE s.data.toList t.data.toList) = .tuple #[.string X, .int .i64 E] by rw [hX, hE]] at HK ⊢
  clear key hX hE hq hT h0
  go_enter Tryz.func149, Tryz.ntmps149
  go_wp2_with fail
  refine HQ.out.mono ?_
  rintro e w1 ⟨rfl, hb1⟩
  have HB1 := hide hb1
  clear hb1
  go_wp2_with fail
  refine (HK.out _ HB1.out).mono ?_
  rintro e w3 ⟨rfl, hb3⟩
  have HB3 := bt HB1 hb3
  clear hb3
  go_wp2_with fail
  refine bodyPost_ret (results_tmp2 rfl _ _ _) rfl ?_
  exact ⟨rfl, HB3.out⟩

theorem zW (s : ByteArray) (hs : s.size ≤ 1000000) (B : Nat) (w : World) (hB : B ≤ w.heap.size) (hT : PQ B w) :
 Calls Tryz.prog 89 #[.string s] w (Ret w (.int .i64 (chkQ s.data.toList))) := by
 have H1 := hide (qd s hs B w hB hT)
 by_cases h : chkQ s.data.toList = 0
 ·rw [zj h] at H1
  rw [h]
  obtain ⟨n, hn⟩ := xe (strB (Lib.itoa (valQ s.data.toList).num))
  obtain ⟨d, hd⟩ := xe (strB (Lib.itoa ((valQ s.data.toList).den : Int)))
  rw [← hn, ← hd] at H1
  clear hn hd h
  go_enter Tryz.func89, Tryz.ntmps89
  go_wp2_with fail
  refine H1.out.mono ?_
  rintro e w1 ⟨rfl, hb1⟩
  have HB1 := hide hb1
  clear hb1
  go_wp2_with fail
  go_ret
  exact ⟨rfl, HB1.out.trans ((heap1 w1 _).2.2.mono HB1.out.size)⟩
 ·rw [ja h] at H1
  obtain ⟨E, hE⟩ := xe (chkQ s.data.toList)
  rw [← hE] at H1 ⊢
  clear h hE
  go_enter Tryz.func89, Tryz.ntmps89
  go_wp2_with fail
  refine H1.out.mono ?_
  rintro e w1 ⟨rfl, hb1⟩
  have HB1 := hide hb1
  clear hb1
  go_wp2_with fail
  go_ret
  exact ⟨rfl, HB1.out.trans ((heap1 w1 _).2.2.mono HB1.out.size)⟩
def partsR (l : List UInt8) : Value := if chkQ l = 0 then tripV (Lib.itoa (valQ l).num) (Lib.itoa ((valQ l).den : Int)) 0 else tripV [] [] (chkQ l)
theorem yaP (s : ByteArray) (hs : s.size ≤ 1000000) (B : Nat) (w : World) (hB : B ≤ w.heap.size) (hT : PQ B w) :
 Calls Tryz.prog 119 #[.string s] w (Ret w (partsR s.data.toList)) := by
 have H1 := hide (qd s hs B w hB hT)
 have hk : ∃ (n d : ByteArray) (z : Int), readV s.data.toList = .tuple #[partsV n d, .int .i64 z] ∧ partsR s.data.toList = .tuple #[.string n, .string d, .int .i64 z] := by
  by_cases h : chkQ s.data.toList = 0
  ·exact ⟨_, _, _, zj h, if_pos h⟩
  ·exact ⟨_, _, _, ja h, if_neg h⟩
 obtain ⟨n, d, z, e1, e2⟩ := hk
 rw [e1] at H1
 rw [e2]
 clear e1 e2
 go_enter Tryz.func119, Tryz.ntmps119
 go_wp2_with fail
 refine H1.out.mono ?_
 rintro e w1 ⟨rfl, hb1⟩
 have HB1 := hide (hb1.trans ((heap1 w1 (partsO n d)).2.2.mono hb1.size))
 clear hb1
 go_wp2_with fail
 go_quiet (fail)
 go_wp2_with fail
 go_ret3
 exact ⟨rfl, below_drewN HB1.out _⟩
theorem yeb {z : Int} (h0 : -9223372036854775808 ≤ z) (h1 : z ≤ 9223372036854775807) : fits z :=
 yq (n := 20) (by rw [yC]; omega) (Nat.lt_of_lt_of_le (m := 10000000000000000000) (by omega) (by decide))
theorem yia (n d : Int) (n0 : -9223372036854775808 ≤ n) (n1 : n ≤ 9223372036854775807) (d0 : -9223372036854775808 ≤ d) (d1 : d ≤ 9223372036854775807) (hd : d ≠ 0) (B : Nat) (w : World) (hB : B ≤ w.heap.size) (hT : PQ B w) :
 Calls Tryz.prog 75 #[.int .i64 n, .int .i64 d] w (Ret w (pairV (ratS (Rat.divInt n d)) 0)) := by
 have HT := hide hT.p10
 have HI := hide (fun w hT => yl n n0 n1 B w hT)
 have z0 : (d == 0) = false := by simpa using hd
 by_cases h1 : d = 1
 ·subst h1
  have e1 : ratS (Rat.divInt n 1) = Lib.itoa n := by rw [show (1 : Int) = ((1 : Nat) : Int) from rfl, Rat.divInt_ofNat, Rat.mkRat_one, jW]
  rw [e1]
  obtain ⟨X, hX⟩ := xe (strB (Lib.itoa n))
  rw [show pairV (Lib.itoa n) 0 = .tuple #[.string X, .int .i64 0] by rw [hX]]
  rw [← hX] at HI
  clear hX e1 hd hT
  go_enter Tryz.func75, Tryz.ntmps75
  go_wp2_with fail
  refine (HI.out _ HT.out).mono ?_
  rintro e w1 ⟨rfl, hb1⟩
  have HB1 := hide hb1
  clear hb1
  go_wp2_with fail
  refine bodyPost_ret (results_tmp2 rfl _ _ _) rfl ?_
  exact ⟨rfl, HB1.out⟩
 ·have z1 : (d == 1) = false := by simpa using h1
  have HI2 := hide (fun w hT => yl d d0 d1 B w hT)
  have HN := hide (fun w hB hT => jr (s := strB (Lib.itoa n)) (t := strB (Lib.itoa d)) (yh _) (yh _) (yeb n0 n1) (yeb d0 d1) hd B w hB hT)
  obtain ⟨X, hX⟩ := xe (strB (Lib.itoa n))
  obtain ⟨Y, hY⟩ := xe (strB (Lib.itoa d))
  obtain ⟨Z, hZ⟩ := xe (strB (ratS (Rat.divInt n d)))
  rw [show pairV (ratS (Rat.divInt n d)) 0 = .tuple #[.string Z, .int .i64 0] by rw [hZ]] at HN ⊢
  rw [← hX] at HI HN
  rw [← hY] at HI2 HN
  clear hX hY hZ hd h1 hT
  go_enter Tryz.func75, Tryz.ntmps75
  go_wp2_with fail
  refine (HI.out _ HT.out).mono ?_
  rintro e w1 ⟨rfl, hb1⟩
  have HB1 := hide hb1
  clear hb1
  go_wp2_with fail
  refine (HI2.out _ (HT.out.on HB1.out hB)).mono ?_
  rintro e w2 ⟨rfl, hb2⟩
  have HB2 := bt HB1 hb2
  clear hb2
  go_wp2_with fail
  refine (HN.out _ (Nat.le_trans hB HB2.out.size) (HT.out.on HB2.out hB)).mono ?_
  rintro e w3 ⟨rfl, hb3⟩
  have HB3 := bt HB2 hb3
  clear hb3
  go_wp2_with fail
  refine bodyPost_ret (results_tmp2 rfl _ _ _) rfl ?_
  exact ⟨rfl, HB3.out⟩
end Go.Proofs.YtklgpilgalfckaaGreatDoor
namespace Go.KI
open Go
theorem xf {k : Nat} (h : k < 25) (c m : Nat) : strips (primes25.drop k) c m = strips (primes25.drop (k + 1)) (stripD (primes25.getD k 0) c m).1 (stripD (primes25.getD k 0) c m).2 := by
 have e : primes25.drop k = primes25.getD k 0 :: primes25.drop (k + 1) := by
  rw [List.drop_eq_getElem_cons (by exact h)]
  congr 1
  rw [List.getD_eq_getElem?_getD, List.getElem?_eq_getElem h]
  rfl
 rw [e]
 rfl
theorem qi {k : Nat} (h : k < 25) : 2 ≤ primes25.getD k 0 ∧ primes25.getD k 0 ≤ 97 := by
 have key : ∀ k : Fin 25, 2 ≤ primes25.getD k.val 0 ∧ primes25.getD k.val 0 ≤ 97 := by decide
 exact key ⟨k, h⟩
end Go.KI
namespace Go.Proofs.YtklgpilgalfckaaGreatDoor
open Go.RowKit Go.KP Go.KI Go.Shelf
attribute [local go_sem] Oper.semAt_some

def primeB (k : Nat) : ByteArray := strB (Lib.decDigits (primes25.getD k 0))
abbrev primesA : Array Value := #[.string (primeB 0), .string (primeB 1), .string (primeB 2), .string (primeB 3), .string (primeB 4), .string (primeB 5), .string (primeB 6), .string (primeB 7), .string (primeB 8), .string (primeB 9), .string (primeB 10), .string (primeB 11), .string (primeB 12), .string (primeB 13), .string (primeB 14), .string (primeB 15), .string (primeB 16), .string (primeB 17), .string (primeB 18), .string (primeB 19), .string (primeB 20), .string (primeB 21), .string (primeB 22), .string (primeB 23), .string (primeB 24)]
structure PR (B : Nat) (w : World) : Prop where
 pq : PQ B w
 lt : 0 < B
 pr : ∃ t fr, w.heap[0]? = some (.cells primesA t fr)
theorem PR.on {B n : Nat} {w w2 : World} (h : PR B w) (hb : Below n w w2) (hB : B ≤ n) : PR B w2 :=
 ⟨h.pq.on hb hB, h.lt, by
   obtain ⟨t, fr, hp⟩ := h.pr
   exact ⟨t, fr, (hb.block _ (Nat.lt_of_lt_of_le h.lt hB)).trans hp⟩⟩
theorem PR.mono {B B2 : Nat} {w : World} (h : PR B w) (hB : B ≤ B2) : PR B2 w := ⟨h.pq.mono hB, Nat.lt_of_lt_of_le h.lt hB, h.pr⟩
theorem pidx {k : Nat} (h : k < 25) (w : World) : (Instr.index 192 (.agg primesA) (.int .i64 k)).run Tryz.prog w = .ok (.string (primeB k)) w := by
 have hk : k = 0 ∨ k = 1 ∨ k = 2 ∨ k = 3 ∨ k = 4 ∨ k = 5 ∨ k = 6 ∨ k = 7 ∨ k = 8 ∨ k = 9 ∨ k = 10 ∨ k = 11 ∨ k = 12 ∨ k = 13 ∨ k = 14 ∨ k = 15 ∨ k = 16 ∨ k = 17 ∨ k = 18 ∨ k = 19 ∨ k = 20 ∨ k = 21 ∨ k = 22 ∨ k = 23 ∨ k = 24 := by omega
 rcases hk with rfl | rfl | rfl | rfl | rfl | rfl | rfl | rfl | rfl | rfl | rfl | rfl | rfl | rfl | rfl | rfl | rfl | rfl | rfl | rfl | rfl | rfl | rfl | rfl | rfl
 all_goals first | rfl | (refine Eq.trans ?_ rfl; kernel_rfl)
theorem yeP {k : Nat} (h : k < 25) (w : World) : Calls Tryz.prog 144 #[.string (primeB k)] w fun e w' => e = .returned (.tuple #[.int .i64 (primes25.getD k 0), .nilIface]) ∧ Below w.heap.size w w' := by
 obtain ⟨b1, b2⟩ := qi h
 have hf : chkI (primeB k).data.toList = 0 ∧ valI (primeB k).data.toList = ((primes25.getD k 0 : Nat) : Int) := by
  unfold primeB
  rw [yh, ← Lib.itoa_nonneg]
  exact ⟨yM (yq (n := 3) (by rw [yC]; omega) (by omega)), ym _⟩
 have hs : (primeB k).size ≤ 18 := by
  have key : ∀ k : Fin 25, (primeB k.val).size ≤ 18 := by decide +kernel
  exact key ⟨k, h⟩
 have := jo (primeB k) hf.1 hs w
 rw [hf.2] at this
 exact this
theorem kp (n d : Nat) (hn : 0 < n) (hd : 0 < d) (hm : n * d < 1000000000000000000) (B : Nat) (w : World) (hB : B ≤ w.heap.size) (hT : PR B w) :
 Calls Tryz.prog 93 #[.int .i64 n, .int .i64 d] w (Ret w (.tuple #[.string (strB (ratS (Rat.divInt (normN (n * d)).1 d))), .string (strB (Lib.itoa (normN (n * d)).2))])) := by
 have HT := hide hT
 have hl := Nat.lt_of_lt_of_le hT.lt hB
 have hdm : d ≤ n * d := Nat.le_mul_of_pos_left d hn
 have HQ := hide (fun c (c0 : c ≤ 1000000000000000000) w hB hT => yia ((c : Nat) : Int) (d : Int) (by omega) (by omega) (by omega) (by omega) (by omega) B w hB hT)
 obtain ⟨m, hmm⟩ := xe (n * d)
 have hnd : (n : Int) * (d : Int) = (m : Int) := by rw [hmm, Int.natCast_mul]
 have hm0 : 0 < m := by rw [hmm]; exact Nat.mul_pos hn hd
 rw [← hmm] at hm hdm ⊢
 obtain ⟨V1, hV1⟩ := xe (strB (ratS (Rat.divInt (normN m).1 d)))
 obtain ⟨V2, hV2⟩ := xe (strB (Lib.itoa (normN m).2))
 rw [← hV1, ← hV2]
 have H1 := hide hV1
 have H2 := hide hV2
 clear hV1 hV2 hmm
 obtain ⟨tt, fr, hg1⟩ := hT.pr
 clear hT hn hd
 go_enter Tryz.func93, Tryz.ntmps93
 go_wp2_with (refine wpList_load_row rfl 192 _ rfl 0 rfl tt _ fr _ hg1 Tryz.underlying192 rfl (by kernel_rfl) ?_)
 clear hg1
 go_loopw [6, 7, 19] (fun cc ll i wr => ∃ c left k : Nat, k ≤ 25 ∧ cc = .int .i64 c ∧ ll = .int .i64 left ∧ i = .int .i64 k ∧ c ≤ m ∧ left ≤ m ∧ 0 < left ∧ 0 < c ∧ Hid (strips (primes25.drop k) c left = strips primes25 1 m ∧ c * c * left = m ∧ Below w.heap.size w wr)) (fun _ _ i _ => 25 - (intOf i).toNat)
 case atStart => exact ⟨1, m, 0, by omega, rfl, rfl, rfl, by omega, Nat.le_refl _, hm0, by omega, ⟨rfl, by omega, Below.refl _ _⟩⟩
 case round =>
  obtain ⟨c, left, k, hk, rfl, rfl, rfl, hc, hl, hl0, hc0, hin⟩ := hrel
  have IN := hide hin.out
  clear hin
  obtain ⟨wo, hwo⟩ := xe wr
  subst hwo
  by_cases hlt : k < 25
  ·have hki : (k : Int) < 25 := by omega
   have hpx := fun w => pidx hlt w
   have HA := hide (fun w => yeP hlt w)
   obtain ⟨b1, b2⟩ := qi hlt
   have HD := hide (xf hlt)
   obtain ⟨q, hq⟩ := xe (primes25.getD k 0)
   rw [← hq] at HA b1 b2 HD
   clear hq hlt
   go_wp2_with fail
   refine (HA.out _).mono ?_
   rintro e w1 ⟨rfl, hb1⟩
   have HB1 := hide (IN.out.2.2.trans (hb1.mono IN.out.2.2.size))
   clear hb1 hpx
   go_wp2_with fail
   go_loopw [6, 7] (fun cc ll wr2 => ∃ c2 l2 : Nat, cc = .int .i64 c2 ∧ ll = .int .i64 l2 ∧ c2 ≤ m ∧ l2 ≤ m ∧ 0 < l2 ∧ 0 < c2 ∧ Hid (stripD q c2 l2 = stripD q c left ∧ c2 * c2 * l2 = m ∧ Below w.heap.size w wr2)) (fun _ ll _ => (intOf ll).toNat)
   case atStart => exact ⟨c, left, rfl, rfl, hc, hl, hl0, hc0, ⟨rfl, IN.out.2.1, HB1.out⟩⟩
   clear hc hl hl0 hc0
   case round =>
    obtain ⟨c2, l2, rfl, rfl, hc2, hl2, hl20, hc20, hin2⟩ := hrel
    have I2 := hide hin2.out
    clear hin2
    obtain ⟨Q, hQ⟩ := xe (q * q)
    have hQi : (q : Int) * (q : Int) = (Q : Int) := by rw [hQ, Int.natCast_mul]
    have hQ1 : 4 ≤ Q ∧ Q ≤ 9409 := by rw [hQ]; exact ⟨Nat.mul_le_mul b1 b1, Nat.mul_le_mul b2 b2⟩
    have hQ0 : ((Q : Int) == 0) = false := by simp only [beq_eq_false_iff_ne, ne_eq]; omega
    obtain ⟨r, hr⟩ := xe (l2 % Q)
    have hri : (l2 : Int) % (Q : Int) = (r : Int) := by rw [hr, Int.natCast_emod]
    by_cases h0 : r = 0
    ·have hr0 : ((r : Int) == 0) = true := by simp [h0]
     obtain ⟨l3, hl3⟩ := xe (l2 / Q)
     have hdi : (l2 : Int) / (Q : Int) = (l3 : Int) := by rw [hl3, Int.natCast_ediv]
     have hst := jz (c := c2) b1 hl20 (by rw [← hQ, ← hr]; exact h0)
     obtain ⟨q1, q2⟩ := zh b1 hl20 (by rw [← hQ, ← hr]; exact h0)
     rw [← hQ, ← hl3] at hst q1 q2
     obtain ⟨c3, hc3⟩ := xe (c2 * q)
     have hci : (c2 : Int) * (q : Int) = (c3 : Int) := by rw [hc3, Int.natCast_mul]
     rw [← hc3] at hst
     have hm3 : c3 * c3 * l3 = m := by
      have hdm := Nat.div_add_mod l2 Q
      rw [← hr, h0, ← hl3, Nat.add_zero] at hdm
      rw [← I2.out.2.1, ← hdm, hc3, hQ]
      grind
     have hc30 : 0 < c3 := by rw [hc3]; exact Nat.mul_pos hc20 (by omega)
     have hc3m : c3 ≤ m := by
      have h1 : c3 * 1 ≤ c3 * (c3 * l3) := Nat.mul_le_mul (Nat.le_refl _) (Nat.mul_pos hc30 q1)
      rw [← Nat.mul_assoc, hm3] at h1
      omega
     have H3 := hide (⟨hst.symm.trans I2.out.1, hm3⟩ : stripD q c3 l3 = stripD q c left ∧ c3 * c3 * l3 = m)
     have hq2 : l3 < l2 := q2
     clear hst hm3 hc3 hl3 hr hQ h0 q2
     go_wp2_with fail
     go_quiet (fail)
     go_wp2_with fail
     go_roundw
     case rel => exact ⟨c3, l3, rfl, rfl, hc3m, by omega, q1, hc30, ⟨H3.out.1, H3.out.2, below_drewN I2.out.2.2 _⟩⟩
     case measure => simp [intOf]; omega
    ·have hr0 : ((r : Int) == 0) = false := by simp only [beq_eq_false_iff_ne, ne_eq]; omega
     have hst := qA (q := q) (c := c2) hl20 (by rw [← hQ, ← hr]; exact h0)
     have hst2 := HD.out c left
     rw [← I2.out.1, hst] at hst2
     have H3 := hide (hst2.symm.trans IN.out.1)
     clear hst hst2 hr hQ h0
     go_wp2_with fail
     go_roundw
     case rel => exact ⟨c2, l2, k + 1, by omega, rfl, rfl, by simp, hc2, hl2, hl20, hc20, ⟨H3.out, I2.out.2.1, I2.out.2.2⟩⟩
     case measure => simp [intOf]; omega
  ·obtain rfl : k = 25 := by omega
   have HE : Hid ((c, left) = strips primes25 1 m) := hide IN.out.1
   have HRT := hide (fun w => jH left (by omega) w)
   obtain ⟨r, hr⟩ := xe (rootN left)
   have hsp := (yX left).1
   have hcl : normN m = if r * r = left then (c * r, 1) else (c, left) := by
    unfold normN closeN
    rw [← HE.out, hr]
   rw [← hr] at HRT hsp
   obtain ⟨rr, hrr⟩ := xe (r * r)
   have hri : (r : Int) * (r : Int) = (rr : Int) := by rw [hrr, Int.natCast_mul]
   rw [← hrr] at hcl hsp
   by_cases heq : rr = left
   ·obtain ⟨c2, hc2⟩ := xe (c * r)
    have hci : (c : Int) * (r : Int) = (c2 : Int) := by rw [hc2, Int.natCast_mul]
    have hc2m : c2 ≤ m := by
     have e : c2 * c2 = m := by
      rw [← IN.out.2.1, ← heq, hrr, hc2]
      grind
     rcases Nat.eq_zero_or_pos c2 with h | h
     ·omega
     ·have := Nat.le_mul_of_pos_left c2 h
      omega
    rw [if_pos heq, ← hc2] at hcl
    have hQ := HQ.out c2 (by omega)
    have e1 : pairV (ratS (Rat.divInt ((c2 : Nat) : Int) (d : Int))) 0 = .tuple #[.string V1, .int .i64 0] := by rw [H1.out, hcl]
    rw [e1] at hQ
    have HQ2 := hide hQ
    have HI := hide (fun w hT => yl 1 (by omega) (by omega) B w hT)
    have e2 : strB (Lib.itoa 1) = V2 := by rw [H2.out, hcl]; rfl
    rw [e2] at HI
    have hq : ((rr : Int) == (left : Int)) = true := by simp [heq]
    clear hlt hr hrr hcl heq hc2 e1 e2 hQ
    go_wp2_with fail
    refine (HRT.out _).mono ?_
    rintro e w1 ⟨rfl, hb1⟩
    have HB1 := hide (IN.out.2.2.trans (hb1.mono IN.out.2.2.size))
    clear hb1
    go_wp2_with fail
    refine (HQ2.out _ (Nat.le_trans hB HB1.out.size) (HT.out.on HB1.out hB).pq).mono ?_
    rintro e w2 ⟨rfl, hb2⟩
    have HB2 := bt HB1 hb2
    clear hb2
    go_wp2_with fail
    refine (HI.out _ (HT.out.on HB2.out hB).pq.p10).mono ?_
    rintro e w3 ⟨rfl, hb3⟩
    have HB3 := bt HB2 hb3
    clear hb3
    go_wp2_with fail
    refine bodyPost_ret (results_tmp2 rfl _ _ _) rfl ?_
    exact ⟨rfl, HB3.out⟩
   ·rw [if_neg heq] at hcl
    have hQ := HQ.out c (by omega)
    have e1 : pairV (ratS (Rat.divInt ((c : Nat) : Int) (d : Int))) 0 = .tuple #[.string V1, .int .i64 0] := by rw [H1.out, hcl]
    rw [e1] at hQ
    have HQ2 := hide hQ
    have HI := hide (fun w hT => yl left (by omega) (by omega) B w hT)
    have e2 : strB (Lib.itoa left) = V2 := by rw [H2.out, hcl]
    rw [e2] at HI
    have hq : ((rr : Int) == (left : Int)) = false := by simp only [beq_eq_false_iff_ne, ne_eq]; omega
    clear hlt hr hrr hcl heq e1 e2 hQ
    go_wp2_with fail
    refine (HRT.out _).mono ?_
    rintro e w1 ⟨rfl, hb1⟩
    have HB1 := hide (IN.out.2.2.trans (hb1.mono IN.out.2.2.size))
    clear hb1
    go_wp2_with fail
    refine (HQ2.out _ (Nat.le_trans hB HB1.out.size) (HT.out.on HB1.out hB).pq).mono ?_
    rintro e w2 ⟨rfl, hb2⟩
    have HB2 := bt HB1 hb2
    clear hb2
    go_wp2_with fail
    refine (HI.out _ (HT.out.on HB2.out hB).pq.p10).mono ?_
    rintro e w3 ⟨rfl, hb3⟩
    have HB3 := bt HB2 hb3
    clear hb3
    go_wp2_with fail
    refine bodyPost_ret (results_tmp2 rfl _ _ _) rfl ?_
    exact ⟨rfl, HB3.out⟩
end Go.Proofs.YtklgpilgalfckaaGreatDoor
