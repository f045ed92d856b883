/-
 Texts laid together.
-/
import Derived.Test.YtklgpilgalfckaaGreatDoorMA9
import Derived.Test.YtklgpilgalfckaaGreatDoorMA5
import Derived.Test.YtklgpilgalfckaaGreatDoorMA3
import Derived.Lib.MinMax
import Derived.Laws.StructEq
set_option maxRecDepth 100000
set_option maxHeartbeats 8000000
namespace Go.Proofs.YtklgpilgalfckaaGreatDoor
open Go.RowKit Go.KP Go.KI Go.Shelf
attribute [local go_sem] Oper.semAt_some

def cmpI (x y : Rat) : Int := Lib.compareInt (x.num * y.den) (y.num * x.den)
def cmpN (a b : List UInt8) : Int := if bothQ a b = 0 then (if cmpC (valQ a) (valQ b) then cmpI (valQ a) (valQ b) else 0) else 0
def cmpE (a b : List UInt8) : Int := if bothQ a b = 0 then (if cmpC (valQ a) (valQ b) then 0 else 4) else bothQ a b
abbrev cmpV2 (n e : Int) : Value := .tuple #[.int .i64 n, .int .i64 e]
theorem ybY (s t : ByteArray) (hs : s.size ≤ 1000000) (ht : t.size ≤ 1000000) (B : Nat) (w : World) (hB : B ≤ w.heap.size) (hT : PQ B w) :
 Calls Tryz.prog 77 #[.string s, .string t] w (Ret w (cmpV2 (cmpN s.data.toList t.data.toList) (cmpE s.data.toList t.data.toList))) := by
 have HT := hide hT
 have HN1 := hide (zu s hs w)
 have HN2 := hide (fun w => zu t ht w)
 by_cases hq : natQ s.data.toList ∧ natQ t.data.toList
 ·obtain ⟨k1, k2, _, _, _⟩ := jb hq.1 hq.2
  have hb := yS hq.1.1 hq.2.1
  have hc : cmpC (valQ s.data.toList) (valQ t.data.toList) := km (qT hq.1) (qT hq.2) (by rw [yC]; omega)
  have e1 : cmpN s.data.toList t.data.toList = cmpI (valQ s.data.toList) (valQ t.data.toList) := by unfold cmpN; rw [if_pos hb, if_pos hc]
  have e2 : cmpE s.data.toList t.data.toList = 0 := by unfold cmpE; rw [if_pos hb, if_pos hc]
  rw [e1, e2]
  rw [qJ hq.1] at HN1
  rw [qJ hq.2] at HN2
  unfold cmpI
  obtain ⟨x, hx⟩ := xe ((valQ s.data.toList).num)
  obtain ⟨p, hp⟩ := xe (((valQ s.data.toList).den : Int))
  obtain ⟨y, hy⟩ := xe ((valQ t.data.toList).num)
  obtain ⟨q, hq1⟩ := xe (((valQ t.data.toList).den : Int))
  rw [← hx, ← hp] at HN1
  rw [← hy, ← hq1] at HN2
  rw [← hx, ← hq1] at k1
  rw [← hy, ← hp] at k2
  rw [← hx, ← hp, ← hy, ← hq1]
  have m1 : IntKind.i64.wrap (x * q) = x * q := IntWalk.i64_in _ (by omega)
  have m2 : IntKind.i64.wrap (y * p) = y * p := IntWalk.i64_in _ (by omega)
  obtain ⟨R, hR⟩ := xe (Lib.compareInt (x * q) (y * p))
  have HC := hide (fun w => Tryz.cmp_Compare_int (x * q) (y * p) w)
  rw [← hR] at HC ⊢
  clear hx hp hy hq1 k1 k2 hb hc e1 e2 hR hq hT
  go_enter Tryz.func77, Tryz.ntmps77
  go_wp2_with fail
  refine HN1.out.mono ?_
  rintro e w1 ⟨rfl, hb1⟩
  have X1 := hide (heap1 w1 (natO x p))
  have HB1 := hide (hb1.trans (X1.out.2.2.mono hb1.size))
  clear hb1
  go_wp2_with fail
  refine (HN2.out _).mono ?_
  rintro e w2 ⟨rfl, hb2⟩
  have G2 := hide (yc hb2 X1.out.1 (yd X1.out.1))
  have HB2 := bt HB1 hb2
  have X2 := hide (heap1 w2 (natO y q))
  have HB2b := hide (HB2.out.trans (X2.out.2.2.mono HB2.out.size))
  have c0 := ya G2.out 0
  have c1 := ya G2.out 1
  have hl := yd G2.out
  clear hb2
  go_wp2_with fail
  refine (HC.out _).mono ?_
  rintro e w3 ⟨rfl, rfl⟩
  go_wp2_with fail
  refine bodyPost_ret (results_tmp2 rfl _ _ _) rfl ?_
  exact ⟨rfl, HB2b.out⟩
 ·-- the parts are read
  have HR1 := hide (fun w hB hT => qd s hs B w hB hT)
  have HR2 := hide (fun w hB hT => qd t ht B w hB hT)
  have hway : (natQ s.data.toList ∧ ¬ natQ t.data.toList) ∨ ¬ natQ s.data.toList := by
   by_cases h1 : natQ s.data.toList
   ·exact .inl ⟨h1, fun e => hq ⟨h1, e⟩⟩
   ·exact .inr h1
  have hk : (chkQ s.data.toList ≠ 0 ∧ cmpN s.data.toList t.data.toList = 0 ∧ cmpE s.data.toList t.data.toList = chkQ s.data.toList) ∨
   (chkQ s.data.toList = 0 ∧ chkQ t.data.toList ≠ 0 ∧ cmpN s.data.toList t.data.toList = 0 ∧ cmpE s.data.toList t.data.toList = chkQ t.data.toList) ∨
   (chkQ s.data.toList = 0 ∧ chkQ t.data.toList = 0 ∧ ¬ cmpC (valQ s.data.toList) (valQ t.data.toList) ∧ cmpN s.data.toList t.data.toList = 0 ∧ cmpE s.data.toList t.data.toList = 4) ∨
   (chkQ s.data.toList = 0 ∧ chkQ t.data.toList = 0 ∧ cmpC (valQ s.data.toList) (valQ t.data.toList) ∧ cmpN s.data.toList t.data.toList = cmpI (valQ s.data.toList) (valQ t.data.toList) ∧ cmpE s.data.toList t.data.toList = 0) := by
   unfold cmpN cmpE
   by_cases h1 : chkQ s.data.toList = 0
   ·by_cases h2 : chkQ t.data.toList = 0
    ·have hb := yS h1 h2
     by_cases h3 : cmpC (valQ s.data.toList) (valQ t.data.toList)
     ·exact .inr (.inr (.inr ⟨h1, h2, h3, by rw [if_pos hb, if_pos h3], by rw [if_pos hb, if_pos h3]⟩))
     ·exact .inr (.inr (.inl ⟨h1, h2, h3, by rw [if_pos hb, if_neg h3], by rw [if_pos hb, if_neg h3]⟩))
    ·have hb : bothQ s.data.toList t.data.toList = chkQ t.data.toList := if_pos h1
     exact .inr (.inl ⟨h1, h2, by rw [hb, if_neg h2], by rw [hb, if_neg h2]⟩)
   ·have hb : bothQ s.data.toList t.data.toList = chkQ s.data.toList := if_neg h1
    exact .inl ⟨h1, by rw [hb, if_neg h1], by rw [hb, if_neg h1]⟩
  have HY1 := hide (fun (h : natQ s.data.toList) => qJ h)
  have HNN1 := hide (fun (h : ¬ natQ s.data.toList) => xo h)
  have HNN2 := hide (fun (h : ¬ natQ t.data.toList) => xo h)
  rcases hk with ⟨h1, e1, e2⟩ | ⟨h1, h2, e1, e2⟩ | ⟨h1, h2, h3, e1, e2⟩ | ⟨h1, h2, h3, e1, e2⟩
  ·rw [e1, e2]
   rw [ja h1] at HR1
   have hne : (chkQ s.data.toList != 0) = true := by simpa using h1
   obtain ⟨E, hE⟩ := xe (chkQ s.data.toList)
   rw [← hE] at HR1 hne ⊢
   clear hE h1 e1 e2 hq hT
   rcases hway with ⟨n1, n2⟩ | n1
   ·rw [HY1.out n1] at HN1
    rw [HNN2.out n2] at HN2
    clear n1 n2
    obtain ⟨x, hx⟩ := xe ((valQ s.data.toList).num)
    obtain ⟨p, hp⟩ := xe (((valQ s.data.toList).den : Int))
    rw [← hx, ← hp] at HN1
    clear hx hp
    go_enter Tryz.func77, Tryz.ntmps77
    go_wp2_with fail
    refine HN1.out.mono ?_
    rintro e w1 ⟨rfl, hb1⟩
    have HB1 := hide (hb1.trans ((heap1 w1 (natO x p)).2.2.mono hb1.size))
    clear hb1
    go_wp2_with fail
    refine (HN2.out _).mono ?_
    rintro e w2 ⟨rfl, hb2⟩
    have HB2 := bt HB1 hb2
    have HB2b := hide (HB2.out.trans ((heap1 w2 (natO 0 0)).2.2.mono HB2.out.size))
    clear hb2
    go_wp2_with fail
    refine (HR1.out _ (Nat.le_trans hB HB2b.out.size) (HT.out.on HB2b.out hB)).mono ?_
    rintro e w3 ⟨rfl, hb3⟩
    have HB3 := hide (HB2b.out.trans (hb3.mono HB2b.out.size))
    clear hb3
    go_wp2_with fail
    refine bodyPost_ret (results_tmp2 rfl _ _ _) rfl ?_
    exact ⟨rfl, HB3.out.trans ((heap1 w3 _).2.2.mono HB3.out.size)⟩
   ·rw [HNN1.out n1] at HN1
    clear n1
    go_enter Tryz.func77, Tryz.ntmps77
    go_wp2_with fail
    refine HN1.out.mono ?_
    rintro e w1 ⟨rfl, hb1⟩
    have HB2b := hide (hb1.trans ((heap1 w1 (natO 0 0)).2.2.mono hb1.size))
    clear hb1
    go_wp2_with fail
    refine (HR1.out _ (Nat.le_trans hB HB2b.out.size) (HT.out.on HB2b.out hB)).mono ?_
    rintro e w3 ⟨rfl, hb3⟩
    have HB3 := hide (HB2b.out.trans (hb3.mono HB2b.out.size))
    clear hb3
    go_wp2_with fail
    refine bodyPost_ret (results_tmp2 rfl _ _ _) rfl ?_
    exact ⟨rfl, HB3.out.trans ((heap1 w3 _).2.2.mono HB3.out.size)⟩
  ·rw [e1, e2]
   rw [zj h1] at HR1
   rw [ja h2] at HR2
   have hne : (chkQ t.data.toList != 0) = true := by simpa using h2
   obtain ⟨E, hE⟩ := xe (chkQ t.data.toList)
   rw [← hE] at HR2 hne ⊢
   obtain ⟨n, hn⟩ := xe (strB (Lib.itoa (valQ s.data.toList).num))
   obtain ⟨d, hd⟩ := xe (strB (Lib.itoa ((valQ s.data.toList).den : Int)))
   rw [← hn, ← hd] at HR1
   clear hE h1 h2 e1 e2 hq hT hn hd
   rcases hway with ⟨n1, n2⟩ | n1
   ·rw [HY1.out n1] at HN1
    rw [HNN2.out n2] at HN2
    clear n1 n2
    obtain ⟨x, hx⟩ := xe ((valQ s.data.toList).num)
    obtain ⟨p, hp⟩ := xe (((valQ s.data.toList).den : Int))
    rw [← hx, ← hp] at HN1
    clear hx hp
    go_enter Tryz.func77, Tryz.ntmps77
    go_wp2_with fail
    refine HN1.out.mono ?_
    rintro e w1 ⟨rfl, hb1⟩
    have HB1 := hide (hb1.trans ((heap1 w1 (natO x p)).2.2.mono hb1.size))
    clear hb1
    go_wp2_with fail
    refine (HN2.out _).mono ?_
    rintro e w2 ⟨rfl, hb2⟩
    have HB2 := bt HB1 hb2
    have HB2b := hide (HB2.out.trans ((heap1 w2 (natO 0 0)).2.2.mono HB2.out.size))
    clear hb2
    go_wp2_with fail
    refine (HR1.out _ (Nat.le_trans hB HB2b.out.size) (HT.out.on HB2b.out hB)).mono ?_
    rintro e w3 ⟨rfl, hb3⟩
    have HB3 := hide (HB2b.out.trans (hb3.mono HB2b.out.size))
    have X3 := hide (heap1 w3 (partsO n d))
    have HB3b := hide (HB3.out.trans (X3.out.2.2.mono HB3.out.size))
    clear hb3
    go_wp2_with fail
    refine (HR2.out _ (Nat.le_trans hB HB3b.out.size) (HT.out.on HB3b.out hB)).mono ?_
    rintro e w4 ⟨rfl, hb4⟩
    have G4 := hide (yc hb4 X3.out.1 (yd X3.out.1))
    have HB4 := hide (HB3b.out.trans (hb4.mono HB3b.out.size))
    clear hb4
    go_wp2_with fail
    refine bodyPost_ret (results_tmp2 rfl _ _ _) rfl ?_
    exact ⟨rfl, HB4.out.trans ((heap1 w4 _).2.2.mono HB4.out.size)⟩
   ·rw [HNN1.out n1] at HN1
    clear n1
    go_enter Tryz.func77, Tryz.ntmps77
    go_wp2_with fail
    refine HN1.out.mono ?_
    rintro e w1 ⟨rfl, hb1⟩
    have HB2b := hide (hb1.trans ((heap1 w1 (natO 0 0)).2.2.mono hb1.size))
    clear hb1
    go_wp2_with fail
    refine (HR1.out _ (Nat.le_trans hB HB2b.out.size) (HT.out.on HB2b.out hB)).mono ?_
    rintro e w3 ⟨rfl, hb3⟩
    have HB3 := hide (HB2b.out.trans (hb3.mono HB2b.out.size))
    have X3 := hide (heap1 w3 (partsO n d))
    have HB3b := hide (HB3.out.trans (X3.out.2.2.mono HB3.out.size))
    clear hb3
    go_wp2_with fail
    refine (HR2.out _ (Nat.le_trans hB HB3b.out.size) (HT.out.on HB3b.out hB)).mono ?_
    rintro e w4 ⟨rfl, hb4⟩
    have G4 := hide (yc hb4 X3.out.1 (yd X3.out.1))
    have HB4 := hide (HB3b.out.trans (hb4.mono HB3b.out.size))
    clear hb4
    go_wp2_with fail
    refine bodyPost_ret (results_tmp2 rfl _ _ _) rfl ?_
    exact ⟨rfl, HB4.out.trans ((heap1 w4 _).2.2.mono HB4.out.size)⟩
  ·rw [e1, e2]
   rw [zj h1] at HR1
   rw [zj h2] at HR2
   have HC := hide (fun w hB hT => xZ (xV h1 h2) h3 B w hB hT)
   obtain ⟨n, hn⟩ := xe (strB (Lib.itoa (valQ s.data.toList).num))
   obtain ⟨d, hd⟩ := xe (strB (Lib.itoa ((valQ s.data.toList).den : Int)))
   obtain ⟨m, hm⟩ := xe (strB (Lib.itoa (valQ t.data.toList).num))
   obtain ⟨c, hc⟩ := xe (strB (Lib.itoa ((valQ t.data.toList).den : Int)))
   rw [← hn, ← hd] at HR1 HC
   rw [← hm, ← hc] at HR2 HC
   clear h1 h2 h3 e1 e2 hq hT hn hd hm hc
   rcases hway with ⟨n1, n2⟩ | n1
   ·rw [HY1.out n1] at HN1
    rw [HNN2.out n2] at HN2
    clear n1 n2
    obtain ⟨x, hx⟩ := xe ((valQ s.data.toList).num)
    obtain ⟨p, hp⟩ := xe (((valQ s.data.toList).den : Int))
    rw [← hx, ← hp] at HN1
    clear hx hp
    go_enter Tryz.func77, Tryz.ntmps77
    go_wp2_with fail
    refine HN1.out.mono ?_
    rintro e w1 ⟨rfl, hb1⟩
    have HB1 := hide (hb1.trans ((heap1 w1 (natO x p)).2.2.mono hb1.size))
    clear hb1
    go_wp2_with fail
    refine (HN2.out _).mono ?_
    rintro e w2 ⟨rfl, hb2⟩
    have HB2 := bt HB1 hb2
    have HB2b := hide (HB2.out.trans ((heap1 w2 (natO 0 0)).2.2.mono HB2.out.size))
    clear hb2
    go_wp2_with fail
    refine (HR1.out _ (Nat.le_trans hB HB2b.out.size) (HT.out.on HB2b.out hB)).mono ?_
    rintro e w3 ⟨rfl, hb3⟩
    have HB3 := hide (HB2b.out.trans (hb3.mono HB2b.out.size))
    have X3 := hide (heap1 w3 (partsO n d))
    have HB3b := hide (HB3.out.trans (X3.out.2.2.mono HB3.out.size))
    clear hb3
    go_wp2_with fail
    refine (HR2.out _ (Nat.le_trans hB HB3b.out.size) (HT.out.on HB3b.out hB)).mono ?_
    rintro e w4 ⟨rfl, hb4⟩
    have G4 := hide (yc hb4 X3.out.1 (yd X3.out.1))
    have HB4 := hide (HB3b.out.trans (hb4.mono HB3b.out.size))
    clear hb4
    have X4 := hide (heap1 w4 (partsO m c))
    have HB4b := hide (HB4.out.trans (X4.out.2.2.mono HB4.out.size))
    have c0 := ya G4.out 0
    have c1 := ya G4.out 1
    have hl := yd G4.out
    go_wp2_with fail
    refine (HC.out _ (Nat.le_trans hB HB4b.out.size) (HT.out.p10.on HB4b.out hB)).mono ?_
    rintro e w5 ⟨u, v, rfl, hb5⟩
    have HB5 := hide (HB4b.out.trans (hb5.mono HB4b.out.size))
    clear hb5
    go_wp2_with fail
    refine bodyPost_ret (results_tmp2 rfl _ _ _) rfl ?_
    exact ⟨rfl, HB5.out⟩
   ·rw [HNN1.out n1] at HN1
    clear n1
    go_enter Tryz.func77, Tryz.ntmps77
    go_wp2_with fail
    refine HN1.out.mono ?_
    rintro e w1 ⟨rfl, hb1⟩
    have HB2b := hide (hb1.trans ((heap1 w1 (natO 0 0)).2.2.mono hb1.size))
    clear hb1
    go_wp2_with fail
    refine (HR1.out _ (Nat.le_trans hB HB2b.out.size) (HT.out.on HB2b.out hB)).mono ?_
    rintro e w3 ⟨rfl, hb3⟩
    have HB3 := hide (HB2b.out.trans (hb3.mono HB2b.out.size))
    have X3 := hide (heap1 w3 (partsO n d))
    have HB3b := hide (HB3.out.trans (X3.out.2.2.mono HB3.out.size))
    clear hb3
    go_wp2_with fail
    refine (HR2.out _ (Nat.le_trans hB HB3b.out.size) (HT.out.on HB3b.out hB)).mono ?_
    rintro e w4 ⟨rfl, hb4⟩
    have G4 := hide (yc hb4 X3.out.1 (yd X3.out.1))
    have HB4 := hide (HB3b.out.trans (hb4.mono HB3b.out.size))
    clear hb4
    have X4 := hide (heap1 w4 (partsO m c))
    have HB4b := hide (HB4.out.trans (X4.out.2.2.mono HB4.out.size))
    have c0 := ya G4.out 0
    have c1 := ya G4.out 1
    have hl := yd G4.out
    go_wp2_with fail
    refine (HC.out _ (Nat.le_trans hB HB4b.out.size) (HT.out.p10.on HB4b.out hB)).mono ?_
    rintro e w5 ⟨u, v, rfl, hb5⟩
    have HB5 := hide (HB4b.out.trans (hb5.mono HB4b.out.size))
    clear hb5
    go_wp2_with fail
    refine bodyPost_ret (results_tmp2 rfl _ _ _) rfl ?_
    exact ⟨rfl, HB5.out⟩
  ·rw [e1, e2]
   rw [zj h1] at HR1
   rw [zj h2] at HR2
   have HC := hide (fun w hB hT => vU (xV h1 h2) h3.1 h3.2 B w hB hT)
   unfold cmpI
   have HI := hide (fun w => ycP (s := strB (Lib.itoa ((valQ s.data.toList).num * ((valQ t.data.toList).den : Int)))) (t := strB (Lib.itoa ((valQ t.data.toList).num * ((valQ s.data.toList).den : Int)))) (yh _) (yh _) h3.1 h3.2 w)
   obtain ⟨n, hn⟩ := xe (strB (Lib.itoa (valQ s.data.toList).num))
   obtain ⟨d, hd⟩ := xe (strB (Lib.itoa ((valQ s.data.toList).den : Int)))
   obtain ⟨m, hm⟩ := xe (strB (Lib.itoa (valQ t.data.toList).num))
   obtain ⟨c, hc⟩ := xe (strB (Lib.itoa ((valQ t.data.toList).den : Int)))
   rw [← hn, ← hd] at HR1 HC
   rw [← hm, ← hc] at HR2 HC
   obtain ⟨U, hU⟩ := xe (strB (Lib.itoa ((valQ s.data.toList).num * ((valQ t.data.toList).den : Int))))
   obtain ⟨V, hV⟩ := xe (strB (Lib.itoa ((valQ t.data.toList).num * ((valQ s.data.toList).den : Int))))
   rw [← hU, ← hV] at HC HI
   obtain ⟨K, hK⟩ := xe (Lib.compareInt ((valQ s.data.toList).num * ((valQ t.data.toList).den : Int)) ((valQ t.data.toList).num * ((valQ s.data.toList).den : Int)))
   rw [← hK] at HI ⊢
   clear h1 h2 h3 e1 e2 hq hT hn hd hm hc hU hV hK
   rcases hway with ⟨n1, n2⟩ | n1
   ·rw [HY1.out n1] at HN1
    rw [HNN2.out n2] at HN2
    clear n1 n2
    obtain ⟨x, hx⟩ := xe ((valQ s.data.toList).num)
    obtain ⟨p, hp⟩ := xe (((valQ s.data.toList).den : Int))
    rw [← hx, ← hp] at HN1
    clear hx hp
    go_enter Tryz.func77, Tryz.ntmps77
    go_wp2_with fail
    refine HN1.out.mono ?_
    rintro e w1 ⟨rfl, hb1⟩
    have HB1 := hide (hb1.trans ((heap1 w1 (natO x p)).2.2.mono hb1.size))
    clear hb1
    go_wp2_with fail
    refine (HN2.out _).mono ?_
    rintro e w2 ⟨rfl, hb2⟩
    have HB2 := bt HB1 hb2
    have HB2b := hide (HB2.out.trans ((heap1 w2 (natO 0 0)).2.2.mono HB2.out.size))
    clear hb2
    go_wp2_with fail
    refine (HR1.out _ (Nat.le_trans hB HB2b.out.size) (HT.out.on HB2b.out hB)).mono ?_
    rintro e w3 ⟨rfl, hb3⟩
    have HB3 := hide (HB2b.out.trans (hb3.mono HB2b.out.size))
    have X3 := hide (heap1 w3 (partsO n d))
    have HB3b := hide (HB3.out.trans (X3.out.2.2.mono HB3.out.size))
    clear hb3
    go_wp2_with fail
    refine (HR2.out _ (Nat.le_trans hB HB3b.out.size) (HT.out.on HB3b.out hB)).mono ?_
    rintro e w4 ⟨rfl, hb4⟩
    have G4 := hide (yc hb4 X3.out.1 (yd X3.out.1))
    have HB4 := hide (HB3b.out.trans (hb4.mono HB3b.out.size))
    clear hb4
    have X4 := hide (heap1 w4 (partsO m c))
    have HB4b := hide (HB4.out.trans (X4.out.2.2.mono HB4.out.size))
    have c0 := ya G4.out 0
    have c1 := ya G4.out 1
    have hl := yd G4.out
    go_wp2_with fail
    refine (HC.out _ (Nat.le_trans hB HB4b.out.size) (HT.out.p10.on HB4b.out hB)).mono ?_
    rintro e w5 ⟨rfl, hb5⟩
    have HB5 := hide (HB4b.out.trans (hb5.mono HB4b.out.size))
    clear hb5
    go_wp2_with fail
    refine (HI.out _).mono ?_
    rintro e w6 ⟨rfl, hb6⟩
    have HB6 := bt HB5 hb6
    clear hb6
    go_wp2_with fail
    refine bodyPost_ret (results_tmp2 rfl _ _ _) rfl ?_
    exact ⟨rfl, HB6.out⟩
   ·rw [HNN1.out n1] at HN1
    clear n1
    go_enter Tryz.func77, Tryz.ntmps77
    go_wp2_with fail
    refine HN1.out.mono ?_
    rintro e w1 ⟨rfl, hb1⟩
    have HB2b := hide (hb1.trans ((heap1 w1 (natO 0 0)).2.2.mono hb1.size))
    clear hb1
    go_wp2_with fail
    refine (HR1.out _ (Nat.le_trans hB HB2b.out.size) (HT.out.on HB2b.out hB)).mono ?_
    rintro e w3 ⟨rfl, hb3⟩
    have HB3 := hide (HB2b.out.trans (hb3.mono HB2b.out.size))
    have X3 := hide (heap1 w3 (partsO n d))
    have HB3b := hide (HB3.out.trans (X3.out.2.2.mono HB3.out.size))
    clear hb3
    go_wp2_with fail
    refine (HR2.out _ (Nat.le_trans hB HB3b.out.size) (HT.out.on HB3b.out hB)).mono ?_
    rintro e w4 ⟨rfl, hb4⟩
    have G4 := hide (yc hb4 X3.out.1 (yd X3.out.1))
    have HB4 := hide (HB3b.out.trans (hb4.mono HB3b.out.size))
    clear hb4
    have X4 := hide (heap1 w4 (partsO m c))
    have HB4b := hide (HB4.out.trans (X4.out.2.2.mono HB4.out.size))
    have c0 := ya G4.out 0
    have c1 := ya G4.out 1
    have hl := yd G4.out
    go_wp2_with fail
    refine (HC.out _ (Nat.le_trans hB HB4b.out.size) (HT.out.p10.on HB4b.out hB)).mono ?_
    rintro e w5 ⟨rfl, hb5⟩
    have HB5 := hide (HB4b.out.trans (hb5.mono HB4b.out.size))
    clear hb5
    go_wp2_with fail
    refine (HI.out _).mono ?_
    rintro e w6 ⟨rfl, hb6⟩
    have HB6 := bt HB5 hb6
    clear hb6
    go_wp2_with fail
    refine bodyPost_ret (results_tmp2 rfl _ _ _) rfl ?_
    exact ⟨rfl, HB6.out⟩

theorem yem {x : Rat} (h : fitsQ x) : (ratS x).length ≤ 1000 := by
 have h1 := yei x.num
 have h2 := zb.1 h.1
 have h3 := qm.1 h.2
 unfold ratS
 split
 ·omega
 ·rw [List.length_append, List.length_cons]
  omega
theorem kP {s : ByteArray} {x : Rat} (h : s.data.toList = ratS x) (f : fitsQ x) : s.size ≤ 1000000 := by
 have := yem f
 rw [← yg, h]
 omega
theorem kZ {s : ByteArray} {x : Rat} (h : s.data.toList = ratS x) (f : fitsQ x) : chkQ s.data.toList = 0 ∧ valQ s.data.toList = x := by
 rw [h, vD]
 exact ⟨xn f, rfl⟩
theorem yhX {s t : ByteArray} {x y : Rat} (h1 : s.data.toList = ratS x) (h2 : t.data.toList = ratS y) (f1 : fitsQ x) (f2 : fitsQ y) (hy : y ≠ 0) (hc : cmpC x y) (B : Nat) (w : World) (hB : B ≤ w.heap.size) (hT : PQ B w) :
 Calls Tryz.prog 149 #[.string s, .string t] w (Ret w (.tuple #[.string (strB (ratS (x / y))), .int .i64 0])) := by
 obtain ⟨a1, a2⟩ := kZ h1 f1
 obtain ⟨b1, b2⟩ := kZ h2 f2
 have h := yhp s t (kP h1 f1) (kP h2 f2) B w hB hT
 unfold divS divE at h
 rw [if_pos (yS a1 b1), if_pos (yS a1 b1), a2, b2, if_neg hy, if_neg hy, if_pos hc, if_pos hc] at h
 exact h
theorem yhR {s t : ByteArray} {x y : Rat} (h1 : s.data.toList = ratS x) (h2 : t.data.toList = ratS y) (f1 : fitsQ x) (f2 : fitsQ y) (hc : cmpC x y) (B : Nat) (w : World) (hB : B ≤ w.heap.size) (hT : PQ B w) :
 Calls Tryz.prog 77 #[.string s, .string t] w (Ret w (.tuple #[.int .i64 (if x < y then -1 else if y < x then 1 else 0), .int .i64 0])) := by
 obtain ⟨a1, a2⟩ := kZ h1 f1
 obtain ⟨b1, b2⟩ := kZ h2 f2
 have h := ybY s t (kP h1 f1) (kP h2 f2) B w hB hT
 unfold cmpN cmpE cmpI at h
 rw [if_pos (yS a1 b1), if_pos (yS a1 b1), a2, b2, if_pos hc, if_pos hc, cmpQ] at h
 exact h
end Go.Proofs.YtklgpilgalfckaaGreatDoor
namespace Go.KI
open Go

structure V3 where
 x : Rat
 y : Rat
 z : Rat
theorem V3.ext {a b : V3} (h1 : a.x = b.x) (h2 : a.y = b.y) (h3 : a.z = b.z) : a = b := by
 cases a
 cases b
 cases h1
 cases h2
 cases h3
 rfl
theorem V3.eq_iff {a b : V3} : a = b ↔ (a.x = b.x ∧ a.y = b.y ∧ a.z = b.z) := ⟨fun h => by rw [h]; exact ⟨rfl, rfl, rfl⟩, fun h => V3.ext h.1 h.2.1 h.2.2⟩
instance : DecidableEq V3 := fun _ _ => decidable_of_iff _ V3.eq_iff.symm
def vmul (a b : V3) : V3 := ⟨a.x * b.x, a.y * b.y, a.z * b.z⟩
def vdot (a b : V3) : Rat := a.x * b.x + a.y * b.y + a.z * b.z
def vcross (a b : V3) : V3 := ⟨a.y * b.z - a.z * b.y, a.z * b.x - a.x * b.z, a.x * b.y - a.y * b.x⟩
def szV (p : Nat) (a : V3) : Prop := sz p a.x ∧ sz p a.y ∧ sz p a.z
def fitsV (a : V3) : Prop := fitsQ a.x ∧ fitsQ a.y ∧ fitsQ a.z
theorem vk {p : Nat} {a : V3} (h : szV p a) (hp : p ≤ most) : fitsV a := ⟨jI h.1 hp, jI h.2.1 hp, jI h.2.2 hp⟩
theorem yhW {p q : Nat} {a b : V3} (ha : szV p a) (hb : szV q b) : szV (p + q) (vmul a b) := ⟨yad ha.1 hb.1, yad ha.2.1 hb.2.1, yad ha.2.2 hb.2.2⟩
def addO (x y : Rat) : Option Rat := if addC x y then some (x + y) else none
def subO (x y : Rat) : Option Rat := if subC x y then some (x - y) else none
def mulO (x y : Rat) : Option Rat := if mulC x y then some (x * y) else none
theorem vW {n d : Int} (hd : 0 < d) (fn : fits n) (fd : fits d) : fitsQ (Rat.divInt n d) := by
 obtain ⟨h1, h2⟩ := jR n hd
 refine ⟨?_, ?_⟩
 ·rw [h1]
  exact yi fn (Int.natAbs_ediv_le_natAbs _ _)
 ·rw [h2]
  exact yi fd (Int.natAbs_ediv_le_natAbs _ _)
theorem yfW {x y : Rat} (h : addC x y) : fitsQ (x + y) := by
 rw [← qu]
 exact vW (jX x y) h.2.2.1 h.2.2.2
theorem yft {x y : Rat} (h : mulC x y) : fitsQ (x * y) := by
 rw [← qy]
 exact vW (jX x y) h.1 h.2
theorem xr {x y z : Rat} (h : addO x y = some z) : z = x + y ∧ fitsQ z := by
 unfold addO at h
 split at h
 ·next c => cases h; exact ⟨rfl, yfW c⟩
 ·cases h
theorem yY {x y z : Rat} (h : mulO x y = some z) : z = x * y ∧ fitsQ z := by
 unfold mulO at h
 split at h
 ·next c => cases h; exact ⟨rfl, yft c⟩
 ·cases h
def all3 : Option Rat → Option Rat → Option Rat → Option V3
 |some x, some y, some z => some ⟨x, y, z⟩
 | _, _, _ => none
def vec2O (f : Rat → Rat → Option Rat) (a b : V3) : Option V3 := all3 (f a.x b.x) (f a.y b.y) (f a.z b.z)
def sum3O (p : V3) : Option Rat := (addO p.x p.y).bind fun s => addO s p.z
def dotO (a b : V3) : Option Rat := (vec2O mulO a b).bind sum3O
def minorO (a b c d : Rat) : Option Rat := (mulO a d).bind fun p => (mulO b c).bind fun q => subO p q
def crossO (a b : V3) : Option V3 := all3 (minorO a.y a.z b.y b.z) (minorO a.z a.x b.z b.x) (minorO a.x a.y b.x b.y)
theorem ygn {a b c : Option Rat} {v : V3} (h : all3 a b c = some v) : a = some v.x ∧ b = some v.y ∧ c = some v.z := by
 cases a with
 |none => cases h
 |some x =>
  cases b with
  |none => cases h
  |some y =>
   cases c with
   |none => cases h
   |some z => cases h; exact ⟨rfl, rfl, rfl⟩
theorem ybZ {a b v : V3} (h : vec2O mulO a b = some v) : v = vmul a b ∧ fitsV v := by
 obtain ⟨h1, h2, h3⟩ := ygn h
 obtain ⟨e1, f1⟩ := yY h1
 obtain ⟨e2, f2⟩ := yY h2
 obtain ⟨e3, f3⟩ := yY h3
 exact ⟨V3.ext e1 e2 e3, f1, f2, f3⟩
theorem yaT {α β : Type} {o : Option α} {f : α → Option β} {b : β} (h : o.bind f = some b) : ∃ a, o = some a ∧ f a = some b := by
 cases o with
 |none => cases h
 |some a => exact ⟨a, rfl, h⟩
theorem yd6 {a b : V3} {r : Rat} (h : dotO a b = some r) : r = vdot a b ∧ fitsQ r := by
 obtain ⟨p, h1, h2⟩ := yaT h
 obtain ⟨e1, _⟩ := ybZ h1
 obtain ⟨s, h3, h4⟩ := yaT h2
 obtain ⟨e3, _⟩ := xr h3
 obtain ⟨e4, f4⟩ := xr h4
 exact ⟨by rw [e4, e3, e1]; rfl, f4⟩
theorem ydd {p q : Nat} {x y : Rat} (hx : sz p x) (hy : sz q y) (h : p + q + 1 ≤ most) : addO x y = some (x + y) := if_pos (yfK hx hy h)
theorem yh7 {p q : Nat} {x y : Rat} (hx : sz p x) (hy : sz q y) (h : p + q + 1 ≤ most) : subO x y = some (x - y) := if_pos (yfq hx hy h)
theorem xR {p q : Nat} {x y : Rat} (hx : sz p x) (hy : sz q y) (h : p + q ≤ most) : mulO x y = some (x * y) := if_pos (yge hx hy h)
theorem yh8 {p q : Nat} {a b : V3} (ha : szV p a) (hb : szV q b) (h : p + q ≤ most) : vec2O mulO a b = some (vmul a b) := by
 unfold vec2O
 rw [xR ha.1 hb.1 h, xR ha.2.1 hb.2.1 h, xR ha.2.2 hb.2.2 h]
 rfl
theorem yhE {p q : Nat} {a b : V3} (ha : szV p a) (hb : szV q b) (h : p + q + (p + q) + 1 + (p + q) + 1 ≤ most) : dotO a b = some (vdot a b) ∧ sz (p + q + (p + q) + 1 + (p + q) + 1) (vdot a b) := by
 unfold dotO
 rw [yh8 ha hb (by omega)]
 obtain ⟨m1, m2, m3⟩ := yhW ha hb
 have s1 := yhH m1 m2
 show sum3O (vmul a b) = _ ∧ _
 unfold sum3O
 rw [ydd m1 m2 (by omega)]
 rw [Option.bind_some]
 rw [ydd s1 m3 (by omega)]
 exact ⟨rfl, yhH s1 m3⟩
theorem ybI {p q : Nat} {a b c d : Rat} (ha : sz p a) (hb : sz p b) (hc : sz q c) (hd : sz q d) (h : p + q + (p + q) + 1 ≤ most) : minorO a b c d = some (a * d - b * c) ∧ sz (p + q + (p + q) + 1) (a * d - b * c) := by
 unfold minorO
 rw [xR ha hd (by omega)]
 show (Option.bind (mulO b c) fun q => subO (a * d) q) = _ ∧ _
 rw [xR hb hc (by omega)]
 show subO _ _ = _ ∧ _
 rw [yh7 (yad ha hd) (yad hb hc) h]
 exact ⟨rfl, yip (yad ha hd) (yad hb hc)⟩
theorem yg2 {p q : Nat} {a b : V3} (ha : szV p a) (hb : szV q b) (h : p + q + (p + q) + 1 ≤ most) : crossO a b = some (vcross a b) ∧ szV (p + q + (p + q) + 1) (vcross a b) := by
 obtain ⟨e1, s1⟩ := ybI ha.2.1 ha.2.2 hb.2.1 hb.2.2 h
 obtain ⟨e2, s2⟩ := ybI ha.2.2 ha.1 hb.2.2 hb.1 h
 obtain ⟨e3, s3⟩ := ybI ha.1 ha.2.1 hb.1 hb.2.1 h
 unfold crossO
 rw [e1, e2, e3]
 exact ⟨rfl, s1, s2, s3⟩
def cmpR (x y : Rat) : Int := if x < y then -1 else if y < x then 1 else 0
def vcmp (a b : V3) : Int := if cmpR a.x b.x ≠ 0 then cmpR a.x b.x else if cmpR a.y b.y ≠ 0 then cmpR a.y b.y else cmpR a.z b.z

def vzero : V3 := ⟨0, 0, 0⟩
theorem sq_nonneg (x : Rat) : 0 ≤ x * x := by
 rcases Rat.le_total (a := 0) (b := x) with h | h
 ·exact Rat.mul_nonneg h h
 ·have h2 : 0 ≤ -x := by grind
  have h3 := Rat.mul_nonneg h2 h2
  grind
theorem ydv {x : Rat} (h : x * x = 0) : x = 0 := by
 rcases Rat.mul_eq_zero.1 h with h | h <;> exact h
theorem ygb (a : V3) : 0 ≤ vdot a a ∧ (vdot a a = 0 ↔ a = vzero) := by
 have h1 := sq_nonneg a.x
 have h2 := sq_nonneg a.y
 have h3 := sq_nonneg a.z
 unfold vdot
 refine ⟨by grind, fun h => ?_, fun h => by rw [h]; simp only [vzero, Rat.mul_zero, Rat.add_zero]⟩
 have e1 : a.x * a.x = 0 := by grind
 have e2 : a.y * a.y = 0 := by grind
 have e3 : a.z * a.z = 0 := by grind
 exact V3.ext (ydv e1) (ydv e2) (ydv e3)
end Go.KI
namespace Go.Proofs.YtklgpilgalfckaaGreatDoor
open Go.RowKit Go.KP Go.KI Go.Shelf
attribute [local go_sem] Oper.semAt_some

def T (q : Rat) : ByteArray := strB (ratS q)
theorem yI (q : Rat) : (T q).data.toList = ratS q := yh _
theorem T_of {s : ByteArray} {q : Rat} (h : s.data.toList = ratS q) : s = T q := yp (by rw [h, yI])
theorem yeR {p q : Rat} (h : T p = T q) : p = q := xz (by rw [← yI, h, yI])
theorem yih (p q : Rat) : ((T p).toList == (T q).toList) = decide (p = q) := by
 rw [ByteArray.toList_eq, ByteArray.toList_eq, yI, yI]
 by_cases h : p = q
 ·rw [h]
  simp
 ·rw [decide_eq_false h]
  exact beq_false_of_ne fun e => h (xz e)
theorem yhz {q : Rat} (h : fitsQ q) : (T q).size ≤ 1000 := by
 rw [← yg, yI]
 exact yem h
theorem T0 : T 0 = ⟨#[48]⟩ := by
 apply yp
 rw [yI, show (0 : Rat) = ((0 : Int) : Rat) from rfl, jW]
 show Lib.itoa ((0 : Nat) : Int) = _
 rw [Lib.itoa_nonneg, zP]
def ResO (w : World) (o : Option Rat) (e : Ending) (w' : World) : Prop := (∃ v, o = some v ∧ Ret w (.tuple #[.string (T v), .int .i64 0]) e w') ∨ (o = none ∧ Ret w (.tuple #[.string ⟨#[]⟩, .int .i64 4]) e w')
theorem ResO.of {w : World} {o : Option Rat} {x : Rat} (h : o = some x) {e : Ending} {w' : World} (hr : ResO w o e w') : Ret w (.tuple #[.string (T x), .int .i64 0]) e w' := by
 rcases hr with ⟨v, h1, h2⟩ | ⟨h1, _⟩
 ·rw [h] at h1
  cases h1
  exact h2
 ·rw [h] at h1
  cases h1
structure BinFn (g : Nat) (F : Rat → Rat → Option Rat) : Prop where
 enters : ∀ args w, (callFunc g args).run Tryz.prog w = .ok (.enter g args) w
 calls : ∀ (x y : Rat) (B : Nat) (w : World), fitsQ x → fitsQ y → B ≤ w.heap.size → PQ B w → Calls Tryz.prog g #[.string (T x), .string (T y)] w (ResO w (F x y))
theorem yW {x : Rat} (f : fitsQ x) : (T x).size ≤ 1000000 ∧ chkQ (T x).data.toList = 0 ∧ valQ (T x).data.toList = x := by
 have := yhz f
 rw [yI, vD]
 exact ⟨by omega, xn f, rfl⟩
theorem ydr (C : Rat → Rat → Prop) [∀ x y, Decidable (C x y)] (f : Rat → Rat → Rat) (F : Rat → Rat → Option Rat) (hF : ∀ x y, F x y = if C x y then some (f x y) else none) {x y : Rat} (hx : fitsQ x) (hy : fitsQ y) {w w' : World} {e : Ending}
 (h : Ret w (pairV (qopS C f (T x).data.toList (T y).data.toList) (qopE C (T x).data.toList (T y).data.toList)) e w') : ResO w (F x y) e w' := by
 obtain ⟨_, a1, a2⟩ := yW hx
 obtain ⟨_, b1, b2⟩ := yW hy
 unfold qopS qopE at h
 rw [if_pos (yS a1 b1), if_pos (yS a1 b1), a2, b2] at h
 rw [hF]
 by_cases hc : C x y
 ·rw [if_pos hc, if_pos hc] at h
  rw [if_pos hc]
  exact .inl ⟨_, rfl, h⟩
 ·rw [if_neg hc, if_neg hc] at h
  rw [if_neg hc]
  exact .inr ⟨rfl, h⟩
theorem yhB {x y : Rat} (hx : fitsQ x) (hy : fitsQ y) (B : Nat) (w : World) (hB : B ≤ w.heap.size) (hT : PQ B w) :
 Calls Tryz.prog 80 #[.string (T x), .string (T y)] w (ResO w (addO x y)) :=
 (ygA _ _ (yW hx).1 (yW hy).1 B w hB hT).mono fun _ _ h => ydr addC (· + ·) addO (fun _ _ => rfl) hx hy h
theorem ygo {x y : Rat} (hx : fitsQ x) (hy : fitsQ y) (B : Nat) (w : World) (hB : B ≤ w.heap.size) (hT : PQ B w) :
 Calls Tryz.prog 62 #[.string (T x), .string (T y)] w (ResO w (subO x y)) :=
 (yhh _ _ (yW hx).1 (yW hy).1 B w hB hT).mono fun _ _ h => ydr subC (· - ·) subO (fun _ _ => rfl) hx hy h
theorem wF {x y : Rat} (hx : fitsQ x) (hy : fitsQ y) (B : Nat) (w : World) (hB : B ≤ w.heap.size) (hT : PQ B w) :
 Calls Tryz.prog 79 #[.string (T x), .string (T y)] w (ResO w (mulO x y)) :=
 (ygJ _ _ (yW hx).1 (yW hy).1 B w hB hT).mono fun _ _ h => ydr mulC (· * ·) mulO (fun _ _ => rfl) hx hy h
theorem mulB : BinFn 79 mulO := ⟨enters_of Tryz.func79 (by kernel_rfl) rfl, fun _ _ B w hx hy hB hT => wF hx hy B w hB hT⟩
theorem ygh {x y : Rat} (hx : fitsQ x) (hy : fitsQ y) (hc : cmpC x y) (B : Nat) (w : World) (hB : B ≤ w.heap.size) (hT : PQ B w) :
 Calls Tryz.prog 77 #[.string (T x), .string (T y)] w (Ret w (.tuple #[.int .i64 (cmpR x y), .int .i64 0])) :=
 yhR (yI x) (yI y) hx hy hc B w hB hT
end Go.Proofs.YtklgpilgalfckaaGreatDoor
namespace Go.KP
open Go
theorem zL {P : Program} {C : World → Prop} {id : Nat} {Q : Exit → Act → World → Prop} {a : Act} {w : World} {l : List Oper} (hm : P.follows .mixedOrders = true) (hno : Region.noSelect l.toArray = true)
 (hlex : Region.lexFrom .any l.toArray l.length 0 (Array.replicate l.length false) = true) (hC : C { w with drawn := w.drawn + 1 })
 (h : wpQuiet P l.toArray C (fun a' => ∀ w', C w' → Q .normal a' w') l a) : (Code.region id l.toArray true).wp P Q a w := by
 refine wp_region_any hm ?_
 have h1 := wpAnyQ_lex (P := P) (C := C) (md := .any) hno l 0 (Array.replicate l.length false) a (by simp) hlex h
 have e : l.toArray.size = l.length := by simp
 rw [e]
 exact wpAny_of_quiet (C := C) (Q := fun a' => ∀ w', C w' → Q .normal a' w') (fun _ w' hw h => h w' hw) _ _ _ _ hC h1
end Go.KP
namespace Go.Proofs.YtklgpilgalfckaaGreatDoor
open Go.RowKit Go.KP Go.KI Go.Shelf
attribute [local go_sem] Oper.semAt_some

abbrev rpairV (n d : ByteArray) : Value := .agg #[.string n, .string d]
abbrev rpairO (n d : ByteArray) : Obj := .cells #[.string n, .string d] 136
def numB (q : Rat) : ByteArray := strB (Lib.itoa q.num)
def denB (q : Rat) : ByteArray := strB (Lib.itoa (q.den : Int))
theorem yet {f : Func} {R : Ending → World → Prop} {a : Act} {W : World} {b : Nat} {t : Tmp} {n d : ByteArray} (hf : f.results = #[.cell t 136]) (hb : W.heap[b]? = some (rpairO n d)) (h2 : a.tmps[t]? = some (.pointer (some ⟨b, 0, none⟩))) (hd : a.defers = []) (hR : R (.returned (rpairV n d)) W) :
 bodyPost Tryz.prog f R .ret a W := by
 have hcell := fun o => ya hb o
 refine bodyPost_ret ?_ hd hR
 simp [results, hf, go_sem, hcell, h2]
theorem yfU {q : Rat} (fq : fitsQ q) (B : Nat) (w : World) (hB : B ≤ w.heap.size) (hT : PQ B w) :
 Calls Tryz.prog 91 #[.string (T q)] w (Ret w (rpairV (numB q) (denB q))) := by
 have HT := hide hT
 have H1 : Hid (∀ w, B ≤ w.heap.size → PQ B w → Calls Tryz.prog 119 #[.string (T q)] w (Ret w (.tuple #[.string (numB q), .string (denB q), .int .i64 0]))) := hide (fun w hB hT => by
  have h := yaP (T q) (yW fq).1 B w hB hT
  obtain ⟨_, g2, g3⟩ := yW fq
  unfold partsR at h
  rw [if_pos g2, g3] at h
  exact h)
 obtain ⟨X, hX⟩ := xe (T q)
 obtain ⟨N, hN⟩ := xe (numB q)
 obtain ⟨D, hD⟩ := xe (denB q)
 rw [← hX, ← hN, ← hD] at H1 ⊢
 clear hX hN hD hT fq
 have X0 := hide (heap1 w (rpairO ⟨#[]⟩ ⟨#[]⟩))
 go_enter Tryz.func91, Tryz.ntmps91
 go_wp2_with fail
 refine (H1.out _ (Nat.le_trans hB X0.out.2.2.size) (HT.out.on X0.out.2.2 hB)).mono ?_
 rintro e w1 ⟨rfl, hb1⟩
 have A1 := hide (yc hb1 X0.out.1 (yd X0.out.1))
 have HB1 := hide (X0.out.2.2.trans (hb1.mono X0.out.2.2.size))
 have a0 := ya A1.out 0
 have a1 := ya A1.out 1
 have f0 := yf A1.out 0
 have f1 := yf A1.out 1
 have al := yd A1.out
 clear hb1
 go_wp2_with fail
 exact yet rfl (set2 A1.out _ _).1 rfl rfl ⟨rfl, (HB1.out.setCell (p := ⟨w.heap.size, 0, none⟩) (Nat.le_refl _) _).setCell (p := ⟨w.heap.size, 1, none⟩) (Nat.le_refl _) _⟩
def NumsAt (w : World) (b : Nat) (l : List Rat) : Prop := b < w.heap.size ∧ ∀ (i : Nat) q, l[i]? = some q → w.cell? ⟨b, i, none⟩ = some (.string (T q))
theorem NumsAt.below {w w2 : World} {b : Nat} {l : List Rat} {n : Nat} (h : NumsAt w b l) (hb : Below n w w2) (hn : b < n) : NumsAt w2 b l :=
 ⟨Nat.lt_of_lt_of_le h.1 hb.size, fun i q hq => by rw [← h.2 i q hq]; exact hb.cell (p := ⟨b, i, none⟩) hn⟩
def roomy (q : Rat) : Prop := fitsQ q ∧ (Lib.decDigits q.num.natAbs).length ≤ 90 ∧ (Lib.decDigits q.den).length ≤ 90
theorem vi {q : Rat} {p : Nat} (h : sz p q) (hp : p ≤ 90) : roomy q := by
 exact ⟨jI h (by rw [yC]; omega), (yn (n := 90) (by omega)).2 (ygd h hp).1, (yn (n := 90) (by omega)).2 (ygd h hp).2⟩
theorem wk (b1 b2 : Nat) (l1 l2 : List Rat) (n1 : l1.length ≤ 1000) (n2 : l2.length ≤ 1000) (h1 : ∀ q ∈ l1, roomy q) (h2 : ∀ q ∈ l2, ¬ q.num < 0) (B : Nat) (w : World) (c1 : NumsAt w b1 l1) (c2 : NumsAt w b2 l2) (hB : B ≤ w.heap.size) (hT : PQ B w) :
 Calls Tryz.prog 90 #[.slice (some ⟨b1, 0, none⟩) l1.length l1.length, .slice (some ⟨b2, 0, none⟩) l2.length l2.length] w (Ret w (.int .i64 0)) := by
 have HT := hide hT
 obtain ⟨n, hn⟩ := xe l1.length
 obtain ⟨m, hm⟩ := xe l2.length
 rw [← hn] at n1 ⊢
 rw [← hm] at n2 ⊢
 have C1 := hide c1
 have C2 := hide c2
 have N1 := hide hn
 have N2 := hide hm
 have R1 := hide h1
 have R2 := hide h2
 clear c1 c2 hn hm h1 h2 hT
 go_enter Tryz.func90, Tryz.ntmps90
 go_wp2_with fail
 go_loopw [13] (fun i wr => ∃ k : Nat, k ≤ n ∧ i = .int .i64 k ∧ Hid (Below w.heap.size w wr)) (fun i _ => n - (intOf i).toNat)
 case atStart => exact ⟨0, Nat.zero_le _, rfl, Below.refl _ _⟩
 case round =>
  obtain ⟨k, hk, rfl, hin⟩ := hrel
  obtain ⟨wo, hwo⟩ := xe wr
  subst hwo
  by_cases hlt : k < n
  ·have hki : (k : Int) < (n : Int) := by omega
   have hk0 : (0 : Int) ≤ (k : Int) := by omega
   obtain ⟨q, hs⟩ : ∃ s, l1[k]? = some s := ⟨_, List.getElem?_eq_getElem (by rw [← N1.out]; exact hlt)⟩
   have hq := R1.out q (List.mem_of_getElem? hs)
   have hcell := (C1.out.below hin.out C1.out.1).2 k q hs
   have HC : Hid (∀ w, B ≤ w.heap.size → PQ B w → Calls Tryz.prog 89 #[.string (T q)] w (Ret w (.int .i64 0))) := hide (fun w hB hT => by
    have h := zW (T q) (yW hq.1).1 B w hB hT
    rw [(yW hq.1).2.1] at h
    exact h)
   have HO := hide (fun w hB hT => yfU hq.1 B w hB hT)
   obtain ⟨D, hD⟩ := xe (denB q)
   obtain ⟨N, hN⟩ := xe (numB q)
   have HTP := hide (fun w => zm N w)
   rw [show N.data.toList = Lib.itoa q.num by rw [hN]; exact yh _, yQ] at HTP
   have hDs : (D.size : Int) ≤ 90 := by
    have := hq.2.2
    rw [hD]
    unfold denB
    rw [yu, Lib.itoa_nonneg]
    omega
   obtain ⟨M, hM⟩ := xe (strB (Lib.decDigits q.num.natAbs))
   have hMs : (M.size : Int) ≤ 90 := by
    have := hq.2.1
    rw [hM, yu]
    omega
   have hmx : ((90 : Int) < max (M.size : Int) (D.size : Int)) = False := eq_false (by omega)
   obtain ⟨X, hX⟩ := xe (T q)
   rw [← hM] at HTP
   rw [← hN, ← hD] at HO
   rw [← hX] at HO HC hcell
   clear hs hq hD hN hM hX hlt
   go_wp2_with fail
   refine (HC.out _ (Nat.le_trans hB hin.out.size) (HT.out.on hin.out hB)).mono ?_
   rintro e w1 ⟨rfl, hb1⟩
   have HB1 := hide (hin.out.trans (hb1.mono hin.out.size))
   clear hb1 hcell
   go_wp2_with fail
   refine (HO.out _ (Nat.le_trans hB HB1.out.size) (HT.out.on HB1.out hB)).mono ?_
   rintro e w2 ⟨rfl, hb2⟩
   have X2 := hide (heap1 w2 (rpairO N D))
   have G2 := hide X2.out.1
   have HB2 := hide (HB1.out.trans ((hb2.trans (X2.out.2.2.mono hb2.size)).mono HB1.out.size))
   clear hb2
   go_wp2_with fail
   obtain ⟨W, hW⟩ := xe (w2.alloc (rpairO N D))
   rw [← hW] at G2 HB2 ⊢
   clear hW X2
   have HTC := hide (fun (x : Of (Below W.heap.size W)) => show Calls Tryz.prog 120 #[.string N, .string ⟨#[45]⟩] x.w fun e w' => e = .returned (.string M) ∧ Cls (Below W.heap.size W) w' from (HTP.out x.w).mono fun _ _ ⟨h, hb⟩ => ⟨h, by rw [← hb]; exact Cls.mk x.h⟩)
   have hx1 : ∀ x : Of (Below W.heap.size W), ∀ o, x.w.cell? ⟨w2.heap.size, o, none⟩ = W.cell? ⟨w2.heap.size, o, none⟩ := fun x o => x.h.cell (p := ⟨w2.heap.size, o, none⟩) (yd G2.out)
   have cc1 := fun o => ya G2.out o
   have kn : Nonempty (Of (Below W.heap.size W)) := ⟨⟨_, Below.refl _ _⟩⟩
   refine zL (C := Cls (Below W.heap.size W)) (by kernel_rfl) (by kernel_rfl) (by kernel_rfl) (Cls.mk (Below.refl _ _).drew) ?_
   repeat (go_big_quiet_step (first | rfl | with_reducible exact HTC.out _))
   refine wpQuiet_nil ?_
   intro w3 hcl
   have HB3 := hide (HB2.out.trans (hcl.out.mono HB2.out.size))
   clear hcl hx1 cc1 HTC kn
   go_wp2_with fail
   go_roundw
   case rel => exact ⟨k + 1, by omega, by simp, HB3.out⟩
   case measure => simp [intOf]; omega
  ·obtain rfl : k = n := by omega
   have hki : ((k : Int) < (k : Int)) = False := eq_false (by omega)
   clear hlt
   go_wp2_with fail
   go_loopw [36] (fun i wr => ∃ k : Nat, k ≤ m ∧ i = .int .i64 k ∧ wr = wo) (fun i _ => m - (intOf i).toNat)
   case atStart => exact ⟨0, Nat.zero_le _, rfl, rfl⟩
   case round =>
    obtain ⟨j, hj, rfl, rfl⟩ := hrel
    by_cases hlt : j < m
    ·have hji : (j : Int) < (m : Int) := by omega
     have hj0 : (0 : Int) ≤ (j : Int) := by omega
     obtain ⟨q, hs⟩ : ∃ s, l2[j]? = some s := ⟨_, List.getElem?_eq_getElem (by rw [← N2.out]; exact hlt)⟩
     have hq := R2.out q (List.mem_of_getElem? hs)
     have hcell := (C2.out.below hin.out C2.out.1).2 j q hs
     have HN := hide (kM (T q) wr)
     have e : ((T q).data.toList.head? == some 45) = false := by
      rw [yI]
      simp only [beq_eq_false_iff_ne, ne_eq]
      exact fun e => by have := qI.1 e; omega
     rw [e] at HN
     clear hs hq e hlt
     go_wp2_with fail
     refine HN.out.mono ?_
     rintro e w1 ⟨rfl, rfl⟩
     go_wp2_with fail
     go_roundw
     case rel => exact ⟨j + 1, by omega, by simp, trivial⟩
     case measure => simp [intOf]; omega
    ·obtain rfl : j = m := by omega
     have hji : ((j : Int) < (j : Int)) = False := eq_false (by omega)
     clear hlt
     go_wp2_with fail
     go_ret
     exact ⟨rfl, hin.out⟩
def normC (q : Rat) : Rat := Rat.divInt (normN (q.num.toNat * q.den)).1 q.den
def normL (q : Rat) : Nat := (normN (q.num.toNat * q.den)).2
theorem ju {q : Rat} (fq : roomy q) (h0 : 0 < q.num) (hs : (numB q).size + (denB q).size ≤ 17) (B : Nat) (w : World) (hB : B ≤ w.heap.size) (hT : PR B w) :
 Calls Tryz.prog 55 #[.string (T q)] w (Ret w (.tuple #[.string (T (normC q)), .string (strB (Lib.itoa (normL q))), .int .i64 0])) := by
 have HT := hide hT
 have X0 := hide (heap2 w (.cells #[.string (T q)] 26) (.cells #[.string (T q)] 26))
 have HC := hide (wk w.heap.size (w.heap.size + 1) [q] [q] (by simp) (by simp) (fun x hx => by simp at hx; rw [hx]; exact fq) (fun x hx => by simp at hx; rw [hx]; omega) B _ ⟨yd X0.out.1, fun i x hx => by
  cases i with
  |zero => simp at hx; rw [← hx]; exact ya X0.out.1 0
  |succ i => simp at hx⟩ ⟨yd X0.out.2.1, fun i x hx => by
  cases i with
  |zero => simp at hx; rw [← hx]; exact ya X0.out.2.1 0
  |succ i => simp at hx⟩ (Nat.le_trans hB X0.out.2.2.2.size) (hT.pq.on X0.out.2.2.2 hB))
 have HO := hide (fun w hB hT => yfU fq.1 B w hB hT)
 have hn : q.num = ((q.num.toNat : Nat) : Int) := by omega
 obtain ⟨n, hnn⟩ := xe q.num.toNat
 obtain ⟨d, hdd⟩ := xe q.den
 have hd0 : 0 < d := by rw [hdd]; exact q.den_pos
 have hn0 : 0 < n := by omega
 obtain ⟨N, hN⟩ := xe (numB q)
 obtain ⟨D, hD⟩ := xe (denB q)
 have eN : N.data.toList = Lib.itoa (n : Int) := by rw [hN]; unfold numB; rw [yh, hn, ← hnn]
 have eD : D.data.toList = Lib.itoa (d : Int) := by rw [hD]; unfold denB; rw [yh, ← hdd]
 rw [← hN, ← hD] at hs HO
 have szN : (Lib.decDigits n).length = N.size := by rw [← yg, eN, Lib.itoa_nonneg]
 have szD : (Lib.decDigits d).length = D.size := by rw [← yg, eD, Lib.itoa_nonneg]
 have p1 := dec_lt n
 have p2 := dec_lt d
 have hprod : n * d < 1000000000000000000 := by
  have h1 : n * d ≤ 10 ^ (Lib.decDigits n).length * 10 ^ (Lib.decDigits d).length := Nat.mul_le_mul (Nat.le_of_lt p1) (Nat.le_of_lt p2)
  rw [← Nat.pow_add] at h1
  have h2 : 10 ^ ((Lib.decDigits n).length + (Lib.decDigits d).length) ≤ 10 ^ 17 := Nat.pow_le_pow_right (by omega) (by omega)
  have h3 : (10 : Nat) ^ 17 = 100000000000000000 := by decide
  omega
 have gN : chkI N.data.toList = 0 ∧ valI N.data.toList = (n : Int) := by rw [eN]; exact ⟨yM (qm.2 (by omega)), ym _⟩
 have gD : chkI D.data.toList = 0 ∧ valI D.data.toList = (d : Int) := by rw [eD]; exact ⟨yM (qm.2 (by omega)), ym _⟩
 have H1 := hide (fun w => vZ N gN.1 (by have := vT d; omega) w)
 have H2 := hide (fun w => vZ D gD.1 (by have := vT n; omega) w)
 rw [gN.2] at H1
 rw [gD.2] at H2
 have HN := hide (fun w hB hT => kp n d hn0 hd0 hprod B w hB hT)
 have eV : T (normC q) = strB (ratS (Rat.divInt (normN (n * d)).1 d)) := by unfold T normC; rw [← hnn, ← hdd]
 have eL : strB (Lib.itoa (normL q)) = strB (Lib.itoa (normN (n * d)).2) := by unfold normL; rw [← hnn, ← hdd]
 rw [eV, eL]
 obtain ⟨V1, hV1⟩ := xe (strB (ratS (Rat.divInt (normN (n * d)).1 d)))
 obtain ⟨V2, hV2⟩ := xe (strB (Lib.itoa (normN (n * d)).2))
 rw [← hV1, ← hV2] at HN ⊢
 have hz : (N.toList == [48]) = false := (zz eN).2 (by
  rw [Lib.itoa_nonneg, ← zP]
  exact fun e => by have := ybl e; omega)
 obtain ⟨X, hX⟩ := xe (T q)
 rw [← hX] at HC HO X0 ⊢
 have hsz : (N.size : Int) + (D.size : Int) ≤ 17 := by omega
 clear eV eL hV1 hV2 gN gD hprod p1 p2 szN szD eN eD hN hD hn hnn hdd hs fq h0 hT hX
 go_enter Tryz.func55, Tryz.ntmps55
 go_wp2_with fail
 refine HC.out.mono ?_
 rintro e w1 ⟨rfl, hb1⟩
 have HB1 := hide (X0.out.2.2.2.trans (hb1.mono X0.out.2.2.2.size))
 clear hb1 HC X0
 go_wp2_with fail
 refine (HO.out _ (Nat.le_trans hB HB1.out.size) (HT.out.on HB1.out hB).pq).mono ?_
 rintro e w2 ⟨rfl, hb2⟩
 have X2 := hide (heap1 w2 (rpairO N D))
 have G2 := hide X2.out.1
 have HB2 := hide (HB1.out.trans ((hb2.trans (X2.out.2.2.mono hb2.size)).mono HB1.out.size))
 clear hb2 X2
 have k0 := ya G2.out 0
 have k1 := ya G2.out 1
 have kl := yd G2.out
 go_wp2_with fail
 refine (H1.out _).mono ?_
 rintro e w3 ⟨rfl, hb3⟩
 have G3 := bh hb3 G2
 have HB3 := bt HB2 hb3
 clear hb3 k0 k1 kl
 have k1 := ya G3.out 1
 have kl := yd G3.out
 go_wp2_with fail
 refine (H2.out _).mono ?_
 rintro e w4 ⟨rfl, hb4⟩
 have HB4 := bt HB3 hb4
 clear hb4 k1 kl
 go_wp2_with fail
 refine (HN.out _ (Nat.le_trans hB HB4.out.size) (HT.out.on HB4.out hB)).mono ?_
 rintro e w5 ⟨rfl, hb5⟩
 have HB5 := bt HB4 hb5
 clear hb5
 go_wp2_with fail
 go_ret3
 exact ⟨rfl, HB5.out⟩

abbrev vecV (a : V3) : Value := .agg #[.string (T a.x), .string (T a.y), .string (T a.z)]
abbrev noV : Value := .agg #[.string ⟨#[]⟩, .string ⟨#[]⟩, .string ⟨#[]⟩]
abbrev vecO (a : V3) : Obj := .cells #[.string (T a.x), .string (T a.y), .string (T a.z)] 28
def ResV (w : World) (o : Option V3) (e : Ending) (w' : World) : Prop := (∃ v, o = some v ∧ Ret w (.tuple #[vecV v, .int .i64 0]) e w') ∨ (o = none ∧ Ret w (.tuple #[noV, .int .i64 4]) e w')
theorem ResV.of {w : World} {o : Option V3} {x : V3} (h : o = some x) {e : Ending} {w' : World} (hr : ResV w o e w') : Ret w (.tuple #[vecV x, .int .i64 0]) e w' := by
 rcases hr with ⟨v, h1, h2⟩ | ⟨h1, _⟩
 ·rw [h] at h1
  cases h1
  exact h2
 ·rw [h] at h1
  cases h1
theorem eqSpot (a b c d e f : ByteArray) (w : World) : (Op.equalIn 10000 28 (.agg #[.string a, .string b, .string c]) (.agg #[.string d, .string e, .string f])).run Tryz.prog w = .ok (a.toList == d.toList && b.toList == e.toList && c.toList == f.toList) w := by
 have hS : Tryz.prog.underlying 28 = some (.struct (Tryz.prog.fieldsOf 28)) := by kernel_rfl
 have hp : Tryz.prog.stoodInHeld 28 = false := by kernel_rfl
 rw [show (10000 : Nat) = 9999 + 1 from rfl, run_equalIn_agg w 9999 28 _ _ hS hp]
 simp only [Program.fieldsOf, Tryz.underlying28]
 go_simp
 by_cases h1 : a.toList = d.toList <;> by_cases h2 : b.toList = e.toList <;> by_cases h3 : c.toList = f.toList <;> simp [*]
theorem ygT (a b : V3) (w : World) : (Op.equalIn 10000 28 (vecV a) (vecV b)).run Tryz.prog w = .ok (decide (a = b)) w := by
 rw [eqSpot, yih, yih, yih]
 congr 1
 by_cases h : a = b
 ·subst h
  simp
 ·rw [decide_eq_false h]
  rw [V3.eq_iff] at h
  by_cases h1 : a.x = b.x
  ·by_cases h2 : a.y = b.y
   ·by_cases h3 : a.z = b.z
    ·exact absurd ⟨h1, h2, h3⟩ h
    ·simp [h3]
   ·simp [h2]
  ·simp [h1]

theorem yhi {f : Func} {R : Ending → World → Prop} {a : Act} {W : World} {b : Nat} {t : Tmp} {x y z : ByteArray} (hf : f.results = #[.cell t 121]) (hb : W.heap[b]? = some (.cells #[.string x, .string y, .string z] 121 (0, 0))) (h2 : a.tmps[t]? = some (.pointer (some ⟨b, 0, none⟩))) (hd : a.defers = []) (hR : R (.returned (.agg #[.string x, .string y, .string z])) W) :
 bodyPost Tryz.prog f R .ret a W := by
 have hcell := fun o => ya hb o
 refine bodyPost_ret ?_ hd hR
 simp [results, hf, go_sem, hcell, h2]
theorem yfx {f : Func} {R : Ending → World → Prop} {a : Act} {W : World} {b : Nat} {t : Tmp} {x y z : ByteArray} (hf : f.results = #[.cell t 28]) (hb : W.heap[b]? = some (.cells #[.string x, .string y, .string z] 28 (0, 0))) (h2 : a.tmps[t]? = some (.pointer (some ⟨b, 0, none⟩))) (hd : a.defers = []) (hR : R (.returned (.agg #[.string x, .string y, .string z])) W) :
 bodyPost Tryz.prog f R .ret a W := by
 have hcell := fun o => ya hb o
 refine bodyPost_ret ?_ hd hR
 simp [results, hf, go_sem, hcell, h2]
theorem yz {f : Func} {R : Ending → World → Prop} {a : Act} {W : World} {b : Nat} {t u : Tmp} {x y z : ByteArray} {v : Value} (hf : f.results = #[.cell t 28, .tmp u]) (hb : W.heap[b]? = some (.cells #[.string x, .string y, .string z] 28 (0, 0))) (h2 : a.tmps[t]? = some (.pointer (some ⟨b, 0, none⟩))) (h3 : a.tmps[u]? = some v) (hd : a.defers = []) (hR : R (.returned (.tuple #[.agg #[.string x, .string y, .string z], v])) W) :
 bodyPost Tryz.prog f R .ret a W := by
 have hcell := fun o => ya hb o
 refine bodyPost_ret ?_ hd hR
 simp [results, hf, go_sem, hcell, h2, h3]
abbrev spotV (a b c : ByteArray) : Value := .agg #[.string a, .string b, .string c]
abbrev spotO (a b c : ByteArray) : Obj := .cells #[.string a, .string b, .string c] 28
abbrev sptO (a b c : ByteArray) : Obj := .cells #[.string a, .string b, .string c] 98
abbrev arrO (a b c : ByteArray) : Obj := .cells #[.string a, .string b, .string c] 121
theorem jm (a b c : ByteArray) (w : World) :
 Calls Tryz.prog 76 #[spotV a b c] w (fun e w' => e = .returned (spotV a b c) ∧ w' = (w.alloc (sptO a b c)).alloc (arrO a b c)) := by
 go_enter Tryz.func76, Tryz.ntmps76
 go_wp2_with fail
 obtain ⟨_, h2, _, h4⟩ := heap2 w (sptO a b c) (arrO a b c)
 exact yhi rfl h2 rfl rfl ⟨rfl, rfl⟩
theorem yfl (a b c : ByteArray) (w : World) :
 Calls Tryz.prog 87 #[spotV a b c] w (fun e w' => e = .returned (spotV a b c) ∧ w' = (w.alloc (arrO a b c)).alloc (spotO a b c)) := by
 go_enter Tryz.func87, Tryz.ntmps87
 go_wp2_with fail
 obtain ⟨_, h2, _, h4⟩ := heap2 w (arrO a b c) (spotO a b c)
 exact yfx rfl h2 rfl rfl ⟨rfl, rfl⟩
theorem vidx0 (a b c : ByteArray) (w : World) : (Instr.index 121 (spotV a b c) (.int .i64 0)).run Tryz.prog w = .ok (.string a) w := by kernel_rfl
theorem vidx1 (a b c : ByteArray) (w : World) : (Instr.index 121 (spotV a b c) (.int .i64 1)).run Tryz.prog w = .ok (.string b) w := by kernel_rfl
theorem vidx2 (a b c : ByteArray) (w : World) : (Instr.index 121 (spotV a b c) (.int .i64 2)).run Tryz.prog w = .ok (.string c) w := by kernel_rfl
attribute [local go_sem] vidx0 vidx1 vidx2
def chk3 (a b c : List UInt8) : Int := if chkQ a ≠ 0 then chkQ a else if chkQ b ≠ 0 then chkQ b else chkQ c
theorem qY {a b c : List UInt8} : chk3 a b c = 0 ↔ (chkQ a = 0 ∧ chkQ b = 0 ∧ chkQ c = 0) := by
 unfold chk3
 split
 ·next h => exact ⟨fun e => absurd e h, fun e => absurd e.1 h⟩
 ·next h =>
  have h1 := Decidable.not_not.1 h
  split
  ·next h2 => exact ⟨fun e => absurd e h2, fun e => absurd e.2.1 h2⟩
  ·next h2 => exact ⟨fun e => ⟨h1, Decidable.not_not.1 h2, e⟩, fun e => e.2.2⟩
theorem vf (a b c : ByteArray) (ha : a.size ≤ 1000000) (hb : b.size ≤ 1000000) (hc : c.size ≤ 1000000) (B : Nat) (w : World) (hB : B ≤ w.heap.size) (hT : PQ B w) :
 Calls Tryz.prog 54 #[spotV a b c] w (Ret w (.int .i64 (chk3 a.data.toList b.data.toList c.data.toList))) := by
 have HT := hide hT
 have H1 := hide (fun w hB hT => zW a ha B w hB hT)
 have H2 := hide (fun w hB hT => zW b hb B w hB hT)
 have H3 := hide (fun w hB hT => zW c hc B w hB hT)
 have HL := hide (fun w => jm a b c w)
 obtain ⟨V, hV⟩ := xe (chk3 a.data.toList b.data.toList c.data.toList)
 rw [← hV]
 unfold chk3 at hV
 obtain ⟨x, hx⟩ := xe (chkQ a.data.toList)
 obtain ⟨y, hy⟩ := xe (chkQ b.data.toList)
 obtain ⟨z, hz⟩ := xe (chkQ c.data.toList)
 rw [← hx] at H1 hV
 rw [← hy] at H2 hV
 rw [← hz] at H3 hV
 clear hx hy hz ha hb hc hT
 have X0 := hide (((heap3 w (spotO a b c) (sptO a b c) (arrO a b c))).2.2.2.2)
 by_cases hx : x = 0
 rotate_left
 ·rw [if_pos hx] at hV
  have hx2 : (x != 0) = true := by simpa using hx
  clear hx
  subst hV
  go_enter Tryz.func54, Tryz.ntmps54
  go_wp2_with fail
  refine (HL.out _).mono ?_
  rintro e w0 ⟨rfl, rfl⟩
  go_wp2_with fail
  refine wp_loop_rounds 1 ?_
  rw [rounds_succ]
  go_wp2_with fail
  refine (H1.out _ (Nat.le_trans hB X0.out.size) (HT.out.on X0.out hB)).mono ?_
  rintro e w1 ⟨rfl, hb1⟩
  have HB1 := hide (X0.out.trans (hb1.mono X0.out.size))
  clear hb1
  go_wp2_with fail
  go_ret
  exact ⟨rfl, HB1.out⟩
 subst hx
 rw [if_neg (by simp)] at hV
 by_cases hy : y = 0
 rotate_left
 ·rw [if_pos hy] at hV
  have hy2 : (y != 0) = true := by simpa using hy
  clear hy
  subst hV
  go_enter Tryz.func54, Tryz.ntmps54
  go_wp2_with fail
  refine (HL.out _).mono ?_
  rintro e w0 ⟨rfl, rfl⟩
  go_wp2_with fail
  refine wp_loop_rounds 2 ?_
  rw [rounds_succ]
  go_wp2_with fail
  refine (H1.out _ (Nat.le_trans hB X0.out.size) (HT.out.on X0.out hB)).mono ?_
  rintro e w1 ⟨rfl, hb1⟩
  have HB1 := hide (X0.out.trans (hb1.mono X0.out.size))
  clear hb1
  go_wp2_with fail
  rw [rounds_succ]
  go_wp2_with fail
  refine (H2.out _ (Nat.le_trans hB HB1.out.size) (HT.out.on HB1.out hB)).mono ?_
  rintro e w2 ⟨rfl, hb2⟩
  have HB2 := bt HB1 hb2
  clear hb2
  go_wp2_with fail
  go_ret
  exact ⟨rfl, HB2.out⟩
 subst hy
 rw [if_neg (by simp)] at hV
 subst hV
 have hz : V = 0 ∨ (V != 0) = true := by
  by_cases h : V = 0
  ·exact .inl h
  ·exact .inr (by simpa using h)
 rcases hz with rfl | hz
 all_goals
  go_enter Tryz.func54, Tryz.ntmps54
  go_wp2_with fail
  refine (HL.out _).mono ?_
  rintro e w0 ⟨rfl, rfl⟩
  go_wp2_with fail
  refine wp_loop_rounds 4 ?_
  rw [rounds_succ]
  go_wp2_with fail
  refine (H1.out _ (Nat.le_trans hB X0.out.size) (HT.out.on X0.out hB)).mono ?_
  rintro e w1 ⟨rfl, hb1⟩
  have HB1 := hide (X0.out.trans (hb1.mono X0.out.size))
  clear hb1
  go_wp2_with fail
  rw [rounds_succ]
  go_wp2_with fail
  refine (H2.out _ (Nat.le_trans hB HB1.out.size) (HT.out.on HB1.out hB)).mono ?_
  rintro e w2 ⟨rfl, hb2⟩
  have HB2 := bt HB1 hb2
  clear hb2
  go_wp2_with fail
  rw [rounds_succ]
  go_wp2_with fail
  refine (H3.out _ (Nat.le_trans hB HB2.out.size) (HT.out.on HB2.out hB)).mono ?_
  rintro e w3 ⟨rfl, hb3⟩
  have HB3 := bt HB2 hb3
  clear hb3
  go_wp2_with fail
  first
   |(go_ret; exact ⟨rfl, HB3.out⟩)
   |(rw [rounds_succ]; go_wp2_with fail; go_ret; exact ⟨rfl, HB3.out⟩)
def both3 (p q : Int) : Int := if p ≠ 0 then p else q
theorem yab (a b c a2 b2 c2 : ByteArray) (ha : a.size ≤ 1000000) (hb : b.size ≤ 1000000) (hc : c.size ≤ 1000000) (ha2 : a2.size ≤ 1000000) (hb2 : b2.size ≤ 1000000) (hc2 : c2.size ≤ 1000000) (B : Nat) (w : World) (hB : B ≤ w.heap.size) (hT : PQ B w) :
 Calls Tryz.prog 45 #[spotV a b c, spotV a2 b2 c2] w (Ret w (.int .i64 (both3 (chk3 a.data.toList b.data.toList c.data.toList) (chk3 a2.data.toList b2.data.toList c2.data.toList)))) := by
 have HT := hide hT
 have H1 := hide (fun w hB hT => vf a b c ha hb hc B w hB hT)
 have H2 := hide (fun w hB hT => vf a2 b2 c2 ha2 hb2 hc2 B w hB hT)
 obtain ⟨x, hx⟩ := xe (chk3 a.data.toList b.data.toList c.data.toList)
 obtain ⟨y, hy⟩ := xe (chk3 a2.data.toList b2.data.toList c2.data.toList)
 rw [← hx] at H1 ⊢
 rw [← hy] at H2 ⊢
 clear hx hy ha hb hc ha2 hb2 hc2 hT
 have X0 := hide (heap2 w (spotO a b c) (spotO a2 b2 c2))
 unfold both3
 by_cases h : x = 0
 ·subst h
  rw [if_neg (by simp)]
  go_enter Tryz.func45, Tryz.ntmps45
  go_wp2_with fail
  refine (H1.out _ (Nat.le_trans hB X0.out.2.2.2.size) (HT.out.on X0.out.2.2.2 hB)).mono ?_
  rintro e w1 ⟨rfl, hb1⟩
  have G1 := hide (yc hb1 X0.out.2.1 (yd X0.out.2.1))
  have HB1 := hide (X0.out.2.2.2.trans (hb1.mono X0.out.2.2.2.size))
  clear hb1
  have c0 := ya G1.out 0
  have c1 := ya G1.out 1
  have c2 := ya G1.out 2
  go_wp2_with fail
  refine (H2.out _ (Nat.le_trans hB HB1.out.size) (HT.out.on HB1.out hB)).mono ?_
  rintro e w2 ⟨rfl, hb2⟩
  have HB2 := bt HB1 hb2
  clear hb2
  go_wp2_with fail
  go_ret
  exact ⟨rfl, HB2.out⟩
 ·rw [if_pos h]
  have h2 : (x != 0) = true := by simpa using h
  clear h
  go_enter Tryz.func45, Tryz.ntmps45
  go_wp2_with fail
  refine (H1.out _ (Nat.le_trans hB X0.out.2.2.2.size) (HT.out.on X0.out.2.2.2 hB)).mono ?_
  rintro e w1 ⟨rfl, hb1⟩
  have HB1 := hide (X0.out.2.2.2.trans (hb1.mono X0.out.2.2.2.size))
  clear hb1
  go_wp2_with fail
  go_ret
  exact ⟨rfl, HB1.out⟩
attribute [local go_sem] Oper.semAt_some vidx0 vidx1 vidx2

theorem set3a {w : World} {b : Nat} {x y z : Value} {t : TypeId} (h : w.heap[b]? = some (.cells #[x, y, z] t (0, 0))) (v : Value) :
 (w.setCell ⟨b, 0, none⟩ v).heap[b]? = some (.cells #[v, y, z] t (0, 0)) := by
 simp only [World.setCell, Array.getElem?_modify, h]
 simp
theorem set3b {w : World} {b : Nat} {x y z : Value} {t : TypeId} (h : w.heap[b]? = some (.cells #[x, y, z] t (0, 0))) (v : Value) :
 (w.setCell ⟨b, 1, none⟩ v).heap[b]? = some (.cells #[x, v, z] t (0, 0)) := by
 simp only [World.setCell, Array.getElem?_modify, h]
 simp
theorem set3c {w : World} {b : Nat} {x y z : Value} {t : TypeId} (h : w.heap[b]? = some (.cells #[x, y, z] t (0, 0))) (v : Value) :
 (w.setCell ⟨b, 2, none⟩ v).heap[b]? = some (.cells #[x, y, v] t (0, 0)) := by
 simp only [World.setCell, Array.getElem?_modify, h]
 simp
theorem yk {w : World} {b c o : Nat} {x : Obj} (h : w.heap[b]? = some x) (hne : c ≠ b) (v : Value) : (w.setCell ⟨c, o, none⟩ v).heap[b]? = some x := by
 simp only [World.setCell]
 rw [Array.getElem?_modify, if_neg hne]
 exact h
theorem yA {n b : Nat} {w w1 : World} (h : Below n w w1) (hb : n ≤ b) (u v x : Value) : Below n w (((w1.setCell ⟨b, 0, none⟩ u).setCell ⟨b, 1, none⟩ v).setCell ⟨b, 2, none⟩ x) :=
 ((h.setCell (p := ⟨b, 0, none⟩) hb u).setCell (p := ⟨b, 1, none⟩) hb v).setCell (p := ⟨b, 2, none⟩) hb x
theorem heap9 (w : World) (o1 o2 o3 o4 o5 o6 o7 o8 o9 : Obj) : (((((((((w.alloc o1).alloc o2).alloc o3).alloc o4).alloc o5).alloc o6).alloc o7).alloc o8).alloc o9).heap[w.heap.size + 2]? = some o3 ∧
 (((((((((w.alloc o1).alloc o2).alloc o3).alloc o4).alloc o5).alloc o6).alloc o7).alloc o8).alloc o9).heap[w.heap.size + 3]? = some o4 ∧
 (((((((((w.alloc o1).alloc o2).alloc o3).alloc o4).alloc o5).alloc o6).alloc o7).alloc o8).alloc o9).heap[w.heap.size + 6]? = some o7 ∧
 (((((((((w.alloc o1).alloc o2).alloc o3).alloc o4).alloc o5).alloc o6).alloc o7).alloc o8).alloc o9).heap.size = w.heap.size + 9 ∧ Below w.heap.size w (((((((((w.alloc o1).alloc o2).alloc o3).alloc o4).alloc o5).alloc o6).alloc o7).alloc o8).alloc o9) := by
 obtain ⟨_, _, a3, a4, a5⟩ := heap3 w o1 o2 o3
 obtain ⟨b1, _, _, b4, b5⟩ := heap3 (((w.alloc o1).alloc o2).alloc o3) o4 o5 o6
 obtain ⟨c1, _, _, c4, c5⟩ := heap3 ((((((w.alloc o1).alloc o2).alloc o3).alloc o4).alloc o5).alloc o6) o7 o8 o9
 rw [a4] at b1 b4 b5
 rw [b4] at c1 c4 c5
 refine ⟨yc c5 (yc b5 a3 (by omega)) (by omega), yc c5 b1 (by omega), c1, by omega, a5.trans ((b5.mono (by omega)).trans (c5.mono (by omega)))⟩
theorem yhu {g : Nat} {F : Rat → Rat → Option Rat} (hF : BinFn g F) {a b : V3} (fa : fitsV a) (fb : fitsV b) (B : Nat) (w : World) (hB : B ≤ w.heap.size) (hT : PQ B w) :
 Calls Tryz.prog 78 #[vecV a, vecV b, .func (.func g) #[] #[]] w (ResV w (vec2O F a b)) := by
 have HT := hide hT
 have H1 := hide (fun w hB hT => hF.calls a.x b.x B w fa.1 fb.1 hB hT)
 have H2 := hide (fun w hB hT => hF.calls a.y b.y B w fa.2.1 fb.2.1 hB hT)
 have H3 := hide (fun w hB hT => hF.calls a.z b.z B w fa.2.2 fb.2.2 hB hT)
 have hen := hF.enters
 obtain ⟨O, hO⟩ := xe (vec2O F a b)
 rw [← hO]
 unfold vec2O at hO
 obtain ⟨o1, h1⟩ := xe (F a.x b.x)
 obtain ⟨o2, h2⟩ := xe (F a.y b.y)
 obtain ⟨o3, h3⟩ := xe (F a.z b.z)
 rw [← h1] at H1 hO
 rw [← h2] at H2 hO
 rw [← h3] at H3 hO
 obtain ⟨x1, e1⟩ := xe (T a.x)
 obtain ⟨x2, e2⟩ := xe (T a.y)
 obtain ⟨x3, e3⟩ := xe (T a.z)
 obtain ⟨y1, e4⟩ := xe (T b.x)
 obtain ⟨y2, e5⟩ := xe (T b.y)
 obtain ⟨y3, e6⟩ := xe (T b.z)
 unfold vecV
 rw [← e1, ← e2, ← e3, ← e4, ← e5, ← e6]
 rw [← e1, ← e4] at H1
 rw [← e2, ← e5] at H2
 rw [← e3, ← e6] at H3
 clear e1 e2 e3 e4 e5 e6 h1 h2 h3 fa fb hF hT
 have HO := hide hO
 clear hO
 have HL1 := hide (fun w => jm x1 x2 x3 w)
 have HL2 := hide (fun w => jm y1 y2 y3 w)
 have HOF := hide (fun a b c w => yfl a b c w)
 have X0 := hide (heap9 w (sptO x1 x2 x3) (sptO y1 y2 y3) (spotO ⟨#[]⟩ ⟨#[]⟩ ⟨#[]⟩) (arrO ⟨#[]⟩ ⟨#[]⟩ ⟨#[]⟩) (sptO y1 y2 y3) (arrO y1 y2 y3) (arrO y1 y2 y3) (sptO x1 x2 x3) (arrO x1 x2 x3))
 go_enter Tryz.func78, Tryz.ntmps78
 go_wp2_with fail
 refine (HL2.out _).mono ?_
 rintro e w0 ⟨rfl, rfl⟩
 go_wp2_with fail
 refine (HL1.out _).mono ?_
 rintro e w0 ⟨rfl, rfl⟩
 go_wp2_with fail
 refine wp_loop_rounds 4 ?_
 rw [rounds_succ]
 go_wp2_with fail
 refine (H1.out _ (Nat.le_trans hB X0.out.2.2.2.2.size) (HT.out.on X0.out.2.2.2.2 hB)).mono ?_
 rintro e w1 (⟨z1, hz1, rfl, hb1⟩ | ⟨hz1, rfl, hb1⟩)
 all_goals
  have A6 := hide (yc hb1 X0.out.1 (yd X0.out.1))
  have A8 := hide (yc hb1 X0.out.2.1 (yd X0.out.2.1))
  have A9 := hide (yc hb1 X0.out.2.2.1 (yd X0.out.2.2.1))
  have HB1 := hide (X0.out.2.2.2.2.trans (hb1.mono X0.out.2.2.2.2.size))
  have HZ1 := hide hz1
  clear hb1 hz1
 rotate_left
 ·have k0 := ya A6.out 0
  have k1 := ya A6.out 1
  have k2 := ya A6.out 2
  have f0 := yf A6.out 0
  have f1 := yf A6.out 1
  have f2 := yf A6.out 2
  have l6 := yd A6.out
  go_wp2_with fail
  exact yz rfl (set3c (set3b (set3a A6.out _) _) _) rfl rfl rfl (.inr ⟨by rw [HO.out, HZ1.out]; rfl, rfl, yA HB1.out (show w.heap.size ≤ w.heap.size + 1 + 1 by omega) _ _ _⟩)
 have S6 := hide (yk (c := w.heap.size + 3) (o := 0) A6.out (by omega) (.string (T z1)))
 have S8 := hide (set3a A8.out (.string (T z1)))
 have S9 := hide (yk (c := w.heap.size + 3) (o := 0) A9.out (by omega) (.string (T z1)))
 have SB := hide (HB1.out.setCell (p := ⟨w.heap.size + 3, 0, none⟩) (Nat.le_add_right _ _) (.string (T z1)))
 have k0 := ya A8.out 0
 have f0 := yf A8.out 0
 have l8 := yd A8.out
 go_wp2_with fail
 clear k0 f0 l8
 have k1 := ya S9.out 1
 rw [rounds_succ]
 go_wp2_with fail
 refine (H2.out _ (Nat.le_trans hB SB.out.size) (HT.out.on SB.out hB)).mono ?_
 rintro e w2 (⟨z2, hz2, rfl, hb2⟩ | ⟨hz2, rfl, hb2⟩)
 all_goals
  clear k1 A6 A8 A9
  have A6 := bh hb2 S6
  have A8 := bh hb2 S8
  have A9 := bh hb2 S9
  have HB2 := hide (SB.out.trans (hb2.mono SB.out.size))
  have HZ2 := hide hz2
  clear hb2 hz2 S6 S8 S9 SB
 rotate_left
 ·have k0 := ya A6.out 0
  have k1 := ya A6.out 1
  have k2 := ya A6.out 2
  have f0 := yf A6.out 0
  have f1 := yf A6.out 1
  have f2 := yf A6.out 2
  have l6 := yd A6.out
  go_wp2_with fail
  exact yz rfl (set3c (set3b (set3a A6.out _) _) _) rfl rfl rfl (.inr ⟨by rw [HO.out, HZ2.out]; cases o1 <;> rfl, rfl, yA HB2.out (show w.heap.size ≤ w.heap.size + 1 + 1 by omega) _ _ _⟩)
 have S6 := hide (yk (c := w.heap.size + 3) (o := 1) A6.out (by omega) (.string (T z2)))
 have S8 := hide (set3b A8.out (.string (T z2)))
 have S9 := hide (yk (c := w.heap.size + 3) (o := 1) A9.out (by omega) (.string (T z2)))
 have SB := hide (HB2.out.setCell (p := ⟨w.heap.size + 3, 1, none⟩) (Nat.le_add_right _ _) (.string (T z2)))
 have k0 := ya A8.out 1
 have f0 := yf A8.out 1
 have l8 := yd A8.out
 go_wp2_with fail
 clear k0 f0 l8
 have k1 := ya S9.out 2
 rw [rounds_succ]
 go_wp2_with fail
 refine (H3.out _ (Nat.le_trans hB SB.out.size) (HT.out.on SB.out hB)).mono ?_
 rintro e w3 (⟨z3, hz3, rfl, hb3⟩ | ⟨hz3, rfl, hb3⟩)
 all_goals
  clear k1 A6 A8 A9
  have A6 := bh hb3 S6
  have A8 := bh hb3 S8
  have HB3 := hide (SB.out.trans (hb3.mono SB.out.size))
  have HZ3 := hide hz3
  clear hb3 hz3 S6 S8 S9 SB
 rotate_left
 ·have k0 := ya A6.out 0
  have k1 := ya A6.out 1
  have k2 := ya A6.out 2
  have f0 := yf A6.out 0
  have f1 := yf A6.out 1
  have f2 := yf A6.out 2
  have l6 := yd A6.out
  go_wp2_with fail
  exact yz rfl (set3c (set3b (set3a A6.out _) _) _) rfl rfl rfl (.inr ⟨by rw [HO.out, HZ3.out]; cases o1 <;> cases o2 <;> rfl, rfl, yA HB3.out (show w.heap.size ≤ w.heap.size + 1 + 1 by omega) _ _ _⟩)
 have S6 := hide (yk (c := w.heap.size + 3) (o := 2) A6.out (by omega) (.string (T z3)))
 have S8 := hide (set3c A8.out (.string (T z3)))
 have SB := hide (HB3.out.setCell (p := ⟨w.heap.size + 3, 2, none⟩) (Nat.le_add_right _ _) (.string (T z3)))
 have k0 := ya A8.out 2
 have f0 := yf A8.out 2
 have l8 := yd A8.out
 go_wp2_with fail
 clear k0 f0 l8
 have k0 := ya S8.out 0
 have k1 := ya S8.out 1
 have k2 := ya S8.out 2
 have l8 := yd S8.out
 rw [rounds_succ]
 go_wp2_with fail
 refine (HOF.out _ _ _ _).mono ?_
 rintro e w4 ⟨rfl, rfl⟩
 clear k0 k1 k2 l8
 have X5 := hide (heap2 (w3.setCell ⟨w.heap.size + 3, 2, none⟩ (.string (T z3))) (arrO (T z1) (T z2) (T z3)) (spotO (T z1) (T z2) (T z3)))
 have R6 := hide (yc X5.out.2.2.2 S6.out (yd S6.out))
 have RB := hide (SB.out.trans (X5.out.2.2.2.mono SB.out.size))
 have k0 := ya R6.out 0
 have k1 := ya R6.out 1
 have k2 := ya R6.out 2
 have f0 := yf R6.out 0
 have f1 := yf R6.out 1
 have f2 := yf R6.out 2
 have l6 := yd R6.out
 go_wp2_with fail
 exact yz rfl (set3c (set3b (set3a R6.out _) _) _) rfl rfl rfl (.inl ⟨⟨z1, z2, z3⟩, by rw [HO.out, HZ1.out, HZ2.out, HZ3.out]; rfl, rfl, yA RB.out (show w.heap.size ≤ w.heap.size + 1 + 1 by omega) _ _ _⟩)

theorem ResV.no {w : World} {o : Option V3} (h : o = none) {e : Ending} {w' : World} (hr : ResV w o e w') : Ret w (.tuple #[noV, .int .i64 4]) e w' := by
 rcases hr with ⟨v, h1, _⟩ | ⟨_, h2⟩
 ·rw [h] at h1
  cases h1
 ·exact h2
theorem ResO.no {w : World} {o : Option Rat} (h : o = none) {e : Ending} {w' : World} (hr : ResO w o e w') : Ret w (.tuple #[.string ⟨#[]⟩, .int .i64 4]) e w' := by
 rcases hr with ⟨v, h1, _⟩ | ⟨_, h2⟩
 ·rw [h] at h1
  cases h1
 ·exact h2
theorem zN {x : Rat} (h : fitsQ x) : (T x).size ≤ 1000000 ∧ chkQ (T x).data.toList = 0 := ⟨(yW h).1, (yW h).2.1⟩
theorem yc7 {a b : V3} (fa : fitsV a) (fb : fitsV b) (B : Nat) (w : World) (hB : B ≤ w.heap.size) (hT : PQ B w) :
 Calls Tryz.prog 45 #[vecV a, vecV b] w (Ret w (.int .i64 0)) := by
 have h := yab (T a.x) (T a.y) (T a.z) (T b.x) (T b.y) (T b.z) (zN fa.1).1 (zN fa.2.1).1 (zN fa.2.2).1 (zN fb.1).1 (zN fb.2.1).1 (zN fb.2.2).1 B w hB hT
 rw [qY.2 ⟨(zN fa.1).2, (zN fa.2.1).2, (zN fa.2.2).2⟩, qY.2 ⟨(zN fb.1).2, (zN fb.2.1).2, (zN fb.2.2).2⟩] at h
 exact h
theorem yd7 {a : V3} (fa : fitsV a) (B : Nat) (w : World) (hB : B ≤ w.heap.size) (hT : PQ B w) :
 Calls Tryz.prog 54 #[vecV a] w (Ret w (.int .i64 0)) := by
 have h := vf (T a.x) (T a.y) (T a.z) (zN fa.1).1 (zN fa.2.1).1 (zN fa.2.2).1 B w hB hT
 rw [qY.2 ⟨(zN fa.1).2, (zN fa.2.1).2, (zN fa.2.2).2⟩] at h
 exact h
theorem yai {a b : V3} (fa : fitsV a) (fb : fitsV b) (B : Nat) (w : World) (hB : B ≤ w.heap.size) (hT : PQ B w) :
 Calls Tryz.prog 46 #[vecV a, vecV b] w (ResO w (dotO a b)) := by
 have HT := hide hT
 have HW := hide (fun w hB hT => yhu mulB fa fb B w hB hT)
 obtain ⟨O, hO⟩ := xe (dotO a b)
 rw [← hO]
 have X0 := hide (heap2 w (sptO (T a.x) (T a.y) (T a.z)) (sptO (T b.x) (T b.y) (T b.z)))
 unfold dotO at hO
 rcases hp : vec2O mulO a b with _ | p
 ·rw [hp] at hO
  have HO := hide hO
  have HW := hide (fun w hB hT => (HW.out w hB hT).mono fun _ _ h => ResV.no hp h)
  clear hp hO hT fa fb
  go_enter Tryz.func46, Tryz.ntmps46
  go_wp2_with fail
  refine (HW.out _ (Nat.le_trans hB X0.out.2.2.2.size) (HT.out.on X0.out.2.2.2 hB)).mono ?_
  rintro e w1 ⟨rfl, hb1⟩
  have HB1 := hide (X0.out.2.2.2.trans (hb1.mono X0.out.2.2.2.size))
  clear hb1
  go_wp2_with fail
  refine bodyPost_ret (results_tmp2 rfl _ _ _) rfl ?_
  exact .inr ⟨HO.out, rfl, HB1.out.trans ((heap1 w1 _).2.2.mono HB1.out.size)⟩
 rw [hp] at hO
 have HW := hide (fun w hB hT => (HW.out w hB hT).mono fun _ _ h => ResV.of hp h)
 have fp := (ybZ hp).2
 have HA := hide (fun w hB hT => yhB fp.1 fp.2.1 B w hB hT)
 rw [Option.bind_some] at hO
 unfold sum3O at hO
 rcases hs : addO p.x p.y with _ | s
 ·rw [hs] at hO
  have HO := hide hO
  have HA := hide (fun w hB hT => (HA.out w hB hT).mono fun _ _ h => ResO.no hs h)
  clear hp hs hO hT fa fb fp
  go_enter Tryz.func46, Tryz.ntmps46
  go_wp2_with fail
  refine (HW.out _ (Nat.le_trans hB X0.out.2.2.2.size) (HT.out.on X0.out.2.2.2 hB)).mono ?_
  rintro e w1 ⟨rfl, hb1⟩
  have HB1 := hide ((X0.out.2.2.2.trans (hb1.mono X0.out.2.2.2.size)).trans ((heap1 w1 (vecO p)).2.2.mono (X0.out.2.2.2.trans (hb1.mono X0.out.2.2.2.size)).size))
  clear hb1
  go_wp2_with fail
  refine (HA.out _ (Nat.le_trans hB HB1.out.size) (HT.out.on HB1.out hB)).mono ?_
  rintro e w2 ⟨rfl, hb2⟩
  have HB2 := bt HB1 hb2
  clear hb2
  go_wp2_with fail
  refine bodyPost_ret (results_tmp2 rfl _ _ _) rfl ?_
  exact .inr ⟨HO.out, rfl, HB2.out⟩
 rw [hs, Option.bind_some] at hO
 have HA := hide (fun w hB hT => (HA.out w hB hT).mono fun _ _ h => ResO.of hs h)
 have fs := (xr hs).2
 have HA2 := hide (fun w hB hT => yhB fs fp.2.2 B w hB hT)
 obtain ⟨Z, hZ⟩ := xe (addO s p.z)
 rw [← hZ] at HA2 hO
 subst hO
 clear hp hs hZ hT fa fb fp fs
 go_enter Tryz.func46, Tryz.ntmps46
 go_wp2_with fail
 refine (HW.out _ (Nat.le_trans hB X0.out.2.2.2.size) (HT.out.on X0.out.2.2.2 hB)).mono ?_
 rintro e w1 ⟨rfl, hb1⟩
 have X1 := hide (heap1 w1 (vecO p))
 have HB1 := hide ((X0.out.2.2.2.trans (hb1.mono X0.out.2.2.2.size)).trans (X1.out.2.2.mono (X0.out.2.2.2.trans (hb1.mono X0.out.2.2.2.size)).size))
 clear hb1
 go_wp2_with fail
 refine (HA.out _ (Nat.le_trans hB HB1.out.size) (HT.out.on HB1.out hB)).mono ?_
 rintro e w2 ⟨rfl, hb2⟩
 have G2 := hide (yc hb2 X1.out.1 (yd X1.out.1))
 have HB2 := bt HB1 hb2
 clear hb2
 have k2 := ya G2.out 2
 go_wp2_with fail
 refine (HA2.out _ (Nat.le_trans hB HB2.out.size) (HT.out.on HB2.out hB)).mono ?_
 rintro e w3 (⟨z, hz, rfl, hb3⟩ | ⟨hz, rfl, hb3⟩)
 all_goals
  have HZ := hide hz
  have HB3 := bt HB2 hb3
  clear hb3 hz k2
  go_wp2_with fail
  refine bodyPost_ret (results_tmp2 rfl _ _ _) rfl ?_
  first
   |exact .inl ⟨_, HZ.out, rfl, HB3.out⟩
   |exact .inr ⟨HZ.out, rfl, HB3.out⟩
theorem yiw {a b : V3} (fa : fitsV a) (fb : fitsV b) (B : Nat) (w : World) (hB : B ≤ w.heap.size) (hT : PQ B w) :
 Calls Tryz.prog 17 #[vecV a, vecV b] w (ResO w (dotO a b)) := by
 have HT := hide hT
 have HC := hide (fun w hB hT => yc7 fa fb B w hB hT)
 have HD := hide (fun w hB hT => yai fa fb B w hB hT)
 have X0 := hide (heap2 w (vecO a) (vecO b))
 obtain ⟨O, hO⟩ := xe (dotO a b)
 rw [← hO] at HD ⊢
 clear hO hT fa fb
 go_enter Tryz.func17, Tryz.ntmps17
 go_wp2_with fail
 refine (HC.out _ (Nat.le_trans hB X0.out.2.2.2.size) (HT.out.on X0.out.2.2.2 hB)).mono ?_
 rintro e w1 ⟨rfl, hb1⟩
 have HB1 := hide (X0.out.2.2.2.trans (hb1.mono X0.out.2.2.2.size))
 have G1 := hide (yc hb1 X0.out.1 (yd X0.out.1))
 have G2 := hide (yc hb1 X0.out.2.1 (yd X0.out.2.1))
 have k0 := ya G1.out 0
 have k1 := ya G1.out 1
 have k2 := ya G1.out 2
 have m0 := ya G2.out 0
 have m1 := ya G2.out 1
 have m2 := ya G2.out 2
 clear hb1
 go_wp2_with fail
 refine (HD.out _ (Nat.le_trans hB HB1.out.size) (HT.out.on HB1.out hB)).mono ?_
 rintro e w2 (⟨z, hz, rfl, hb2⟩ | ⟨hz, rfl, hb2⟩)
 all_goals
  have HZ := hide hz
  have HB2 := bt HB1 hb2
  clear hb2 hz k0 k1 k2 m0 m1 m2
  go_wp2_with fail
  refine bodyPost_ret (results_tmp2 rfl _ _ _) rfl ?_
  first
   |exact .inl ⟨_, HZ.out, rfl, HB2.out⟩
   |exact .inr ⟨HZ.out, rfl, HB2.out⟩
end Go.Proofs.YtklgpilgalfckaaGreatDoor
