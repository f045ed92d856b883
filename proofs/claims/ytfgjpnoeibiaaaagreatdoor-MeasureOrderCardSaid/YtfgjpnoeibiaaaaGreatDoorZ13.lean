/-
  Texts of the integers, laid together: Tr, Ts, Nw, Nx, Tu, Tx, Ty.
-/
import Derived.Test.YtfgjpnoeibiaaaaGreatDoorZ6
import Derived.Test.YtfgjpnoeibiaaaaGreatDoorZ12
namespace Go.Proofs.YtfgjpnoeibiaaaaGreatDoor
open Go.RowKit Go.KP Go.KI Go.Shelf
attribute [local go_sem] Oper.semAt_some

/-- What a comparison answers. -/
def cmpI (x y : Rat) : Int := Lib.compareInt (x.num * y.den) (y.num * x.den)
def cmpN (a b : List UInt8) : Int := if bothQ a b = 0 then (if cmpC (valQ a) (valQ b) then cmpI (valQ a) (valQ b) else 0) else 0
def cmpE (a b : List UInt8) : Int := if bothQ a b = 0 then (if cmpC (valQ a) (valQ b) then 0 else 4) else bothQ a b
abbrev cmpV2 (n e : Int) : Value := .tuple #[.int .i64 n, .int .i64 e]
set_option maxRecDepth 100000 in
set_option maxHeartbeats 8000000 in
theorem qCompare_any (s t : ByteArray) (hs : s.size ≤ 1000000) (ht : t.size ≤ 1000000) (B : Nat) (w : World) (hB : B ≤ w.heap.size) (hT : PQ B w) :
    Calls Tryz.prog 24 #[.string s, .string t] w (Ret w (cmpV2 (cmpN s.data.toList t.data.toList) (cmpE s.data.toList t.data.toList))) := by
  have HT := hide hT
  have HN1 := hide (nativeOf_any s hs w)
  have HN2 := hide (fun w => nativeOf_any t ht w)
  by_cases hq : natQ s.data.toList ∧ natQ t.data.toList
  · obtain ⟨k1, k2, _, _, _⟩ := quick_nums hq.1 hq.2
    have hb := zero_bothQ hq.1.1 hq.2.1
    have hc : cmpC (valQ s.data.toList) (valQ t.data.toList) := cmpC_of (natQ_sz hq.1) (natQ_sz hq.2) (by rw [most_eq]; omega)
    have e1 : cmpN s.data.toList t.data.toList = cmpI (valQ s.data.toList) (valQ t.data.toList) := by unfold cmpN; rw [if_pos hb, if_pos hc]
    have e2 : cmpE s.data.toList t.data.toList = 0 := by unfold cmpE; rw [if_pos hb, if_pos hc]
    rw [e1, e2]
    rw [natOV_yes hq.1] at HN1
    rw [natOV_yes hq.2] at HN2
    unfold cmpI
    obtain ⟨x, hx⟩ : ∃ x, x = (valQ s.data.toList).num := ⟨_, rfl⟩
    obtain ⟨p, hp⟩ : ∃ y, y = ((valQ s.data.toList).den : Int) := ⟨_, rfl⟩
    obtain ⟨y, hy⟩ : ∃ x, x = (valQ t.data.toList).num := ⟨_, rfl⟩
    obtain ⟨q, hq1⟩ : ∃ y, y = ((valQ t.data.toList).den : Int) := ⟨_, rfl⟩
    rw [← hx, ← hp] at HN1
    rw [← hy, ← hq1] at HN2
    rw [← hx, ← hq1] at k1
    rw [← hy, ← hp] at k2
    rw [← hx, ← hp, ← hy, ← hq1]
    have m1 : IntKind.i64.wrap (x * q) = x * q := IntWalk.i64_in _ (by omega)
    have m2 : IntKind.i64.wrap (y * p) = y * p := IntWalk.i64_in _ (by omega)
    obtain ⟨R, hR⟩ : ∃ R, R = Lib.compareInt (x * q) (y * p) := ⟨_, rfl⟩
    have HC := hide (fun w => Tryz.cmp_Compare_int (x * q) (y * p) w)
    rw [← hR] at HC ⊢
    clear hx hp hy hq1 k1 k2 hb hc e1 e2 hR hq hT
    go_enter Tryz.func24, Tryz.ntmps24
    go_wp2_with fail
    refine HN1.out.mono ?_
    rintro e w1 ⟨rfl, hb1⟩
    have X1 := hide (heap1 w1 (natO x p))
    have HB1 := hide (hb1.trans (X1.out.2.2.mono hb1.size))
    clear hb1
    go_wp2_with fail
    refine (HN2.out _).mono ?_
    rintro e w2 ⟨rfl, hb2⟩
    have G2 := hide (below_blk hb2 X1.out.1 (lt_blk X1.out.1))
    have HB2 := hide (HB1.out.trans (hb2.mono HB1.out.size))
    have X2 := hide (heap1 w2 (natO y q))
    have HB2b := hide (HB2.out.trans (X2.out.2.2.mono HB2.out.size))
    have c0 := cell_blk G2.out 0
    have c1 := cell_blk G2.out 1
    have hl := lt_blk G2.out
    clear hb2
    go_wp2_with fail
    refine (HC.out _).mono ?_
    rintro e w3 ⟨rfl, rfl⟩
    go_wp2_with fail
    refine bodyPost_ret (results_tmp2 rfl _ _ _) rfl ?_
    exact ⟨rfl, HB2b.out⟩
  · -- the parts are read
    have HR1 := hide (fun w hB hT => qread_any s hs B w hB hT)
    have HR2 := hide (fun w hB hT => qread_any t ht B w hB hT)
    have hway : (natQ s.data.toList ∧ ¬ natQ t.data.toList) ∨ ¬ natQ s.data.toList := by
      by_cases h1 : natQ s.data.toList
      · exact .inl ⟨h1, fun e => hq ⟨h1, e⟩⟩
      · exact .inr h1
    have hk : (chkQ s.data.toList ≠ 0 ∧ cmpN s.data.toList t.data.toList = 0 ∧ cmpE s.data.toList t.data.toList = chkQ s.data.toList) ∨
        (chkQ s.data.toList = 0 ∧ chkQ t.data.toList ≠ 0 ∧ cmpN s.data.toList t.data.toList = 0 ∧ cmpE s.data.toList t.data.toList = chkQ t.data.toList) ∨
        (chkQ s.data.toList = 0 ∧ chkQ t.data.toList = 0 ∧ ¬ cmpC (valQ s.data.toList) (valQ t.data.toList) ∧ cmpN s.data.toList t.data.toList = 0 ∧ cmpE s.data.toList t.data.toList = 4) ∨
        (chkQ s.data.toList = 0 ∧ chkQ t.data.toList = 0 ∧ cmpC (valQ s.data.toList) (valQ t.data.toList) ∧ cmpN s.data.toList t.data.toList = cmpI (valQ s.data.toList) (valQ t.data.toList) ∧ cmpE s.data.toList t.data.toList = 0) := by
      unfold cmpN cmpE
      by_cases h1 : chkQ s.data.toList = 0
      · by_cases h2 : chkQ t.data.toList = 0
        · have hb := zero_bothQ h1 h2
          by_cases h3 : cmpC (valQ s.data.toList) (valQ t.data.toList)
          · exact .inr (.inr (.inr ⟨h1, h2, h3, by rw [if_pos hb, if_pos h3], by rw [if_pos hb, if_pos h3]⟩))
          · exact .inr (.inr (.inl ⟨h1, h2, h3, by rw [if_pos hb, if_neg h3], by rw [if_pos hb, if_neg h3]⟩))
        · have hb : bothQ s.data.toList t.data.toList = chkQ t.data.toList := if_pos h1
          exact .inr (.inl ⟨h1, h2, by rw [hb, if_neg h2], by rw [hb, if_neg h2]⟩)
      · have hb : bothQ s.data.toList t.data.toList = chkQ s.data.toList := if_neg h1
        exact .inl ⟨h1, by rw [hb, if_neg h1], by rw [hb, if_neg h1]⟩
    have HY1 := hide (fun (h : natQ s.data.toList) => natOV_yes h)
    have HNN1 := hide (fun (h : ¬ natQ s.data.toList) => natOV_no h)
    have HNN2 := hide (fun (h : ¬ natQ t.data.toList) => natOV_no h)
    rcases hk with ⟨h1, e1, e2⟩ | ⟨h1, h2, e1, e2⟩ | ⟨h1, h2, h3, e1, e2⟩ | ⟨h1, h2, h3, e1, e2⟩
    · rw [e1, e2]
      rw [readV_bad h1] at HR1
      have hne : (chkQ s.data.toList != 0) = true := by simpa using h1
      obtain ⟨E, hE⟩ : ∃ E, E = chkQ s.data.toList := ⟨_, rfl⟩
      rw [← hE] at HR1 hne ⊢
      clear hE h1 e1 e2 hq hT
      rcases hway with ⟨n1, n2⟩ | n1
      · rw [HY1.out n1] at HN1
        rw [HNN2.out n2] at HN2
        clear n1 n2
        obtain ⟨x, hx⟩ : ∃ x, x = (valQ s.data.toList).num := ⟨_, rfl⟩
        obtain ⟨p, hp⟩ : ∃ y, y = ((valQ s.data.toList).den : Int) := ⟨_, rfl⟩
        rw [← hx, ← hp] at HN1
        clear hx hp
        go_enter Tryz.func24, Tryz.ntmps24
        go_wp2_with fail
        refine HN1.out.mono ?_
        rintro e w1 ⟨rfl, hb1⟩
        have HB1 := hide (hb1.trans ((heap1 w1 (natO x p)).2.2.mono hb1.size))
        clear hb1
        go_wp2_with fail
        refine (HN2.out _).mono ?_
        rintro e w2 ⟨rfl, hb2⟩
        have HB2 := hide (HB1.out.trans (hb2.mono HB1.out.size))
        have HB2b := hide (HB2.out.trans ((heap1 w2 (natO 0 0)).2.2.mono HB2.out.size))
        clear hb2
        go_wp2_with fail
        refine (HR1.out _ (Nat.le_trans hB HB2b.out.size) (HT.out.on HB2b.out hB)).mono ?_
        rintro e w3 ⟨rfl, hb3⟩
        have HB3 := hide (HB2b.out.trans (hb3.mono HB2b.out.size))
        clear hb3
        go_wp2_with fail
        refine bodyPost_ret (results_tmp2 rfl _ _ _) rfl ?_
        exact ⟨rfl, HB3.out.trans ((heap1 w3 _).2.2.mono HB3.out.size)⟩
      · rw [HNN1.out n1] at HN1
        clear n1
        go_enter Tryz.func24, Tryz.ntmps24
        go_wp2_with fail
        refine HN1.out.mono ?_
        rintro e w1 ⟨rfl, hb1⟩
        have HB2b := hide (hb1.trans ((heap1 w1 (natO 0 0)).2.2.mono hb1.size))
        clear hb1
        go_wp2_with fail
        refine (HR1.out _ (Nat.le_trans hB HB2b.out.size) (HT.out.on HB2b.out hB)).mono ?_
        rintro e w3 ⟨rfl, hb3⟩
        have HB3 := hide (HB2b.out.trans (hb3.mono HB2b.out.size))
        clear hb3
        go_wp2_with fail
        refine bodyPost_ret (results_tmp2 rfl _ _ _) rfl ?_
        exact ⟨rfl, HB3.out.trans ((heap1 w3 _).2.2.mono HB3.out.size)⟩
    · rw [e1, e2]
      rw [readV_good h1] at HR1
      rw [readV_bad h2] at HR2
      have hne : (chkQ t.data.toList != 0) = true := by simpa using h2
      obtain ⟨E, hE⟩ : ∃ E, E = chkQ t.data.toList := ⟨_, rfl⟩
      rw [← hE] at HR2 hne ⊢
      obtain ⟨n, hn⟩ : ∃ n, n = strB (Lib.itoa (valQ s.data.toList).num) := ⟨_, rfl⟩
      obtain ⟨d, hd⟩ : ∃ d, d = strB (Lib.itoa ((valQ s.data.toList).den : Int)) := ⟨_, rfl⟩
      rw [← hn, ← hd] at HR1
      clear hE h1 h2 e1 e2 hq hT hn hd
      rcases hway with ⟨n1, n2⟩ | n1
      · rw [HY1.out n1] at HN1
        rw [HNN2.out n2] at HN2
        clear n1 n2
        obtain ⟨x, hx⟩ : ∃ x, x = (valQ s.data.toList).num := ⟨_, rfl⟩
        obtain ⟨p, hp⟩ : ∃ y, y = ((valQ s.data.toList).den : Int) := ⟨_, rfl⟩
        rw [← hx, ← hp] at HN1
        clear hx hp
        go_enter Tryz.func24, Tryz.ntmps24
        go_wp2_with fail
        refine HN1.out.mono ?_
        rintro e w1 ⟨rfl, hb1⟩
        have HB1 := hide (hb1.trans ((heap1 w1 (natO x p)).2.2.mono hb1.size))
        clear hb1
        go_wp2_with fail
        refine (HN2.out _).mono ?_
        rintro e w2 ⟨rfl, hb2⟩
        have HB2 := hide (HB1.out.trans (hb2.mono HB1.out.size))
        have HB2b := hide (HB2.out.trans ((heap1 w2 (natO 0 0)).2.2.mono HB2.out.size))
        clear hb2
        go_wp2_with fail
        refine (HR1.out _ (Nat.le_trans hB HB2b.out.size) (HT.out.on HB2b.out hB)).mono ?_
        rintro e w3 ⟨rfl, hb3⟩
        have HB3 := hide (HB2b.out.trans (hb3.mono HB2b.out.size))
        have X3 := hide (heap1 w3 (partsO n d))
        have HB3b := hide (HB3.out.trans (X3.out.2.2.mono HB3.out.size))
        clear hb3
        go_wp2_with fail
        refine (HR2.out _ (Nat.le_trans hB HB3b.out.size) (HT.out.on HB3b.out hB)).mono ?_
        rintro e w4 ⟨rfl, hb4⟩
        have G4 := hide (below_blk hb4 X3.out.1 (lt_blk X3.out.1))
        have HB4 := hide (HB3b.out.trans (hb4.mono HB3b.out.size))
        clear hb4
        go_wp2_with fail
        refine bodyPost_ret (results_tmp2 rfl _ _ _) rfl ?_
        exact ⟨rfl, HB4.out.trans ((heap1 w4 _).2.2.mono HB4.out.size)⟩
      · rw [HNN1.out n1] at HN1
        clear n1
        go_enter Tryz.func24, Tryz.ntmps24
        go_wp2_with fail
        refine HN1.out.mono ?_
        rintro e w1 ⟨rfl, hb1⟩
        have HB2b := hide (hb1.trans ((heap1 w1 (natO 0 0)).2.2.mono hb1.size))
        clear hb1
        go_wp2_with fail
        refine (HR1.out _ (Nat.le_trans hB HB2b.out.size) (HT.out.on HB2b.out hB)).mono ?_
        rintro e w3 ⟨rfl, hb3⟩
        have HB3 := hide (HB2b.out.trans (hb3.mono HB2b.out.size))
        have X3 := hide (heap1 w3 (partsO n d))
        have HB3b := hide (HB3.out.trans (X3.out.2.2.mono HB3.out.size))
        clear hb3
        go_wp2_with fail
        refine (HR2.out _ (Nat.le_trans hB HB3b.out.size) (HT.out.on HB3b.out hB)).mono ?_
        rintro e w4 ⟨rfl, hb4⟩
        have G4 := hide (below_blk hb4 X3.out.1 (lt_blk X3.out.1))
        have HB4 := hide (HB3b.out.trans (hb4.mono HB3b.out.size))
        clear hb4
        go_wp2_with fail
        refine bodyPost_ret (results_tmp2 rfl _ _ _) rfl ?_
        exact ⟨rfl, HB4.out.trans ((heap1 w4 _).2.2.mono HB4.out.size)⟩
    · rw [e1, e2]
      rw [readV_good h1] at HR1
      rw [readV_good h2] at HR2
      have HC := hide (fun w hB hT => crossed_no (four_of h1 h2) h3 B w hB hT)
      obtain ⟨n, hn⟩ : ∃ n, n = strB (Lib.itoa (valQ s.data.toList).num) := ⟨_, rfl⟩
      obtain ⟨d, hd⟩ : ∃ d, d = strB (Lib.itoa ((valQ s.data.toList).den : Int)) := ⟨_, rfl⟩
      obtain ⟨m, hm⟩ : ∃ n, n = strB (Lib.itoa (valQ t.data.toList).num) := ⟨_, rfl⟩
      obtain ⟨c, hc⟩ : ∃ d, d = strB (Lib.itoa ((valQ t.data.toList).den : Int)) := ⟨_, rfl⟩
      rw [← hn, ← hd] at HR1 HC
      rw [← hm, ← hc] at HR2 HC
      clear h1 h2 h3 e1 e2 hq hT hn hd hm hc
      rcases hway with ⟨n1, n2⟩ | n1
      · rw [HY1.out n1] at HN1
        rw [HNN2.out n2] at HN2
        clear n1 n2
        obtain ⟨x, hx⟩ : ∃ x, x = (valQ s.data.toList).num := ⟨_, rfl⟩
        obtain ⟨p, hp⟩ : ∃ y, y = ((valQ s.data.toList).den : Int) := ⟨_, rfl⟩
        rw [← hx, ← hp] at HN1
        clear hx hp
        go_enter Tryz.func24, Tryz.ntmps24
        go_wp2_with fail
        refine HN1.out.mono ?_
        rintro e w1 ⟨rfl, hb1⟩
        have HB1 := hide (hb1.trans ((heap1 w1 (natO x p)).2.2.mono hb1.size))
        clear hb1
        go_wp2_with fail
        refine (HN2.out _).mono ?_
        rintro e w2 ⟨rfl, hb2⟩
        have HB2 := hide (HB1.out.trans (hb2.mono HB1.out.size))
        have HB2b := hide (HB2.out.trans ((heap1 w2 (natO 0 0)).2.2.mono HB2.out.size))
        clear hb2
        go_wp2_with fail
        refine (HR1.out _ (Nat.le_trans hB HB2b.out.size) (HT.out.on HB2b.out hB)).mono ?_
        rintro e w3 ⟨rfl, hb3⟩
        have HB3 := hide (HB2b.out.trans (hb3.mono HB2b.out.size))
        have X3 := hide (heap1 w3 (partsO n d))
        have HB3b := hide (HB3.out.trans (X3.out.2.2.mono HB3.out.size))
        clear hb3
        go_wp2_with fail
        refine (HR2.out _ (Nat.le_trans hB HB3b.out.size) (HT.out.on HB3b.out hB)).mono ?_
        rintro e w4 ⟨rfl, hb4⟩
        have G4 := hide (below_blk hb4 X3.out.1 (lt_blk X3.out.1))
        have HB4 := hide (HB3b.out.trans (hb4.mono HB3b.out.size))
        clear hb4
        have X4 := hide (heap1 w4 (partsO m c))
        have HB4b := hide (HB4.out.trans (X4.out.2.2.mono HB4.out.size))
        have c0 := cell_blk G4.out 0
        have c1 := cell_blk G4.out 1
        have hl := lt_blk G4.out
        go_wp2_with fail
        refine (HC.out _ (Nat.le_trans hB HB4b.out.size) (HT.out.p10.on HB4b.out hB)).mono ?_
        rintro e w5 ⟨u, v, rfl, hb5⟩
        have HB5 := hide (HB4b.out.trans (hb5.mono HB4b.out.size))
        clear hb5
        go_wp2_with fail
        refine bodyPost_ret (results_tmp2 rfl _ _ _) rfl ?_
        exact ⟨rfl, HB5.out⟩
      · rw [HNN1.out n1] at HN1
        clear n1
        go_enter Tryz.func24, Tryz.ntmps24
        go_wp2_with fail
        refine HN1.out.mono ?_
        rintro e w1 ⟨rfl, hb1⟩
        have HB2b := hide (hb1.trans ((heap1 w1 (natO 0 0)).2.2.mono hb1.size))
        clear hb1
        go_wp2_with fail
        refine (HR1.out _ (Nat.le_trans hB HB2b.out.size) (HT.out.on HB2b.out hB)).mono ?_
        rintro e w3 ⟨rfl, hb3⟩
        have HB3 := hide (HB2b.out.trans (hb3.mono HB2b.out.size))
        have X3 := hide (heap1 w3 (partsO n d))
        have HB3b := hide (HB3.out.trans (X3.out.2.2.mono HB3.out.size))
        clear hb3
        go_wp2_with fail
        refine (HR2.out _ (Nat.le_trans hB HB3b.out.size) (HT.out.on HB3b.out hB)).mono ?_
        rintro e w4 ⟨rfl, hb4⟩
        have G4 := hide (below_blk hb4 X3.out.1 (lt_blk X3.out.1))
        have HB4 := hide (HB3b.out.trans (hb4.mono HB3b.out.size))
        clear hb4
        have X4 := hide (heap1 w4 (partsO m c))
        have HB4b := hide (HB4.out.trans (X4.out.2.2.mono HB4.out.size))
        have c0 := cell_blk G4.out 0
        have c1 := cell_blk G4.out 1
        have hl := lt_blk G4.out
        go_wp2_with fail
        refine (HC.out _ (Nat.le_trans hB HB4b.out.size) (HT.out.p10.on HB4b.out hB)).mono ?_
        rintro e w5 ⟨u, v, rfl, hb5⟩
        have HB5 := hide (HB4b.out.trans (hb5.mono HB4b.out.size))
        clear hb5
        go_wp2_with fail
        refine bodyPost_ret (results_tmp2 rfl _ _ _) rfl ?_
        exact ⟨rfl, HB5.out⟩
    · rw [e1, e2]
      rw [readV_good h1] at HR1
      rw [readV_good h2] at HR2
      have HC := hide (fun w hB hT => crossed_yes (four_of h1 h2) h3.1 h3.2 B w hB hT)
      unfold cmpI
      have HI := hide (fun w => Compare_good (s := strB (Lib.itoa ((valQ s.data.toList).num * ((valQ t.data.toList).den : Int)))) (t := strB (Lib.itoa ((valQ t.data.toList).num * ((valQ s.data.toList).den : Int)))) (strB_list _) (strB_list _) h3.1 h3.2 w)
      obtain ⟨n, hn⟩ : ∃ n, n = strB (Lib.itoa (valQ s.data.toList).num) := ⟨_, rfl⟩
      obtain ⟨d, hd⟩ : ∃ d, d = strB (Lib.itoa ((valQ s.data.toList).den : Int)) := ⟨_, rfl⟩
      obtain ⟨m, hm⟩ : ∃ n, n = strB (Lib.itoa (valQ t.data.toList).num) := ⟨_, rfl⟩
      obtain ⟨c, hc⟩ : ∃ d, d = strB (Lib.itoa ((valQ t.data.toList).den : Int)) := ⟨_, rfl⟩
      rw [← hn, ← hd] at HR1 HC
      rw [← hm, ← hc] at HR2 HC
      obtain ⟨U, hU⟩ : ∃ n, n = strB (Lib.itoa ((valQ s.data.toList).num * ((valQ t.data.toList).den : Int))) := ⟨_, rfl⟩
      obtain ⟨V, hV⟩ : ∃ n, n = strB (Lib.itoa ((valQ t.data.toList).num * ((valQ s.data.toList).den : Int))) := ⟨_, rfl⟩
      rw [← hU, ← hV] at HC HI
      obtain ⟨K, hK⟩ : ∃ K, K = Lib.compareInt ((valQ s.data.toList).num * ((valQ t.data.toList).den : Int)) ((valQ t.data.toList).num * ((valQ s.data.toList).den : Int)) := ⟨_, rfl⟩
      rw [← hK] at HI ⊢
      clear h1 h2 h3 e1 e2 hq hT hn hd hm hc hU hV hK
      rcases hway with ⟨n1, n2⟩ | n1
      · rw [HY1.out n1] at HN1
        rw [HNN2.out n2] at HN2
        clear n1 n2
        obtain ⟨x, hx⟩ : ∃ x, x = (valQ s.data.toList).num := ⟨_, rfl⟩
        obtain ⟨p, hp⟩ : ∃ y, y = ((valQ s.data.toList).den : Int) := ⟨_, rfl⟩
        rw [← hx, ← hp] at HN1
        clear hx hp
        go_enter Tryz.func24, Tryz.ntmps24
        go_wp2_with fail
        refine HN1.out.mono ?_
        rintro e w1 ⟨rfl, hb1⟩
        have HB1 := hide (hb1.trans ((heap1 w1 (natO x p)).2.2.mono hb1.size))
        clear hb1
        go_wp2_with fail
        refine (HN2.out _).mono ?_
        rintro e w2 ⟨rfl, hb2⟩
        have HB2 := hide (HB1.out.trans (hb2.mono HB1.out.size))
        have HB2b := hide (HB2.out.trans ((heap1 w2 (natO 0 0)).2.2.mono HB2.out.size))
        clear hb2
        go_wp2_with fail
        refine (HR1.out _ (Nat.le_trans hB HB2b.out.size) (HT.out.on HB2b.out hB)).mono ?_
        rintro e w3 ⟨rfl, hb3⟩
        have HB3 := hide (HB2b.out.trans (hb3.mono HB2b.out.size))
        have X3 := hide (heap1 w3 (partsO n d))
        have HB3b := hide (HB3.out.trans (X3.out.2.2.mono HB3.out.size))
        clear hb3
        go_wp2_with fail
        refine (HR2.out _ (Nat.le_trans hB HB3b.out.size) (HT.out.on HB3b.out hB)).mono ?_
        rintro e w4 ⟨rfl, hb4⟩
        have G4 := hide (below_blk hb4 X3.out.1 (lt_blk X3.out.1))
        have HB4 := hide (HB3b.out.trans (hb4.mono HB3b.out.size))
        clear hb4
        have X4 := hide (heap1 w4 (partsO m c))
        have HB4b := hide (HB4.out.trans (X4.out.2.2.mono HB4.out.size))
        have c0 := cell_blk G4.out 0
        have c1 := cell_blk G4.out 1
        have hl := lt_blk G4.out
        go_wp2_with fail
        refine (HC.out _ (Nat.le_trans hB HB4b.out.size) (HT.out.p10.on HB4b.out hB)).mono ?_
        rintro e w5 ⟨rfl, hb5⟩
        have HB5 := hide (HB4b.out.trans (hb5.mono HB4b.out.size))
        clear hb5
        go_wp2_with fail
        refine (HI.out _).mono ?_
        rintro e w6 ⟨rfl, hb6⟩
        have HB6 := hide (HB5.out.trans (hb6.mono HB5.out.size))
        clear hb6
        go_wp2_with fail
        refine bodyPost_ret (results_tmp2 rfl _ _ _) rfl ?_
        exact ⟨rfl, HB6.out⟩
      · rw [HNN1.out n1] at HN1
        clear n1
        go_enter Tryz.func24, Tryz.ntmps24
        go_wp2_with fail
        refine HN1.out.mono ?_
        rintro e w1 ⟨rfl, hb1⟩
        have HB2b := hide (hb1.trans ((heap1 w1 (natO 0 0)).2.2.mono hb1.size))
        clear hb1
        go_wp2_with fail
        refine (HR1.out _ (Nat.le_trans hB HB2b.out.size) (HT.out.on HB2b.out hB)).mono ?_
        rintro e w3 ⟨rfl, hb3⟩
        have HB3 := hide (HB2b.out.trans (hb3.mono HB2b.out.size))
        have X3 := hide (heap1 w3 (partsO n d))
        have HB3b := hide (HB3.out.trans (X3.out.2.2.mono HB3.out.size))
        clear hb3
        go_wp2_with fail
        refine (HR2.out _ (Nat.le_trans hB HB3b.out.size) (HT.out.on HB3b.out hB)).mono ?_
        rintro e w4 ⟨rfl, hb4⟩
        have G4 := hide (below_blk hb4 X3.out.1 (lt_blk X3.out.1))
        have HB4 := hide (HB3b.out.trans (hb4.mono HB3b.out.size))
        clear hb4
        have X4 := hide (heap1 w4 (partsO m c))
        have HB4b := hide (HB4.out.trans (X4.out.2.2.mono HB4.out.size))
        have c0 := cell_blk G4.out 0
        have c1 := cell_blk G4.out 1
        have hl := lt_blk G4.out
        go_wp2_with fail
        refine (HC.out _ (Nat.le_trans hB HB4b.out.size) (HT.out.p10.on HB4b.out hB)).mono ?_
        rintro e w5 ⟨rfl, hb5⟩
        have HB5 := hide (HB4b.out.trans (hb5.mono HB4b.out.size))
        clear hb5
        go_wp2_with fail
        refine (HI.out _).mono ?_
        rintro e w6 ⟨rfl, hb6⟩
        have HB6 := hide (HB5.out.trans (hb6.mono HB5.out.size))
        clear hb6
        go_wp2_with fail
        refine bodyPost_ret (results_tmp2 rfl _ _ _) rfl ?_
        exact ⟨rfl, HB6.out⟩
end Go.Proofs.YtfgjpnoeibiaaaaGreatDoor
namespace Go.Proofs.YtfgjpnoeibiaaaaGreatDoor
open Go.RowKit Go.KP Go.KI Go.Shelf

theorem ratS_len {x : Rat} (h : fitsQ x) : (ratS x).length ≤ 1000 := by
  have h1 := itoa_len x.num
  have h2 := fits_len.1 h.1
  have h3 := fits_nat.1 h.2
  unfold ratS
  split
  · omega
  · rw [List.length_append, List.length_cons]
    omega
theorem good_len {s : ByteArray} {x : Rat} (h : s.data.toList = ratS x) (f : fitsQ x) : s.size ≤ 1000000 := by
  have := ratS_len f
  rw [← bytes_len, h]
  omega
theorem good_val {s : ByteArray} {x : Rat} (h : s.data.toList = ratS x) (f : fitsQ x) : chkQ s.data.toList = 0 ∧ valQ s.data.toList = x := by
  rw [h, ratS_num]
  exact ⟨chkQ_fits f, rfl⟩
theorem qadd_to {s t : ByteArray} {x y : Rat} (h1 : s.data.toList = ratS x) (h2 : t.data.toList = ratS y) (f1 : fitsQ x) (f2 : fitsQ y) (hc : addC x y) (B : Nat) (w : World) (hB : B ≤ w.heap.size) (hT : PQ B w) :
    Calls Tryz.prog 29 #[.string s, .string t] w (Ret w (.tuple #[.string (strB (ratS (x + y))), .int .i64 0])) := by
  obtain ⟨a1, a2⟩ := good_val h1 f1
  obtain ⟨b1, b2⟩ := good_val h2 f2
  have h := qAdd_any s t (good_len h1 f1) (good_len h2 f2) B w hB hT
  unfold qopS qopE at h
  rw [if_pos (zero_bothQ a1 b1), if_pos (zero_bothQ a1 b1), a2, b2, if_pos hc, if_pos hc] at h
  exact h
theorem qsub_to {s t : ByteArray} {x y : Rat} (h1 : s.data.toList = ratS x) (h2 : t.data.toList = ratS y) (f1 : fitsQ x) (f2 : fitsQ y) (hc : subC x y) (B : Nat) (w : World) (hB : B ≤ w.heap.size) (hT : PQ B w) :
    Calls Tryz.prog 68 #[.string s, .string t] w (Ret w (.tuple #[.string (strB (ratS (x - y))), .int .i64 0])) := by
  obtain ⟨a1, a2⟩ := good_val h1 f1
  obtain ⟨b1, b2⟩ := good_val h2 f2
  have h := qSub_any s t (good_len h1 f1) (good_len h2 f2) B w hB hT
  unfold qopS qopE at h
  rw [if_pos (zero_bothQ a1 b1), if_pos (zero_bothQ a1 b1), a2, b2, if_pos hc, if_pos hc] at h
  exact h
theorem qmul_to {s t : ByteArray} {x y : Rat} (h1 : s.data.toList = ratS x) (h2 : t.data.toList = ratS y) (f1 : fitsQ x) (f2 : fitsQ y) (hc : mulC x y) (B : Nat) (w : World) (hB : B ≤ w.heap.size) (hT : PQ B w) :
    Calls Tryz.prog 26 #[.string s, .string t] w (Ret w (.tuple #[.string (strB (ratS (x * y))), .int .i64 0])) := by
  obtain ⟨a1, a2⟩ := good_val h1 f1
  obtain ⟨b1, b2⟩ := good_val h2 f2
  have h := qMul_any s t (good_len h1 f1) (good_len h2 f2) B w hB hT
  unfold qopS qopE at h
  rw [if_pos (zero_bothQ a1 b1), if_pos (zero_bothQ a1 b1), a2, b2, if_pos hc, if_pos hc] at h
  exact h
theorem qdiv_to {s t : ByteArray} {x y : Rat} (h1 : s.data.toList = ratS x) (h2 : t.data.toList = ratS y) (f1 : fitsQ x) (f2 : fitsQ y) (hy : y ≠ 0) (hc : cmpC x y) (B : Nat) (w : World) (hB : B ≤ w.heap.size) (hT : PQ B w) :
    Calls Tryz.prog 51 #[.string s, .string t] w (Ret w (.tuple #[.string (strB (ratS (x / y))), .int .i64 0])) := by
  obtain ⟨a1, a2⟩ := good_val h1 f1
  obtain ⟨b1, b2⟩ := good_val h2 f2
  have h := qDiv_any s t (good_len h1 f1) (good_len h2 f2) B w hB hT
  unfold divS divE at h
  rw [if_pos (zero_bothQ a1 b1), if_pos (zero_bothQ a1 b1), a2, b2, if_neg hy, if_neg hy, if_pos hc, if_pos hc] at h
  exact h
theorem qfloor_to {s : ByteArray} {x : Rat} (h1 : s.data.toList = ratS x) (f1 : fitsQ x) (B : Nat) (w : World) (hB : B ≤ w.heap.size) (hT : PQ B w) :
    Calls Tryz.prog 52 #[.string s] w (Ret w (.tuple #[.string (strB (ratS ((x.floor : Int) : Rat))), .int .i64 0])) := by
  obtain ⟨a1, a2⟩ := good_val h1 f1
  have h := qFloor_any s (good_len h1 f1) B w hB hT
  unfold floorS at h
  rw [if_pos a1, a1, a2, ← ratS_int] at h
  exact h
theorem qcmp_to {s t : ByteArray} {x y : Rat} (h1 : s.data.toList = ratS x) (h2 : t.data.toList = ratS y) (f1 : fitsQ x) (f2 : fitsQ y) (hc : cmpC x y) (B : Nat) (w : World) (hB : B ≤ w.heap.size) (hT : PQ B w) :
    Calls Tryz.prog 24 #[.string s, .string t] w (Ret w (.tuple #[.int .i64 (if x < y then -1 else if y < x then 1 else 0), .int .i64 0])) := by
  obtain ⟨a1, a2⟩ := good_val h1 f1
  obtain ⟨b1, b2⟩ := good_val h2 f2
  have h := qCompare_any s t (good_len h1 f1) (good_len h2 f2) B w hB hT
  unfold cmpN cmpE cmpI at h
  rw [if_pos (zero_bothQ a1 b1), if_pos (zero_bothQ a1 b1), a2, b2, if_pos hc, if_pos hc, cmpQ] at h
  exact h
end Go.Proofs.YtfgjpnoeibiaaaaGreatDoor
namespace Go.KI
open Go

theorem sgn_num (z : Int) (x : Rat) : sgn (decide (z < 0)) (((z.natAbs : Nat) : Rat) * x) = (z : Rat) * x := by
  unfold sgn
  by_cases h : z < 0
  · have e : (z : Rat) = -((z.natAbs : Nat) : Rat) := by
      have : z = -((z.natAbs : Nat) : Int) := by omega
      conv => lhs; rw [this]
      rw [Rat.intCast_neg]
      rfl
    simp only [h, decide_true, if_true]
    rw [e, Rat.neg_mul]
  · have e : (z : Rat) = ((z.natAbs : Nat) : Rat) := by
      have : z = ((z.natAbs : Nat) : Int) := by omega
      conv => lhs; rw [this]
      rfl
    simp only [h, decide_false]
    rw [e]
    rfl
theorem rat_parts (q : Rat) : (q.num : Rat) * ((q.den : Nat) : Rat)⁻¹ = q := by
  rw [← Rat.div_def]
  have := Rat.mkRat_eq_div q.num q.den
  rw [Rat.mkRat_self] at this
  exact this.symm
/-- The text of a number with zeros in front of its digits. -/
def zerosT (q : Rat) (z : Nat) : List UInt8 := (if decide (q.num < 0) then [45] else []) ++ (List.replicate z 48 ++ digs (ratS q))
theorem dv_zeros_front (z : Nat) (l : List UInt8) : dv (List.replicate z 48 ++ l) = dv l := by
  rw [dv_append, dv_rep]
  omega
theorem rep_dg {z : Nat} {l : List UInt8} (h : ∀ c ∈ l, isDg c = true) : ∀ c ∈ List.replicate z (48 : UInt8) ++ l, isDg c = true := by
  intro c hc
  rcases List.mem_append.1 hc with h1 | h1
  · rw [List.eq_of_mem_replicate h1]; rfl
  · exact h c h1
theorem parse_zeros (q : Rat) (z : Nat) (hl : (zerosT q z).length ≤ 90) : parseE (zerosT q z) = 0 ∧ parseV (zerosT q z) = q := by
  obtain ⟨e1, _⟩ := digs_ratS q
  unfold zerosT at hl ⊢
  rw [e1] at hl ⊢
  obtain ⟨A, hA⟩ : ∃ A, A = List.replicate z (48 : UInt8) ++ Lib.decDigits q.num.natAbs := ⟨_, rfl⟩
  have hAd : ∀ c ∈ A, isDg c = true := by rw [hA]; exact rep_dg (decDigits_dg _)
  have hAn : A ≠ [] := by rw [hA]; simp [decDigits_ne]
  have hAv : dv A = q.num.natAbs := by rw [hA, dv_zeros_front, dv_decDigits]
  rw [← List.append_assoc (List.replicate z 48), ← hA] at hl ⊢
  have n46 : ¬ 46 ∈ A := fun h => dg_ne (hAd _ h) (by decide) rfl
  have n47 : ¬ 47 ∈ A := fun h => dg_ne (hAd _ h) (by decide) rfl
  have hhd : ∀ (r : List UInt8) c, (A ++ r).head? = some c → isDg c = true := by
    intro r c hc
    cases hq : A with
    | nil => exact absurd hq hAn
    | cons a b =>
      rw [hq] at hc hAd
      injection hc with hc
      rw [← hc]
      exact hAd a (by simp)
  by_cases hd : q.den = 1
  · rw [if_pos hd, List.append_nil] at hl ⊢
    obtain ⟨d1, d2⟩ := digs_sign (decide (q.num < 0)) (r := A) (by have := hhd []; rwa [List.append_nil] at this) hAn
    unfold parseE parseV
    rw [d1, d2, if_neg (by omega), if_neg n46, if_neg n46, cut_not n47, if_neg (by
      rintro (h | h)
      · exact h ⟨hAn, hAd⟩
      · exact n47 h.1), if_neg (fun h => n47 h.1), if_neg n47, hAv]
    refine ⟨rfl, ?_⟩
    rw [Rat.div_def, sgn_num]
    have := rat_parts q
    rw [hd] at this
    exact this
  · rw [if_neg hd] at hl ⊢
    obtain ⟨d1, d2⟩ := digs_sign (decide (q.num < 0)) (r := A ++ 47 :: Lib.decDigits q.den) (hhd _) (by simp)
    obtain ⟨k1, k2, k3⟩ := cut_at (c := 47) (a := A) (b := Lib.decDigits q.den) (fun x hx => dg_ne (hAd x hx) (by decide))
    have n46b : ¬ 46 ∈ A ++ 47 :: Lib.decDigits q.den := by
      intro h
      rcases List.mem_append.1 h with h | h
      · exact n46 h
      · rcases List.mem_cons.1 h with h | h
        · exact absurd h (by decide)
        · exact dg_ne (decDigits_dg _ _ h) (by decide) rfl
    unfold parseE parseV
    rw [d1, d2, if_neg (by omega), if_neg n46b, if_neg n46b, k1, k2, if_neg (by
      rintro (h | h)
      · exact h ⟨hAn, hAd⟩
      · exact h.2 ⟨decDigits_ne _, decDigits_dg _⟩), if_neg (fun h => q.den_nz (by have := h.2; rwa [dv_decDigits] at this)), if_pos k3, hAv, dv_decDigits]
    exact ⟨rfl, by rw [Rat.div_def, sgn_num]; exact rat_parts q⟩
/-- The text itself. -/
theorem zerosT_zero (q : Rat) : zerosT q 0 = ratS q := by
  obtain ⟨e1, e2⟩ := digs_ratS q
  unfold zerosT
  rw [e1]
  unfold ratS
  rcases itoa_cases q.num with ⟨h, hi⟩ | ⟨h, hi⟩
  · by_cases hd : q.den = 1 <;> simp [h, hi, hd]
  · have hn : ¬ q.num < 0 := by omega
    by_cases hd : q.den = 1 <;> simp [hn, hi, hd]
/-- The nearest integer to n / d, the greater one of two. -/
def near2 (n : Int) (d : Int) : Int := (2 * n + d).fdiv (2 * d)
theorem near2_spec {n d : Int} (hd : 0 < d) : 2 * d * near2 n d ≤ 2 * n + d ∧ 2 * n + d < 2 * d * near2 n d + 2 * d := by
  unfold near2
  rw [Int.fdiv_eq_ediv_of_nonneg _ (by omega)]
  have h1 := Int.mul_ediv_add_emod (2 * n + d) (2 * d)
  have h2 := Int.emod_nonneg (2 * n + d) (show 2 * d ≠ 0 by omega)
  have h3 := Int.emod_lt_of_pos (2 * n + d) (show 0 < 2 * d by omega)
  omega
end Go.KI
namespace Go.KI
open Go

/-- The text of so many twelfths of an inch. -/
def feetT (m : Int) : List UInt8 :=
  (if decide (m < 0) then [45] else []) ++ (Lib.decDigits (m.natAbs / 144) ++ 39 :: (Lib.decDigits (m.natAbs % 144 / 12) ++ 34 :: Lib.decDigits (m.natAbs % 144 % 12)))
/-- A text of 0 to 11. -/
def smallT (l : List UInt8) : Prop := (l.length = 1 ∧ allDg l) ∨ l = [49, 48] ∨ l = [49, 49]
instance (l : List UInt8) : Decidable (smallT l) := inferInstanceAs (Decidable (_ ∨ _ ∨ _))
theorem ten_dec : Lib.decDigits 10 = [49, 48] := by rw [Lib.decDigits, dif_neg (by omega), show 10 / 10 = 1 from rfl, one_dec]; rfl
theorem eleven_dec : Lib.decDigits 11 = [49, 49] := by rw [Lib.decDigits, dif_neg (by omega), show 11 / 10 = 1 from rfl, one_dec]; rfl
theorem smallT_dec {l : List UInt8} (h : smallT l) : l = Lib.decDigits (dv l) ∧ dv l ≤ 11 := by
  rcases h with ⟨h1, h2⟩ | h | h
  · refine ⟨dec_of h2.1 h2.2 (fun hl => by omega), ?_⟩
    have := dv_lt l h2.2
    rw [h1] at this
    omega
  · rw [h]
    exact ⟨by rw [show dv [49, 48] = 10 from rfl, ten_dec], by decide⟩
  · rw [h]
    exact ⟨by rw [show dv [49, 49] = 11 from rfl, eleven_dec], by decide⟩
theorem dec_smallT {u : Nat} (h : u ≤ 11) : smallT (Lib.decDigits u) := by
  rcases (show u < 10 ∨ u = 10 ∨ u = 11 by omega) with h1 | h1 | h1
  · refine .inl ⟨?_, decDigits_ne u, decDigits_dg u⟩
    rw [Lib.decDigits_one h1]
    rfl
  · rw [h1, ten_dec]; exact .inr (.inl rfl)
  · rw [h1, eleven_dec]; exact .inr (.inr rfl)
/-- Is it a text of feet? -/
def feetOK (l : List UInt8) : Prop :=
  39 ∈ digs l ∧ 34 ∈ behind 39 (digs l) ∧ numeral (ahead 39 (digs l)) ∧ smallT (ahead 34 (behind 39 (digs l))) ∧ smallT (behind 34 (behind 39 (digs l))) ∧ l ≠ [45, 48, 39, 48, 34, 48]
instance (l : List UInt8) : Decidable (feetOK l) := inferInstanceAs (Decidable (_ ∧ _ ∧ _ ∧ _ ∧ _ ∧ _))
/-- How many twelfths it says. -/
def feetV (l : List UInt8) : Int := (if isNeg l then -1 else 1) * (((dv (ahead 39 (digs l)) * 12 + dv (ahead 34 (behind 39 (digs l)))) * 12 + dv (behind 34 (behind 39 (digs l))) : Nat) : Int)
theorem no_quote {c : UInt8} (hc : isDg c = false) (u : Nat) : ∀ x ∈ Lib.decDigits u, x ≠ c := fun x hx => dg_ne (decDigits_dg u x hx) hc
theorem feetT_cut (neg : Bool) (u i t : Nat) : digs ((if neg then [45] else []) ++ (Lib.decDigits u ++ 39 :: (Lib.decDigits i ++ 34 :: Lib.decDigits t))) = Lib.decDigits u ++ 39 :: (Lib.decDigits i ++ 34 :: Lib.decDigits t) ∧
    isNeg ((if neg then [45] else []) ++ (Lib.decDigits u ++ 39 :: (Lib.decDigits i ++ 34 :: Lib.decDigits t))) = neg := by
  refine digs_sign neg ?_ (by simp)
  intro c hc
  cases hq : Lib.decDigits u with
  | nil => exact absurd hq (decDigits_ne u)
  | cons a b =>
    rw [hq] at hc
    injection hc with hc
    rw [← hc]
    exact decDigits_dg u a (by rw [hq]; simp)
theorem feetT_ok (m : Int) : feetOK (feetT m) ∧ feetV (feetT m) = m := by
  unfold feetT
  obtain ⟨u, hu⟩ : ∃ u, u = m.natAbs / 144 := ⟨_, rfl⟩
  obtain ⟨i, hi⟩ : ∃ i, i = m.natAbs % 144 / 12 := ⟨_, rfl⟩
  obtain ⟨t, ht⟩ : ∃ t, t = m.natAbs % 144 % 12 := ⟨_, rfl⟩
  rw [← hu, ← hi, ← ht]
  obtain ⟨d1, d2⟩ := feetT_cut (decide (m < 0)) u i t
  obtain ⟨k1, k2, k3⟩ := cut_at (c := 39) (a := Lib.decDigits u) (b := Lib.decDigits i ++ 34 :: Lib.decDigits t) (no_quote (by decide) u)
  obtain ⟨j1, j2, j3⟩ := cut_at (c := 34) (a := Lib.decDigits i) (b := Lib.decDigits t) (no_quote (by decide) i)
  have hm : (u * 12 + i) * 12 + t = m.natAbs := by omega
  constructor
  · unfold feetOK
    rw [d1, k1, k2, j1, j2]
    refine ⟨k3, j3, dec_numeral u, dec_smallT (by omega), dec_smallT (by omega), ?_⟩
    intro he
    have e1 : decide (m < 0) = true := by
      rw [← d2, he]
      rfl
    have e2 := d1
    rw [he] at e2
    have e3 : (Lib.decDigits u ++ 39 :: (Lib.decDigits i ++ 34 :: Lib.decDigits t)) = [48] ++ 39 :: ([48] ++ 34 :: [48]) := e2.symm
    have a1 : Lib.decDigits u = [48] := by rw [← k1, e3]; rfl
    have a2 : Lib.decDigits i ++ 34 :: Lib.decDigits t = [48] ++ 34 :: [48] := by rw [← k2, e3]; rfl
    have a3 : Lib.decDigits i = [48] := by rw [← j1, a2]; rfl
    have a4 : Lib.decDigits t = [48] := by rw [← j2, a2]; rfl
    have b1 := dec_inj (a1.trans dec_zero.symm)
    have b2 := dec_inj (a3.trans dec_zero.symm)
    have b3 := dec_inj (a4.trans dec_zero.symm)
    have := of_decide_eq_true e1
    omega
  · unfold feetV
    rw [d1, d2, k1, k2, j1, j2, dv_decDigits, dv_decDigits, dv_decDigits, hm]
    by_cases h : m < 0 <;> simp [h] <;> omega
/-- Each text of feet is that of its twelfths. -/
theorem feetOK_eq {l : List UInt8} (h : feetOK l) : l = feetT (feetV l) := by
  obtain ⟨h1, h2, h3, h4, h5, h6⟩ := h
  have e1 := split_eq h1
  have e2 := split_eq h2
  have e3 := numeral_dec h3
  obtain ⟨e4, b4⟩ := smallT_dec h4
  obtain ⟨e5, b5⟩ := smallT_dec h5
  obtain ⟨U, hU⟩ : ∃ U, U = dv (ahead 39 (digs l)) := ⟨_, rfl⟩
  obtain ⟨I, hI⟩ : ∃ I, I = dv (ahead 34 (behind 39 (digs l))) := ⟨_, rfl⟩
  obtain ⟨T, hT⟩ : ∃ T, T = dv (behind 34 (behind 39 (digs l))) := ⟨_, rfl⟩
  rw [← hU] at e3
  rw [← hI] at e4 b4
  rw [← hT] at e5 b5
  have hd : digs l = Lib.decDigits U ++ 39 :: (Lib.decDigits I ++ 34 :: Lib.decDigits T) := by rw [← e3, ← e4, ← e5, ← e2]; exact e1
  have hl : l = (if isNeg l then [45] else []) ++ digs l := by
    cases l with
    | nil => rw [show digs [] = [] from rfl] at h1; simp at h1
    | cons c r =>
      by_cases hc : c = 45
      · subst hc; simp [digs, isNeg]
      · simp [digs, isNeg, hc]
  have hv : feetV l = (if isNeg l then -1 else 1) * (((U * 12 + I) * 12 + T : Nat) : Int) := by unfold feetV; rw [← hU, ← hI, ← hT]
  have hz : isNeg l = true → 0 < (U * 12 + I) * 12 + T := by
    intro hn
    rcases Nat.eq_zero_or_pos ((U * 12 + I) * 12 + T) with h0 | h0
    · exfalso
      have z1 : U = 0 := by omega
      have z2 : I = 0 := by omega
      have z3 : T = 0 := by omega
      rw [hn, hd, z1, z2, z3, dec_zero] at hl
      exact h6 hl
    · exact h0
  have hneg : decide (feetV l < 0) = isNeg l := by
    rw [hv]
    cases hn : isNeg l with
    | true => have := hz hn; simp; omega
    | false => simp; omega
  have habs : (feetV l).natAbs = (U * 12 + I) * 12 + T := by
    rw [hv]
    cases isNeg l <;> simp <;> omega
  unfold feetT
  rw [hneg, habs, show ((U * 12 + I) * 12 + T) / 144 = U by omega, show ((U * 12 + I) * 12 + T) % 144 / 12 = I by omega, show ((U * 12 + I) * 12 + T) % 144 % 12 = T by omega, ← hd]
  exact hl
end Go.KI
namespace Go.KI
open Go
theorem dec_pow (p : Nat) : Lib.decDigits (10 ^ p) = 49 :: List.replicate p 48 := by
  induction p with
  | zero => rw [Nat.pow_zero, one_dec]; rfl
  | succ p ih =>
    have h : 10 ≤ 10 ^ (p + 1) := by
      have := Nat.pow_le_pow_right (n := 10) (by omega) (show 1 ≤ p + 1 by omega)
      simpa using this
    rw [Lib.decDigits, dif_neg (by omega), show 10 ^ (p + 1) / 10 = 10 ^ p by rw [Nat.pow_succ]; omega, show 10 ^ (p + 1) % 10 = 0 by rw [Nat.pow_succ]; omega, ih, List.replicate_succ']
    rfl
/-- Why a number cannot be measured. -/
def chkM (l : List UInt8) : Int := if chkQ l ≠ 0 then chkQ l else if 90 < max (Lib.decDigits (valQ l).num.natAbs).length (Lib.decDigits (valQ l).den).length then 4 else 0
end Go.KI
namespace Go.Proofs.YtfgjpnoeibiaaaaGreatDoor
open Go.RowKit Go.KP Go.KI Go.Shelf
attribute [local go_sem] Oper.semAt_some

set_option maxRecDepth 100000 in
theorem mmul_to {s t : ByteArray} {x y : Int} (h1 : s.data.toList = Lib.itoa x) (h2 : t.data.toList = Lib.itoa y) (f1 : fits x) (f2 : fits y) (f3 : fits (x * y)) (B : Nat) (w : World) (hB : B ≤ w.heap.size) (hT : P10 B w) :
    Calls Tryz.prog 106 #[.string s, .string t] w (Ret w (.string (strB (Lib.itoa (x * y))))) := by
  have HM := hide (mul_yes h1 h2 f1 f2 f3 B w hB hT)
  obtain ⟨X, hX⟩ : ∃ X, X = strB (Lib.itoa (x * y)) := ⟨_, rfl⟩
  rw [← hX] at HM ⊢
  clear h1 h2 f1 f2 f3 hX hT
  go_enter Tryz.func106, Tryz.ntmps106
  go_wp2_with fail
  refine HM.out.mono ?_
  rintro e w1 ⟨rfl, hb1⟩
  have HB1 := hide hb1
  clear hb1
  go_wp2_with fail
  go_ret
  exact ⟨rfl, HB1.out⟩
set_option maxRecDepth 100000 in
theorem mdivide_to {s t : ByteArray} {x y : Int} (h1 : s.data.toList = Lib.itoa x) (h2 : t.data.toList = Lib.itoa y) (f1 : fits x) (f2 : fits y) (hy : y ≠ 0) (B : Nat) (w : World) (hB : B ≤ w.heap.size) (hT : P10 B w) :
    Calls Tryz.prog 110 #[.string s, .string t] w (Ret w (.tuple #[.string (strB (Lib.itoa (x.fdiv y))), .string (strB (Lib.itoa (x.fmod y)))])) := by
  have HM := hide (Divide_to (q := strB (Lib.itoa (x.fdiv y))) (r := strB (Lib.itoa (x.fmod y))) h1 h2 (strB_list _) (strB_list _) f1 f2 hy B w hB hT)
  obtain ⟨X, hX⟩ : ∃ X, X = strB (Lib.itoa (x.fdiv y)) := ⟨_, rfl⟩
  obtain ⟨Y, hY⟩ : ∃ X, X = strB (Lib.itoa (x.fmod y)) := ⟨_, rfl⟩
  rw [← hX, ← hY] at HM ⊢
  clear h1 h2 f1 f2 hX hY hT hy
  go_enter Tryz.func110, Tryz.ntmps110
  go_wp2_with fail
  refine HM.out.mono ?_
  rintro e w1 ⟨rfl, hb1⟩
  have HB1 := hide hb1
  clear hb1
  go_wp2_with fail
  refine bodyPost_ret (results_tmp2 rfl _ _ _) rfl ?_
  exact ⟨rfl, HB1.out⟩
theorem itoa_two : (⟨#[50]⟩ : ByteArray).data.toList = Lib.itoa 2 := by
  rw [show (2 : Int) = ((2 : Nat) : Int) from rfl, Lib.itoa_nonneg, Lib.decDigits_one (by omega)]
  rfl
theorem fits_two : fits 2 := fits_small (n := 1) (by rw [most_eq]; omega) (by decide)
set_option maxRecDepth 100000 in
set_option maxHeartbeats 1000000 in
theorem mnearest_to {s t : ByteArray} {n d : Int} (h1 : s.data.toList = Lib.itoa n) (h2 : t.data.toList = Lib.itoa d) (f1 : fits n) (f2 : fits d) (f3 : fits (n * 2)) (f4 : fits (n * 2 + d)) (f5 : fits (d * 2)) (hd : 0 < d) (B : Nat) (w : World) (hB : B ≤ w.heap.size) (hT : P10 B w) :
    Calls Tryz.prog 105 #[.string s, .string t] w (Ret w (.string (strB (Lib.itoa (near2 n d))))) := by
  have HT := hide hT
  have H1 := hide (fun w hB hT => mmul_to h1 itoa_two f1 fits_two f3 B w hB hT)
  have H2 := hide (fun w hB hT => Add_good (s := strB (Lib.itoa (n * 2))) (t := t) (strB_list _) h2 f3 f2 f4 B w hB hT)
  have H3 := hide (fun w hB hT => mmul_to h2 itoa_two f2 fits_two f5 B w hB hT)
  have H4 := hide (fun w hB hT => mdivide_to (s := strB (Lib.itoa (n * 2 + d))) (t := strB (Lib.itoa (d * 2))) (strB_list _) (strB_list _) f4 f5 (by omega) B w hB hT)
  have e : (n * 2 + d).fdiv (d * 2) = near2 n d := by unfold near2; rw [Int.mul_comm n, Int.mul_comm d]
  rw [e] at H4
  obtain ⟨A, hA⟩ : ∃ X, X = strB (Lib.itoa (n * 2)) := ⟨_, rfl⟩
  obtain ⟨C, hC⟩ : ∃ X, X = strB (Lib.itoa (n * 2 + d)) := ⟨_, rfl⟩
  obtain ⟨D, hD⟩ : ∃ X, X = strB (Lib.itoa (d * 2)) := ⟨_, rfl⟩
  obtain ⟨Q, hQ⟩ : ∃ X, X = strB (Lib.itoa (near2 n d)) := ⟨_, rfl⟩
  obtain ⟨R, hR⟩ : ∃ X, X = strB (Lib.itoa ((n * 2 + d).fmod (d * 2))) := ⟨_, rfl⟩
  have H2 : Hid (∀ w, B ≤ w.heap.size → P10 B w → Calls Tryz.prog 89 #[.string A, .string t] w (Ret w (.tuple #[.string C, .int .i64 0]))) := hide (by rw [hA, hC]; exact H2.out)
  rw [← hA] at H1
  rw [← hD] at H3
  rw [← hC, ← hD, ← hQ, ← hR] at H4
  rw [← hQ]
  clear h1 h2 f1 f2 f3 f4 f5 hA hC hD hQ hR e hd hT
  go_enter Tryz.func105, Tryz.ntmps105
  go_wp2_with fail
  refine (H1.out _ hB HT.out).mono ?_
  rintro e w1 ⟨rfl, hb1⟩
  have HB1 := hide hb1
  clear hb1
  go_wp2_with fail
  refine (H2.out _ (Nat.le_trans hB HB1.out.size) (HT.out.on HB1.out hB)).mono ?_
  rintro e w2 ⟨rfl, hb2⟩
  have HB2 := hide (HB1.out.trans (hb2.mono HB1.out.size))
  clear hb2
  go_wp2_with fail
  refine (H3.out _ (Nat.le_trans hB HB2.out.size) (HT.out.on HB2.out hB)).mono ?_
  rintro e w3 ⟨rfl, hb3⟩
  have HB3 := hide (HB2.out.trans (hb3.mono HB2.out.size))
  clear hb3
  go_wp2_with fail
  refine (H4.out _ (Nat.le_trans hB HB3.out.size) (HT.out.on HB3.out hB)).mono ?_
  rintro e w4 ⟨rfl, hb4⟩
  have HB4 := hide (HB3.out.trans (hb4.mono HB3.out.size))
  clear hb4
  go_wp2_with fail
  go_ret
  exact ⟨rfl, HB4.out⟩
/-- The text of a power of ten. -/
abbrev powT (p : Nat) : List UInt8 := Lib.itoa ((10 ^ p : Nat) : Int)
set_option maxRecDepth 100000 in
theorem mpower_to (p : Nat) (hp : p ≤ 100000) (w : World) :
    Calls Tryz.prog 94 #[.int .i64 p] w (Ret w (.string (strB (powT p)))) := by
  have HR := hide (repeat_any ⟨#[48]⟩ p w (by omega) (by decide))
  have hl : Lib.repeatL (⟨#[48]⟩ : ByteArray).data.toList p = List.replicate p 48 := by
    exact repeat48 p
  rw [hl] at HR
  have HX := hide (show strB (powT p) = ⟨#[49]⟩ ++ strB (List.replicate p 48) by
    apply bytes_eq
    rw [strB_list]
    show Lib.itoa ((10 ^ p : Nat) : Int) = _
    rw [Lib.itoa_nonneg, dec_pow, ByteArray.data_append, Array.toList_append, strB_list]
    rfl)
  have hs : (strB (List.replicate p 48)).size ≤ 100000 := by rw [strB_size, List.length_replicate]; exact hp
  obtain ⟨Z, hZ⟩ : ∃ Z, Z = strB (List.replicate p 48) := ⟨_, rfl⟩
  obtain ⟨X, hX⟩ : ∃ Z, Z = strB (powT p) := ⟨_, rfl⟩
  rw [← hZ] at HR HX hs
  rw [← hX] at HX ⊢
  have v : (9223372036854775807 < 1 + Z.size) = False := eq_false (by omega)
  clear hl hZ hX hp
  go_enter Tryz.func94, Tryz.ntmps94
  go_wp2_with fail
  refine HR.out.mono ?_
  rintro e w1 ⟨rfl, hb1⟩
  have HB1 := hide hb1
  clear hb1
  go_wp2_with fail
  go_ret
  rw [HX.out]
  exact ⟨rfl, HB1.out⟩
/-- A sign's text. -/
def sgnT (neg : Bool) : List UInt8 := if neg then [45] else []
set_option maxRecDepth 100000 in
theorem msigned_any (s : ByteArray) (w : World) :
    Calls Tryz.prog 91 #[.string s] w (Ret w (.tuple #[.string (strB (sgnT (isNeg s.data.toList))), .string (strB (digs s.data.toList))])) := by
  have HP := hide (cutPrefix_any s w)
  rw [show decide (s.data.toList.head? = some 45) = isNeg s.data.toList from rfl] at HP
  have hway : (isNeg s.data.toList = true ∧ strB (sgnT (isNeg s.data.toList)) = ⟨#[45]⟩) ∨ (isNeg s.data.toList = false ∧ strB (sgnT (isNeg s.data.toList)) = ⟨#[]⟩ ∧ strB (digs s.data.toList) = s) := by
    cases h : isNeg s.data.toList with
    | true => exact .inl ⟨rfl, rfl⟩
    | false =>
      refine .inr ⟨rfl, rfl, ?_⟩
      have h1 : s.data.toList.head? ≠ some 45 := by simpa [isNeg] using h
      apply bytes_eq
      rw [strB_list]
      cases hl : s.data.toList with
      | nil => rfl
      | cons c r =>
        rw [hl] at h1
        have : c ≠ 45 := by simpa using h1
        simp [digs, this]
  obtain ⟨D, hD⟩ : ∃ Z, Z = strB (digs s.data.toList) := ⟨_, rfl⟩
  rw [← hD] at HP hway ⊢
  clear hD
  rcases hway with ⟨h1, h2⟩ | ⟨h1, h2, h3⟩
  · rw [h1] at HP h2
    rw [h1, h2]
    clear h1 h2
    go_enter Tryz.func91, Tryz.ntmps91
    go_wp2_with fail
    refine HP.out.mono ?_
    rintro e w1 ⟨rfl, rfl⟩
    go_wp2_with fail
    refine bodyPost_ret (results_tmp2 rfl _ _ _) rfl ?_
    exact ⟨rfl, Below.refl _ _⟩
  · rw [h1] at HP h2
    rw [h1, h2]
    have HE := hide h3
    clear h1 h2 h3
    go_enter Tryz.func91, Tryz.ntmps91
    go_wp2_with fail
    refine HP.out.mono ?_
    rintro e w1 ⟨rfl, rfl⟩
    go_wp2_with fail
    refine bodyPost_ret (results_tmp2 rfl _ _ _) rfl ?_
    rw [HE.out]
    exact ⟨rfl, Below.refl _ _⟩
/-- The parts of a number that can be measured. -/
def partsM (l : List UInt8) : Value := if chkM l = 0 then tripV (Lib.itoa (valQ l).num) (Lib.itoa ((valQ l).den : Int)) 0 else tripV [] [] (chkM l)
theorem tripV_err (z : Int) : tripV [] [] z = .tuple #[.string ⟨#[]⟩, .string ⟨#[]⟩, .int .i64 z] := rfl
set_option maxRecDepth 100000 in
set_option maxHeartbeats 1000000 in
theorem mparts_any (s : ByteArray) (hs : s.size ≤ 1000000) (B : Nat) (w : World) (hB : B ≤ w.heap.size) (hT : PQ B w) :
    Calls Tryz.prog 116 #[.string s] w (Ret w (partsM s.data.toList)) := by
  have HT := hide hT
  have HC := hide (qCheck_any s hs B w hB hT)
  by_cases hc : chkQ s.data.toList = 0
  · have HP := hide (fun w hB hT => qParts_any s hs B w hB hT)
    rw [hc] at HC
    rw [show partsR s.data.toList = tripV (Lib.itoa (valQ s.data.toList).num) (Lib.itoa ((valQ s.data.toList).den : Int)) 0 from if_pos hc] at HP
    have hM : chkM s.data.toList = if 90 < max (Lib.decDigits (valQ s.data.toList).num.natAbs).length (Lib.decDigits (valQ s.data.toList).den).length then 4 else 0 := by unfold chkM; rw [if_neg (by simp [hc])]
    obtain ⟨N, hN⟩ : ∃ Z, Z = strB (Lib.itoa (valQ s.data.toList).num) := ⟨_, rfl⟩
    obtain ⟨D, hD⟩ : ∃ Z, Z = strB (Lib.itoa ((valQ s.data.toList).den : Int)) := ⟨_, rfl⟩
    have HTP := hide (fun w => trimPrefix_any N w)
    rw [show N.data.toList = Lib.itoa (valQ s.data.toList).num by rw [hN, strB_list], digs_itoa] at HTP
    have hDs : D.size = (Lib.decDigits (valQ s.data.toList).den).length := by rw [hD, strB_size, Lib.itoa_nonneg]
    obtain ⟨O, hO⟩ : ∃ Z, Z = strB (Lib.decDigits (valQ s.data.toList).num.natAbs) := ⟨_, rfl⟩
    have hOs : O.size = (Lib.decDigits (valQ s.data.toList).num.natAbs).length := by rw [hO, strB_size]
    rw [← hDs, ← hOs] at hM
    rw [← hO] at HTP
    rw [show tripV (Lib.itoa (valQ s.data.toList).num) (Lib.itoa ((valQ s.data.toList).den : Int)) 0 = .tuple #[.string N, .string D, .int .i64 0] by rw [hN, hD]] at HP
    by_cases h90 : 90 < max O.size D.size
    · have hm : (90 : Int) < max (O.size : Int) (D.size : Int) := by omega
      rw [if_pos h90] at hM
      rw [show partsM s.data.toList = tripV [] [] 4 by unfold partsM; rw [hM, if_neg (by decide)], tripV_err]
      clear hc hM hN hD hDs hO hOs h90 hT
      go_enter Tryz.func116, Tryz.ntmps116
      go_wp2_with fail
      refine HC.out.mono ?_
      rintro e w1 ⟨rfl, hb1⟩
      have HB1 := hide hb1
      clear hb1
      go_wp2_with fail
      refine (HP.out _ (Nat.le_trans hB HB1.out.size) (HT.out.on HB1.out hB)).mono ?_
      rintro e w2 ⟨rfl, hb2⟩
      have HB2 := hide (HB1.out.trans (hb2.mono HB1.out.size))
      clear hb2
      go_wp2_with fail
      refine (HTP.out _).mono ?_
      rintro e w3 ⟨rfl, rfl⟩
      go_wp2_with fail
      go_ret3
      exact ⟨rfl, HB2.out⟩
    · have hm : ((90 : Int) < max (O.size : Int) (D.size : Int)) = False := eq_false (by omega)
      rw [if_neg h90] at hM
      rw [show partsM s.data.toList = .tuple #[.string N, .string D, .int .i64 0] by unfold partsM; rw [if_pos hM, hN, hD]]
      clear hc hM hN hD hDs hO hOs h90 hT
      go_enter Tryz.func116, Tryz.ntmps116
      go_wp2_with fail
      refine HC.out.mono ?_
      rintro e w1 ⟨rfl, hb1⟩
      have HB1 := hide hb1
      clear hb1
      go_wp2_with fail
      refine (HP.out _ (Nat.le_trans hB HB1.out.size) (HT.out.on HB1.out hB)).mono ?_
      rintro e w2 ⟨rfl, hb2⟩
      have HB2 := hide (HB1.out.trans (hb2.mono HB1.out.size))
      clear hb2
      go_wp2_with fail
      refine (HTP.out _).mono ?_
      rintro e w3 ⟨rfl, rfl⟩
      go_wp2_with fail
      go_ret3
      exact ⟨rfl, HB2.out⟩
  · have hM : chkM s.data.toList = chkQ s.data.toList := if_pos hc
    rw [show partsM s.data.toList = tripV [] [] (chkQ s.data.toList) by unfold partsM; rw [hM, if_neg hc], tripV_err]
    have hne : (chkQ s.data.toList != 0) = true := by simpa using hc
    obtain ⟨E, hE⟩ : ∃ E, E = chkQ s.data.toList := ⟨_, rfl⟩
    rw [← hE] at HC hne ⊢
    clear hE hc hM hT
    go_enter Tryz.func116, Tryz.ntmps116
    go_wp2_with fail
    refine HC.out.mono ?_
    rintro e w1 ⟨rfl, hb1⟩
    have HB1 := hide hb1
    clear hb1
    go_wp2_with fail
    go_ret3
    exact ⟨rfl, HB1.out⟩
/-- Why a number cannot be printed with so many places. -/
def chkP (l : List UInt8) (p : Int) : Int := if chkM l ≠ 0 then chkM l else if p < 0 ∨ 100 < p then 2 else 0
def checkM (l : List UInt8) (p : Int) : Value := if chkP l p = 0 then tripV (Lib.itoa (valQ l).num) (Lib.itoa ((valQ l).den : Int)) 0 else tripV [] [] (chkP l p)
set_option maxRecDepth 100000 in
set_option maxHeartbeats 1000000 in
theorem mcheck_any (s : ByteArray) (hs : s.size ≤ 1000000) (p : Int) (B : Nat) (w : World) (hB : B ≤ w.heap.size) (hT : PQ B w) :
    Calls Tryz.prog 104 #[.string s, .int .i64 p] w (Ret w (checkM s.data.toList p)) := by
  have HM := hide (mparts_any s hs B w hB hT)
  by_cases hc : chkM s.data.toList = 0
  · rw [show partsM s.data.toList = tripV (Lib.itoa (valQ s.data.toList).num) (Lib.itoa ((valQ s.data.toList).den : Int)) 0 from if_pos hc] at HM
    have hP : chkP s.data.toList p = if p < 0 ∨ 100 < p then 2 else 0 := by unfold chkP; rw [if_neg (by simp [hc])]
    obtain ⟨N, hN⟩ : ∃ Z, Z = strB (Lib.itoa (valQ s.data.toList).num) := ⟨_, rfl⟩
    obtain ⟨D, hD⟩ : ∃ Z, Z = strB (Lib.itoa ((valQ s.data.toList).den : Int)) := ⟨_, rfl⟩
    rw [show tripV (Lib.itoa (valQ s.data.toList).num) (Lib.itoa ((valQ s.data.toList).den : Int)) 0 = .tuple #[.string N, .string D, .int .i64 0] by rw [hN, hD]] at HM
    have hway : (p < 0 ∧ checkM s.data.toList p = .tuple #[.string ⟨#[]⟩, .string ⟨#[]⟩, .int .i64 2]) ∨ ((p < 0) = False ∧ 100 < p ∧ checkM s.data.toList p = .tuple #[.string ⟨#[]⟩, .string ⟨#[]⟩, .int .i64 2]) ∨
        ((p < 0) = False ∧ (100 < p) = False ∧ checkM s.data.toList p = .tuple #[.string N, .string D, .int .i64 0]) := by
      by_cases h1 : p < 0
      · have e : chkP s.data.toList p = 2 := by rw [hP, if_pos (.inl h1)]
        exact .inl ⟨h1, by unfold checkM; rw [e, if_neg (by decide)]; rfl⟩
      · by_cases h2 : 100 < p
        · have e : chkP s.data.toList p = 2 := by rw [hP, if_pos (.inr h2)]
          exact .inr (.inl ⟨eq_false h1, h2, by unfold checkM; rw [e, if_neg (by decide)]; rfl⟩)
        · have e : chkP s.data.toList p = 0 := by rw [hP, if_neg (fun h => by rcases h with h | h <;> contradiction)]
          exact .inr (.inr ⟨eq_false h1, eq_false h2, by unfold checkM; rw [if_pos e, hN, hD]⟩)
    clear hc hP hN hD hT
    rcases hway with ⟨h1, h2⟩ | ⟨h1, h3, h2⟩ | ⟨h1, h3, h2⟩
    all_goals
      rw [h2]
      clear h2
      go_enter Tryz.func104, Tryz.ntmps104
      go_wp2_with fail
      refine HM.out.mono ?_
      rintro e w1 ⟨rfl, hb1⟩
      have HB1 := hide hb1
      clear hb1
      go_wp2_with fail
      go_ret3
      exact ⟨rfl, HB1.out⟩
  · have hP : chkP s.data.toList p = chkM s.data.toList := if_pos hc
    rw [show partsM s.data.toList = tripV [] [] (chkM s.data.toList) from if_neg hc] at HM
    rw [show checkM s.data.toList p = tripV [] [] (chkM s.data.toList) by unfold checkM; rw [hP, if_neg hc]]
    rw [tripV_err] at HM ⊢
    have hne : (chkM s.data.toList == 0) = false := by simpa using hc
    obtain ⟨E, hE⟩ : ∃ E, E = chkM s.data.toList := ⟨_, rfl⟩
    rw [← hE] at HM hne ⊢
    clear hE hc hP hT
    go_enter Tryz.func104, Tryz.ntmps104
    go_wp2_with fail
    refine HM.out.mono ?_
    rintro e w1 ⟨rfl, hb1⟩
    have HB1 := hide hb1
    clear hb1
    go_wp2_with fail
    go_ret3
    exact ⟨rfl, HB1.out⟩
end Go.Proofs.YtfgjpnoeibiaaaaGreatDoor
namespace Go.KI
open Go
/-- Zeros in front do not count. -/
theorem dv_drop0 (l : List UInt8) : dv (l.dropWhile (· == 48)) = dv l := by
  induction l with
  | nil => rfl
  | cons c r ih =>
    by_cases h : c = 48
    · subst h
      have e : dv (48 :: r) = dv r := by
        have := dv_append [48] r
        rw [show dv [48] = 0 from rfl, Nat.zero_mul, Nat.zero_add] at this
        exact this
      simpa [e] using ih
    · simp [h]
theorem dropW_head {p : UInt8 → Bool} {a : UInt8} {b : List UInt8} : ∀ {l : List UInt8}, l.dropWhile p = a :: b → p a = false := by
  intro l
  induction l with
  | nil => intro h; cases h
  | cons c r ih =>
    intro h
    by_cases hc : p c = true
    · rw [List.dropWhile_cons, if_pos hc] at h
      exact ih h
    · rw [List.dropWhile_cons, if_neg hc] at h
      injection h with h1 h2
      rw [← h1]
      simpa using hc
theorem whole_dec {l : List UInt8} (h : ∀ c ∈ l, isDg c = true) (hne : l.dropWhile (· == 48) ≠ []) : l.dropWhile (· == 48) = Lib.decDigits (dv l) := by
  have h1 := dec_of hne (fun c hc => h c (List.Sublist.subset (List.dropWhile_sublist _) hc)) (fun _ hh => by
    cases hq : l.dropWhile (· == 48) with
    | nil => exact absurd hq hne
    | cons a b =>
      have h3 := dropW_head hq
      rw [hq] at hh
      injection hh with hh
      rw [hh] at h3
      exact absurd h3 (by decide))
  rw [dv_drop0] at h1
  exact h1
theorem whole_zero {l : List UInt8} (he : l.dropWhile (· == 48) = []) : dv l = 0 := by
  rw [← dv_drop0, he]
  rfl
end Go.KI
namespace Go.Proofs.YtfgjpnoeibiaaaaGreatDoor
open Go.RowKit Go.KP Go.KI Go.Shelf
attribute [local go_sem] Oper.semAt_some

set_option maxRecDepth 100000 in
theorem mdigits_any (s : ByteArray) (hs : s.size ≤ 1000000) (b : Bool) (hb : b = decide (allDg s.data.toList)) (w : World) :
    Calls Tryz.prog 92 #[.string s] w (Ret w (.bool b)) := by
  have HT := hide (trimDg_any s w (by omega))
  obtain ⟨T, hT⟩ : ∃ T, T = strB (Lib.trimS s.data.toList cutset) := ⟨_, rfl⟩
  have hTl : T.data.toList = Lib.trimS s.data.toList cutset := by rw [hT, strB_list]
  rw [← hT] at HT
  by_cases h0 : s.data.toList = []
  · have e := empty_yes h0
    have hbf : b = false := by rw [hb, decide_eq_false_iff_not]; exact fun h => h.1 h0
    rw [hbf]
    clear hb hbf h0 hT hTl
    go_enter Tryz.func92, Tryz.ntmps92
    go_wp2_with fail
    go_ret
    exact ⟨rfl, Below.refl _ _⟩
  · have e := empty_no h0
    have hway : (T.toList.isEmpty = true ∧ b = true) ∨ (T.toList.isEmpty = false ∧ b = false) := by
      have hn := trimS_nil s.data.toList
      by_cases ha : s.data.toList.all isDg = true
      · exact .inl ⟨empty_yes (by rw [hTl]; exact hn.2 ha), by rw [hb, decide_eq_true_iff]; exact ⟨h0, List.all_eq_true.1 ha⟩⟩
      · exact .inr ⟨empty_no (by rw [hTl]; exact fun h => ha (hn.1 h)), by rw [hb, decide_eq_false_iff_not]; exact fun h => ha (List.all_eq_true.2 h.2)⟩
    clear hb h0 hT hTl
    rcases hway with ⟨h1, h2⟩ | ⟨h1, h2⟩
    all_goals
      subst h2
      go_enter Tryz.func92, Tryz.ntmps92
      go_wp2_with fail
      refine HT.out.mono ?_
      rintro e w1 ⟨rfl, hb1⟩
      have HB1 := hide hb1
      clear hb1
      go_wp2_with fail
      go_ret
      exact ⟨rfl, HB1.out⟩
set_option maxRecDepth 100000 in
theorem mwhole_any (s : ByteArray) (h : ∀ c ∈ s.data.toList, isDg c = true) (w : World) :
    Calls Tryz.prog 95 #[.string s] w (Ret w (.string (strB (Lib.decDigits (dv s.data.toList))))) := by
  have HT : Hid (Calls Tryz.prog 177 #[.string s, .string ⟨#[48]⟩] w fun e w' => e = .returned (.string (strB (s.data.toList.dropWhile (· == 48)))) ∧ w = w') := hide ((Tryz.strings_TrimLeft_one s 48 (by decide) w).mono fun e w' ⟨he, hw⟩ => ⟨by rw [he]; rfl, hw.symm⟩)
  obtain ⟨T, hT⟩ : ∃ T, T = strB (s.data.toList.dropWhile (· == 48)) := ⟨_, rfl⟩
  have hTl : T.data.toList = s.data.toList.dropWhile (· == 48) := by rw [hT, strB_list]
  rw [← hT] at HT
  by_cases h0 : s.data.toList.dropWhile (· == 48) = []
  · have e := empty_yes (s := T) (by rw [hTl, h0])
    have HE := hide (show strB (Lib.decDigits (dv s.data.toList)) = ⟨#[48]⟩ by rw [whole_zero h0, dec_zero]; rfl)
    clear h h0 hT hTl
    go_enter Tryz.func95, Tryz.ntmps95
    go_wp2_with fail
    refine HT.out.mono ?_
    rintro e w1 ⟨rfl, rfl⟩
    go_wp2_with fail
    go_ret
    rw [HE.out]
    exact ⟨rfl, Below.refl _ _⟩
  · have e := empty_no (s := T) (by rw [hTl]; exact h0)
    have HE := hide (show strB (Lib.decDigits (dv s.data.toList)) = T by rw [hT, whole_dec h h0])
    clear h h0 hT hTl
    go_enter Tryz.func95, Tryz.ntmps95
    go_wp2_with fail
    refine HT.out.mono ?_
    rintro e w1 ⟨rfl, rfl⟩
    go_wp2_with fail
    go_ret
    rw [HE.out]
    exact ⟨rfl, Below.refl _ _⟩
theorem sz_nat {u p : Nat} (h : u < 10 ^ p) (hp : 1 ≤ p) : sz p ((u : Nat) : Rat) := by
  have e : ((u : Nat) : Rat) = (((u : Nat) : Int) : Rat) := rfl
  refine ⟨?_, ?_⟩
  · rw [e, Rat.num_intCast, Int.natAbs_natCast]
    exact h
  · rw [e, Rat.den_intCast]
    have : 10 ^ 1 ≤ 10 ^ p := Nat.pow_le_pow_right (by omega) hp
    omega
theorem ratS_nat (u : Nat) : ratS ((u : Nat) : Rat) = Lib.decDigits u := by
  have e : ((u : Nat) : Rat) = (((u : Nat) : Int) : Rat) := rfl
  rw [e, ratS_int, Lib.itoa_nonneg]
set_option maxRecDepth 100000 in
set_option maxHeartbeats 1000000 in
theorem mfraction_any (neg : Bool) (n d : ByteArray) (D : Nat) (h : ∀ c ∈ n.data.toList, isDg c = true) (hn : n.size ≤ 92) (hd : d.data.toList = Lib.decDigits D) (hD : D < 10 ^ 92) (h0 : D ≠ 0) (B : Nat) (w : World) (hB : B ≤ w.heap.size) (hT : PQ B w) :
    Calls Tryz.prog 93 #[.string (strB (sgnT neg)), .string n, .string d] w (Ret w (.string (strB (ratS (sgn neg ((dv n.data.toList : Nat) / ((D : Nat) : Rat))))))) := by
  have HT := hide hT
  have HW := hide (mwhole_any n h w)
  have hv : dv n.data.toList < 10 ^ 92 := by
    refine Nat.lt_of_lt_of_le (dv_lt _ h) (Nat.pow_le_pow_right (by omega) ?_)
    rw [bytes_len]
    exact hn
  have s1 := sz_nat hv (by omega)
  have s2 := sz_nat hD (by omega)
  obtain ⟨u, hu⟩ : ∃ u, u = dv n.data.toList := ⟨_, rfl⟩
  rw [← hu] at HW s1 hv ⊢
  have hD0 : ((D : Nat) : Rat) ≠ 0 := by
    intro e
    have := congrArg Rat.num e
    rw [show ((D : Nat) : Rat) = (((D : Nat) : Int) : Rat) from rfl, Rat.num_intCast] at this
    simp at this
    exact h0 this
  have HD := hide (fun w hB hT => qdiv_to (s := strB (Lib.decDigits u)) (t := d) (x := ((u : Nat) : Rat)) (y := ((D : Nat) : Rat)) (by rw [strB_list, ratS_nat]) (by rw [hd, ratS_nat]) (sz_fits s1 (by rw [most_eq]; omega)) (sz_fits s2 (by rw [most_eq]; omega)) hD0 (cmpC_of s1 s2 (by rw [most_eq]; omega)) B w hB hT)
  have s3 := sz_div (by omega) s1 s2
  obtain ⟨q, hq⟩ : ∃ q, q = ((u : Nat) : Rat) / ((D : Nat) : Rat) := ⟨_, rfl⟩
  rw [← hq] at HD s3 ⊢
  have s0 : sz 1 (0 : Rat) := ⟨by decide, by decide⟩
  have HS := hide (fun w hB hT => qsub_to (s := ⟨#[48]⟩) (t := strB (ratS q)) (x := 0) (y := q) (by rw [ratS_zero]) (strB_list _) (sz_fits s0 (by rw [most_eq]; omega)) (sz_fits s3 (by rw [most_eq]; omega)) (subC_of s0 s3 (by rw [most_eq]; omega)) B w hB hT)
  rw [show (0 : Rat) - q = -q by rw [Rat.sub_eq_add_neg, Rat.zero_add]] at HS
  obtain ⟨A, hA⟩ : ∃ X, X = strB (Lib.decDigits u) := ⟨_, rfl⟩
  obtain ⟨Q, hQ⟩ : ∃ X, X = strB (ratS q) := ⟨_, rfl⟩
  obtain ⟨R, hR⟩ : ∃ X, X = strB (ratS (-q)) := ⟨_, rfl⟩
  rw [← hA] at HW HD
  rw [← hQ] at HD HS
  rw [← hR] at HS
  cases neg with
  | false =>
    have e1 : strB (sgnT false) = ⟨#[]⟩ := rfl
    rw [e1, show sgn false q = q from rfl, ← hQ]
    clear h hn hd hD h0 hT hv s1 s2 hu hD0 s3 hq s0 hA hQ hR e1 HS
    go_enter Tryz.func93, Tryz.ntmps93
    go_wp2_with fail
    refine HW.out.mono ?_
    rintro e w1 ⟨rfl, hb1⟩
    have HB1 := hide hb1
    clear hb1
    go_wp2_with fail
    refine (HD.out _ (Nat.le_trans hB HB1.out.size) (HT.out.on HB1.out hB)).mono ?_
    rintro e w2 ⟨rfl, hb2⟩
    have HB2 := hide (HB1.out.trans (hb2.mono HB1.out.size))
    clear hb2
    go_wp2_with fail
    go_ret
    exact ⟨rfl, HB2.out⟩
  | true =>
    have e1 : strB (sgnT true) = ⟨#[45]⟩ := rfl
    rw [e1, show sgn true q = -q from rfl, ← hR]
    clear h hn hd hD h0 hT hv s1 s2 hu hD0 s3 hq s0 hA hQ hR e1
    go_enter Tryz.func93, Tryz.ntmps93
    go_wp2_with fail
    refine HW.out.mono ?_
    rintro e w1 ⟨rfl, hb1⟩
    have HB1 := hide hb1
    clear hb1
    go_wp2_with fail
    refine (HD.out _ (Nat.le_trans hB HB1.out.size) (HT.out.on HB1.out hB)).mono ?_
    rintro e w2 ⟨rfl, hb2⟩
    have HB2 := hide (HB1.out.trans (hb2.mono HB1.out.size))
    clear hb2
    go_wp2_with fail
    refine (HS.out _ (Nat.le_trans hB HB2.out.size) (HT.out.on HB2.out hB)).mono ?_
    rintro e w3 ⟨rfl, hb3⟩
    have HB3 := hide (HB2.out.trans (hb3.mono HB2.out.size))
    clear hb3
    go_wp2_with fail
    go_ret
    exact ⟨rfl, HB3.out⟩
end Go.Proofs.YtfgjpnoeibiaaaaGreatDoor
namespace Go.KI
open Go
theorem behind_le (c : UInt8) (l : List UInt8) : (behind c l).length ≤ l.length := by
  unfold behind
  have h := List.Sublist.length_le (List.dropWhile_sublist (l := l) (fun x => x != c))
  rw [List.length_drop]
  omega
theorem ahead_le (c : UInt8) (l : List UInt8) : (ahead c l).length ≤ l.length := List.Sublist.length_le (List.takeWhile_sublist _)
theorem both_le {c : UInt8} {l : List UInt8} (h : c ∈ l) : (ahead c l).length + (behind c l).length + 1 = l.length := by
  have := congrArg List.length (split_eq h)
  rw [List.length_append, List.length_cons] at this
  omega
theorem digs_le (l : List UInt8) : (digs l).length ≤ l.length := by
  cases l with
  | nil => exact Nat.le_refl _
  | cons c r =>
    simp only [digs]
    split <;> simp
/-- What Parse answers. -/
def parseS (l : List UInt8) : List UInt8 := if parseE l = 0 then ratS (parseV l) else []
end Go.KI
namespace Go.Proofs.YtfgjpnoeibiaaaaGreatDoor
open Go.RowKit Go.KP Go.KI Go.Shelf
attribute [local go_sem] Oper.semAt_some

theorem powT_dec (p : Nat) : powT p = Lib.decDigits (10 ^ p) := Lib.itoa_nonneg _
theorem ahead_KI (c : UInt8) (l : List UInt8) : KI.ahead c l = l.takeWhile (fun x => x != c) := rfl
set_option maxRecDepth 100000 in
set_option maxHeartbeats 4000000 in
theorem mParse_any (s : ByteArray) (B : Nat) (w : World) (hB : B ≤ w.heap.size) (hT : PQ B w) :
    Calls Tryz.prog 32 #[.string s] w (Ret w (pairV (parseS s.data.toList) (parseE s.data.toList))) := by
  have HT := hide hT
  by_cases h90 : 90 < s.size
  · have e : parseE s.data.toList = 4 := by unfold parseE; rw [if_pos (by rw [bytes_len]; exact h90)]
    rw [show parseS s.data.toList = [] by unfold parseS; rw [e, if_neg (by decide)], e, pairV_err]
    have hm : (90 : Int) < (s.size : Int) := by omega
    clear e h90 hT
    go_enter Tryz.func32, Tryz.ntmps32
    go_wp2_with fail
    refine bodyPost_ret (results_tmp2 rfl _ _ _) rfl ?_
    exact ⟨rfl, Below.refl _ _⟩
  have hm : ((90 : Int) < (s.size : Int)) = False := eq_false (by omega)
  have hpe : parseE s.data.toList = if 46 ∈ digs s.data.toList then (if allDg (KI.ahead 46 (digs s.data.toList)) ∧ allDg (KI.behind 46 (digs s.data.toList)) then 0 else 3)
      else if ¬ allDg (KI.ahead 47 (digs s.data.toList)) ∨ (47 ∈ digs s.data.toList ∧ ¬ allDg (KI.behind 47 (digs s.data.toList))) then 3
      else if 47 ∈ digs s.data.toList ∧ dv (KI.behind 47 (digs s.data.toList)) = 0 then 12 else 0 := by
    unfold parseE
    rw [if_neg (by rw [bytes_len]; exact h90)]
  have HSI := hide (msigned_any s w)
  obtain ⟨neg, hneg⟩ : ∃ neg, neg = isNeg s.data.toList := ⟨_, rfl⟩
  obtain ⟨L, hL⟩ : ∃ L, L = digs s.data.toList := ⟨_, rfl⟩
  have hLl : L.length ≤ 90 := by rw [hL]; have := digs_le s.data.toList; rw [bytes_len] at this; omega
  have hpv : parseV s.data.toList = if 46 ∈ L then sgn neg ((dv (KI.ahead 46 L ++ KI.behind 46 L) : Nat) / ((10 ^ (KI.behind 46 L).length : Nat) : Rat)) else sgn neg ((dv (KI.ahead 47 L) : Nat) / ((if 47 ∈ L then dv (KI.behind 47 L) else 1 : Nat) : Rat)) := by
    rw [hL, hneg]; rfl
  rw [← hneg, ← hL] at HSI
  rw [← hL] at hpe
  obtain ⟨O, hO⟩ : ∃ O, O = strB L := ⟨_, rfl⟩
  have hOl : O.data.toList = L := by rw [hO, strB_list]
  have hOs : O.size ≤ 90 := by rw [← bytes_len, hOl]; exact hLl
  have HC46 := hide (fun w hT => scut_any 46 O (by omega) B w hT)
  have HC47 := hide (fun w hT => scut_any 47 O (by omega) B w hT)
  rw [hOl] at HC46 HC47
  rw [← hO] at HSI
  obtain ⟨SG, hSG⟩ : ∃ O, O = strB (sgnT neg) := ⟨_, rfl⟩
  have HFR := hide (fun n d D h hn hd hD h0 w hB hT => mfraction_any neg n d D h hn hd hD h0 B w hB hT)
  rw [← hSG] at HSI HFR
  by_cases h46 : 46 ∈ L
  · rw [if_pos h46] at hpe hpv
    have hlen := both_le h46
    obtain ⟨a, ha⟩ : ∃ a, a = KI.ahead 46 L := ⟨_, rfl⟩
    obtain ⟨b, hb⟩ : ∃ a, a = KI.behind 46 L := ⟨_, rfl⟩
    rw [if_pos h46, ← ha, ← hb, show decide (46 ∈ L) = true by simpa using h46] at HC46
    rw [← ha, ← hb] at hpe hpv hlen
    obtain ⟨A, hA⟩ : ∃ O, O = strB a := ⟨_, rfl⟩
    obtain ⟨C, hC⟩ : ∃ O, O = strB b := ⟨_, rfl⟩
    have hAl : A.data.toList = a := by rw [hA, strB_list]
    have hCl : C.data.toList = b := by rw [hC, strB_list]
    have hAs : A.size = a.length := by rw [hA, strB_size]
    have hCs : C.size = b.length := by rw [hC, strB_size]
    rw [← hA, ← hC] at HC46
    have HD1 := hide (fun b hb w => mdigits_any A (by omega) b hb w)
    have HD2 := hide (fun b hb w => mdigits_any C (by omega) b hb w)
    rw [hAl] at HD1
    rw [hCl] at HD2
    by_cases hda : allDg a
    · by_cases hdb : allDg b
      · have HDA := hide (HD1.out true (by simpa using hda))
        have HDB := hide (HD2.out true (by simpa using hdb))
        have e : parseE s.data.toList = 0 := by rw [hpe, if_pos ⟨hda, hdb⟩]
        rw [show parseS s.data.toList = ratS (parseV s.data.toList) by unfold parseS; rw [if_pos e], e, hpv]
        have hac : (A ++ C).data.toList = a ++ b := by rw [ByteArray.data_append, Array.toList_append, hAl, hCl]
        have HPW := hide (fun w => mpower_to C.size (by omega) w)
        have hpw : (strB (powT C.size)).data.toList = Lib.decDigits (10 ^ C.size) := by rw [strB_list]; exact powT_dec _
        have HF := hide (fun w hB hT => HFR.out (A ++ C) (strB (powT C.size)) (10 ^ C.size) (by
          rw [hac]
          intro c hc
          rcases List.mem_append.1 hc with h | h
          · exact hda.2 c h
          · exact hdb.2 c h) (by rw [ByteArray.size_append]; omega) hpw (Nat.pow_lt_pow_right (by omega) (by omega)) (by have := Nat.pow_pos (n := C.size) (show 0 < 10 by omega); omega) w hB hT)
        rw [hac, hCs] at HF
        obtain ⟨X, hX⟩ : ∃ X, X = strB (ratS (sgn neg ((dv (a ++ b) : Nat) / ((10 ^ b.length : Nat) : Rat)))) := ⟨_, rfl⟩
        rw [show pairV (ratS (sgn neg ((dv (a ++ b) : Nat) / ((10 ^ b.length : Nat) : Rat)))) 0 = .tuple #[.string X, .int .i64 0] by rw [hX]]
        rw [← hX] at HF
        rw [hCs] at HPW
        obtain ⟨PW, hPW⟩ : ∃ X, X = strB (powT b.length) := ⟨_, rfl⟩
        rw [← hPW] at HF HPW
        have HCL := hide hCs
        have hv1 : (9223372036854775807 < A.size + C.size) = False := eq_false (by omega)
        rw [← hCs] at HPW
        clear hac hpw hX hPW hda hdb e
        clear hpe hpv hlen ha hb hA hC hAl hCl hAs hCs h90 hneg hL hLl hO hOl hOs hSG h46 hT HD1 HD2 HFR HC47
        go_enter Tryz.func32, Tryz.ntmps32
        go_wp2_with fail
        refine (HSI.out).mono ?_
        rintro e w1 ⟨rfl, hb1⟩
        have HB1 := hide hb1
        clear hb1
        go_wp2_with fail
        refine (HC46.out _ (HT.out.on HB1.out hB)).mono ?_
        rintro e w2 ⟨rfl, hb2⟩
        have HB2 := hide (HB1.out.trans (hb2.mono HB1.out.size))
        clear hb2
        go_wp2_with fail
        refine (HDA.out _).mono ?_
        rintro e w3 ⟨rfl, hb3⟩
        have HB3 := hide (HB2.out.trans (hb3.mono HB2.out.size))
        clear hb3
        go_wp2_with fail
        refine (HDB.out _).mono ?_
        rintro e w4 ⟨rfl, hb4⟩
        have HB4 := hide (HB3.out.trans (hb4.mono HB3.out.size))
        clear hb4
        go_wp2_with fail
        refine (HPW.out _).mono ?_
        rintro e w5 ⟨rfl, hb5⟩
        have HB5 := hide (HB4.out.trans (hb5.mono HB4.out.size))
        clear hb5
        go_wp2_with fail
        refine (HF.out _ (Nat.le_trans hB HB5.out.size) (HT.out.on HB5.out hB)).mono ?_
        rintro e w6 ⟨rfl, hb6⟩
        have HB6 := hide (HB5.out.trans (hb6.mono HB5.out.size))
        clear hb6
        go_wp2_with fail
        refine bodyPost_ret (results_tmp2 rfl _ _ _) rfl ?_
        exact ⟨rfl, HB6.out⟩
      · have HDA := hide (HD1.out true (by simpa using hda))
        have HDB := hide (HD2.out false (by simpa using hdb))
        have e : parseE s.data.toList = 3 := by rw [hpe, if_neg (fun h => hdb h.2)]
        rw [show parseS s.data.toList = [] by unfold parseS; rw [e, if_neg (by decide)], e, pairV_err]
        clear hda hdb e
        clear hpe hpv hlen ha hb hA hC hAl hCl hAs hCs h90 hneg hL hLl hO hOl hOs hSG h46 hT HD1 HD2 HFR HC47
        go_enter Tryz.func32, Tryz.ntmps32
        go_wp2_with fail
        refine (HSI.out).mono ?_
        rintro e w1 ⟨rfl, hb1⟩
        have HB1 := hide hb1
        clear hb1
        go_wp2_with fail
        refine (HC46.out _ (HT.out.on HB1.out hB)).mono ?_
        rintro e w2 ⟨rfl, hb2⟩
        have HB2 := hide (HB1.out.trans (hb2.mono HB1.out.size))
        clear hb2
        go_wp2_with fail
        refine (HDA.out _).mono ?_
        rintro e w3 ⟨rfl, hb3⟩
        have HB3 := hide (HB2.out.trans (hb3.mono HB2.out.size))
        clear hb3
        go_wp2_with fail
        refine (HDB.out _).mono ?_
        rintro e w4 ⟨rfl, hb4⟩
        have HB4 := hide (HB3.out.trans (hb4.mono HB3.out.size))
        clear hb4
        go_wp2_with fail
        refine bodyPost_ret (results_tmp2 rfl _ _ _) rfl ?_
        exact ⟨rfl, HB4.out⟩
    · have HDA := hide (HD1.out false (by simpa using hda))
      have e : parseE s.data.toList = 3 := by rw [hpe, if_neg (fun h => hda h.1)]
      rw [show parseS s.data.toList = [] by unfold parseS; rw [e, if_neg (by decide)], e, pairV_err]
      clear hda e
      clear hpe hpv hlen ha hb hA hC hAl hCl hAs hCs h90 hneg hL hLl hO hOl hOs hSG h46 hT HD1 HD2 HFR HC47
      go_enter Tryz.func32, Tryz.ntmps32
      go_wp2_with fail
      refine (HSI.out).mono ?_
      rintro e w1 ⟨rfl, hb1⟩
      have HB1 := hide hb1
      clear hb1
      go_wp2_with fail
      refine (HC46.out _ (HT.out.on HB1.out hB)).mono ?_
      rintro e w2 ⟨rfl, hb2⟩
      have HB2 := hide (HB1.out.trans (hb2.mono HB1.out.size))
      clear hb2
      go_wp2_with fail
      refine (HDA.out _).mono ?_
      rintro e w3 ⟨rfl, hb3⟩
      have HB3 := hide (HB2.out.trans (hb3.mono HB2.out.size))
      clear hb3
      go_wp2_with fail
      refine bodyPost_ret (results_tmp2 rfl _ _ _) rfl ?_
      exact ⟨rfl, HB3.out⟩
  · rw [if_neg h46] at hpe hpv
    have h46d : decide (46 ∈ L) = false := by simpa using h46
    rw [h46d, if_neg h46, show KI.ahead 46 L = L from cut_not h46, ← hO, show strB [] = ⟨#[]⟩ from rfl] at HC46
    obtain ⟨a, ha⟩ : ∃ a, a = KI.ahead 47 L := ⟨_, rfl⟩
    have hal : a.length ≤ 90 := by rw [ha]; have := ahead_le 47 L; omega
    rw [← ha] at HC47 hpe hpv
    obtain ⟨A, hA⟩ : ∃ O, O = strB a := ⟨_, rfl⟩
    have hAl : A.data.toList = a := by rw [hA, strB_list]
    have hAs : A.size = a.length := by rw [hA, strB_size]
    rw [← hA] at HC47
    have HD1 := hide (fun b hb w => mdigits_any A (by omega) b hb w)
    rw [hAl] at HD1
    clear ha h46d
    by_cases hda : allDg a
    · have HDA := hide (HD1.out true (by simpa using hda))
      by_cases h47 : 47 ∈ L
      · rw [if_pos h47] at hpv
        have hbl := behind_le 47 L
        obtain ⟨b, hb⟩ : ∃ a, a = KI.behind 47 L := ⟨_, rfl⟩
        rw [if_pos h47, ← hb, show decide (47 ∈ L) = true by simpa using h47] at HC47
        rw [← hb] at hpe hpv hbl
        obtain ⟨C, hC⟩ : ∃ O, O = strB b := ⟨_, rfl⟩
        have hCl : C.data.toList = b := by rw [hC, strB_list]
        have hCs : C.size = b.length := by rw [hC, strB_size]
        rw [← hC] at HC47
        have HD2 := hide (fun b hb w => mdigits_any C (by omega) b hb w)
        rw [hCl] at HD2
        clear hb
        by_cases hdb : allDg b
        · have HDB := hide (HD2.out true (by simpa using hdb))
          have HWH := hide (fun w => mwhole_any C (by rw [hCl]; exact hdb.2) w)
          rw [hCl] at HWH
          have hvb : dv b < 10 ^ 92 := Nat.lt_of_lt_of_le (dv_lt _ hdb.2) (Nat.pow_le_pow_right (by omega) (by omega))
          have hn3 : ¬ (¬ allDg a ∨ (47 ∈ L ∧ ¬ allDg b)) := fun h => by
            rcases h with h | h
            · exact h hda
            · exact h.2 hdb
          rw [if_neg hn3] at hpe
          by_cases h0 : dv b = 0
          · have e : parseE s.data.toList = 12 := by rw [hpe, if_pos ⟨h47, h0⟩]
            rw [show parseS s.data.toList = [] by unfold parseS; rw [e, if_neg (by decide)], e, pairV_err]
            rw [h0, dec_zero, show strB [48] = ⟨#[48]⟩ from rfl] at HWH
            clear hda hdb e hn3 hvb h0 h47 hbl hC hCl hCs HD2 hal HFR
            clear hpe hpv h90 hneg hL hLl hO hOl hOs hSG h46 hT hA hAl hAs HD1
            go_enter Tryz.func32, Tryz.ntmps32
            go_wp2_with fail
            refine (HSI.out).mono ?_
            rintro e w1 ⟨rfl, hb1⟩
            have HB1 := hide hb1
            clear hb1
            go_wp2_with fail
            refine (HC46.out _ (HT.out.on HB1.out hB)).mono ?_
            rintro e w2 ⟨rfl, hb2⟩
            have HB2 := hide (HB1.out.trans (hb2.mono HB1.out.size))
            clear hb2
            go_wp2_with fail
            refine (HC47.out _ (HT.out.on HB2.out hB)).mono ?_
            rintro e w2b ⟨rfl, hb2b⟩
            have HB2b := hide (HB2.out.trans (hb2b.mono HB2.out.size))
            clear hb2b
            go_wp2_with fail
            refine (HDA.out _).mono ?_
            rintro e w3 ⟨rfl, hb3⟩
            have HB3 := hide (HB2b.out.trans (hb3.mono HB2b.out.size))
            clear hb3
            go_wp2_with fail
            refine (HDB.out _).mono ?_
            rintro e w4 ⟨rfl, hb4⟩
            have HB4 := hide (HB3.out.trans (hb4.mono HB3.out.size))
            clear hb4
            go_wp2_with fail
            refine (HWH.out _).mono ?_
            rintro e w5 ⟨rfl, hb5⟩
            have HB5 := hide (HB4.out.trans (hb5.mono HB4.out.size))
            clear hb5
            go_wp2_with fail
            refine bodyPost_ret (results_tmp2 rfl _ _ _) rfl ?_
            exact ⟨rfl, HB5.out⟩
          · have e : parseE s.data.toList = 0 := by rw [hpe, if_neg (fun h => h0 h.2)]
            rw [show parseS s.data.toList = ratS (parseV s.data.toList) by unfold parseS; rw [if_pos e], e, hpv]
            have hne : ((strB (Lib.decDigits (dv b))).toList == [48]) = false := (lit_eq (strB_list _)).2 (fun h => h0 (dec_inj (h.trans dec_zero.symm)))
            have HF := hide (fun w hB hT => HFR.out A (strB (Lib.decDigits (dv b))) (dv b) (by rw [hAl]; exact hda.2) (by omega) (strB_list _) hvb h0 w hB hT)
            rw [hAl] at HF
            obtain ⟨X, hX⟩ : ∃ X, X = strB (ratS (sgn neg ((dv a : Nat) / ((dv b : Nat) : Rat)))) := ⟨_, rfl⟩
            rw [show pairV (ratS (sgn neg ((dv a : Nat) / ((dv b : Nat) : Rat)))) 0 = .tuple #[.string X, .int .i64 0] by rw [hX]]
            rw [← hX] at HF
            obtain ⟨E, hE⟩ : ∃ X, X = strB (Lib.decDigits (dv b)) := ⟨_, rfl⟩
            rw [← hE] at HF HWH hne
            clear hda hdb e hn3 hvb h0 h47 hbl hC hCl hCs HD2 hal HFR hX hE
            clear hpe hpv h90 hneg hL hLl hO hOl hOs hSG h46 hT hA hAl hAs HD1
            go_enter Tryz.func32, Tryz.ntmps32
            go_wp2_with fail
            refine (HSI.out).mono ?_
            rintro e w1 ⟨rfl, hb1⟩
            have HB1 := hide hb1
            clear hb1
            go_wp2_with fail
            refine (HC46.out _ (HT.out.on HB1.out hB)).mono ?_
            rintro e w2 ⟨rfl, hb2⟩
            have HB2 := hide (HB1.out.trans (hb2.mono HB1.out.size))
            clear hb2
            go_wp2_with fail
            refine (HC47.out _ (HT.out.on HB2.out hB)).mono ?_
            rintro e w2b ⟨rfl, hb2b⟩
            have HB2b := hide (HB2.out.trans (hb2b.mono HB2.out.size))
            clear hb2b
            go_wp2_with fail
            refine (HDA.out _).mono ?_
            rintro e w3 ⟨rfl, hb3⟩
            have HB3 := hide (HB2b.out.trans (hb3.mono HB2b.out.size))
            clear hb3
            go_wp2_with fail
            refine (HDB.out _).mono ?_
            rintro e w4 ⟨rfl, hb4⟩
            have HB4 := hide (HB3.out.trans (hb4.mono HB3.out.size))
            clear hb4
            go_wp2_with fail
            refine (HWH.out _).mono ?_
            rintro e w5 ⟨rfl, hb5⟩
            have HB5 := hide (HB4.out.trans (hb5.mono HB4.out.size))
            clear hb5
            go_wp2_with fail
            refine (HF.out _ (Nat.le_trans hB HB5.out.size) (HT.out.on HB5.out hB)).mono ?_
            rintro e w6 ⟨rfl, hb6⟩
            have HB6 := hide (HB5.out.trans (hb6.mono HB5.out.size))
            clear hb6
            go_wp2_with fail
            refine bodyPost_ret (results_tmp2 rfl _ _ _) rfl ?_
            exact ⟨rfl, HB6.out⟩
        · have HDB := hide (HD2.out false (by simpa using hdb))
          have e : parseE s.data.toList = 3 := by rw [hpe, if_pos (.inr ⟨h47, hdb⟩)]
          rw [show parseS s.data.toList = [] by unfold parseS; rw [e, if_neg (by decide)], e, pairV_err]
          clear hda hdb e h47 hbl hC hCl hCs HD2 hal HFR
          clear hpe hpv h90 hneg hL hLl hO hOl hOs hSG h46 hT hA hAl hAs HD1
          go_enter Tryz.func32, Tryz.ntmps32
          go_wp2_with fail
          refine (HSI.out).mono ?_
          rintro e w1 ⟨rfl, hb1⟩
          have HB1 := hide hb1
          clear hb1
          go_wp2_with fail
          refine (HC46.out _ (HT.out.on HB1.out hB)).mono ?_
          rintro e w2 ⟨rfl, hb2⟩
          have HB2 := hide (HB1.out.trans (hb2.mono HB1.out.size))
          clear hb2
          go_wp2_with fail
          refine (HC47.out _ (HT.out.on HB2.out hB)).mono ?_
          rintro e w2b ⟨rfl, hb2b⟩
          have HB2b := hide (HB2.out.trans (hb2b.mono HB2.out.size))
          clear hb2b
          go_wp2_with fail
          refine (HDA.out _).mono ?_
          rintro e w3 ⟨rfl, hb3⟩
          have HB3 := hide (HB2b.out.trans (hb3.mono HB2b.out.size))
          clear hb3
          go_wp2_with fail
          refine (HDB.out _).mono ?_
          rintro e w4 ⟨rfl, hb4⟩
          have HB4 := hide (HB3.out.trans (hb4.mono HB3.out.size))
          clear hb4
          go_wp2_with fail
          refine bodyPost_ret (results_tmp2 rfl _ _ _) rfl ?_
          exact ⟨rfl, HB4.out⟩
      · rw [if_neg h47] at hpv
        have h47d : decide (47 ∈ L) = false := by simpa using h47
        rw [if_neg h47, h47d, show strB [] = ⟨#[]⟩ from rfl] at HC47
        have hn3 : ¬ (¬ allDg a ∨ (47 ∈ L ∧ ¬ allDg (KI.behind 47 L))) := fun h => by
          rcases h with h | h
          · exact h hda
          · exact h47 h.1
        have e : parseE s.data.toList = 0 := by rw [hpe, if_neg hn3, if_neg (fun h => h47 h.1)]
        rw [show parseS s.data.toList = ratS (parseV s.data.toList) by unfold parseS; rw [if_pos e], e, hpv]
        have HWH := hide (fun w => mwhole_any ⟨#[49]⟩ (by
          intro c hc
          have h49 : c = 49 := by simpa using hc
          rw [h49]
          rfl) w)
        rw [show dv (⟨#[49]⟩ : ByteArray).data.toList = 1 from rfl, one_dec, show strB [49] = ⟨#[49]⟩ from rfl] at HWH
        have HF := hide (fun w hB hT => HFR.out A ⟨#[49]⟩ 1 (by rw [hAl]; exact hda.2) (by omega) (by rw [one_dec]) (by decide) (by decide) w hB hT)
        rw [hAl] at HF
        obtain ⟨X, hX⟩ : ∃ X, X = strB (ratS (sgn neg ((dv a : Nat) / ((1 : Nat) : Rat)))) := ⟨_, rfl⟩
        rw [show pairV (ratS (sgn neg ((dv a : Nat) / ((1 : Nat) : Rat)))) 0 = .tuple #[.string X, .int .i64 0] by rw [hX]]
        rw [← hX] at HF
        clear hda e hn3 h47 h47d hal HFR hX
        clear hpe hpv h90 hneg hL hLl hO hOl hOs hSG h46 hT hA hAl hAs HD1
        go_enter Tryz.func32, Tryz.ntmps32
        go_wp2_with fail
        refine (HSI.out).mono ?_
        rintro e w1 ⟨rfl, hb1⟩
        have HB1 := hide hb1
        clear hb1
        go_wp2_with fail
        refine (HC46.out _ (HT.out.on HB1.out hB)).mono ?_
        rintro e w2 ⟨rfl, hb2⟩
        have HB2 := hide (HB1.out.trans (hb2.mono HB1.out.size))
        clear hb2
        go_wp2_with fail
        refine (HC47.out _ (HT.out.on HB2.out hB)).mono ?_
        rintro e w2b ⟨rfl, hb2b⟩
        have HB2b := hide (HB2.out.trans (hb2b.mono HB2.out.size))
        clear hb2b
        go_wp2_with fail
        refine (HDA.out _).mono ?_
        rintro e w3 ⟨rfl, hb3⟩
        have HB3 := hide (HB2b.out.trans (hb3.mono HB2b.out.size))
        clear hb3
        go_wp2_with fail
        refine (HWH.out _).mono ?_
        rintro e w5 ⟨rfl, hb5⟩
        have HB5 := hide (HB3.out.trans (hb5.mono HB3.out.size))
        clear hb5
        go_wp2_with fail
        refine (HF.out _ (Nat.le_trans hB HB5.out.size) (HT.out.on HB5.out hB)).mono ?_
        rintro e w6 ⟨rfl, hb6⟩
        have HB6 := hide (HB5.out.trans (hb6.mono HB5.out.size))
        clear hb6
        go_wp2_with fail
        refine bodyPost_ret (results_tmp2 rfl _ _ _) rfl ?_
        exact ⟨rfl, HB6.out⟩
    · have HDA := hide (HD1.out false (by simpa using hda))
      have e : parseE s.data.toList = 3 := by rw [hpe, if_pos (.inl hda)]
      rw [show parseS s.data.toList = [] by unfold parseS; rw [e, if_neg (by decide)], e, pairV_err]
      obtain ⟨C, hC⟩ : ∃ O, O = strB (if 47 ∈ L then KI.behind 47 L else []) := ⟨_, rfl⟩
      obtain ⟨is, his⟩ : ∃ is, is = decide (47 ∈ L) := ⟨_, rfl⟩
      rw [← hC, ← his] at HC47
      clear hda e hal HFR hC his
      clear hpe hpv h90 hneg hL hLl hO hOl hOs hSG h46 hT hA hAl hAs HD1
      go_enter Tryz.func32, Tryz.ntmps32
      go_wp2_with fail
      refine (HSI.out).mono ?_
      rintro e w1 ⟨rfl, hb1⟩
      have HB1 := hide hb1
      clear hb1
      go_wp2_with fail
      refine (HC46.out _ (HT.out.on HB1.out hB)).mono ?_
      rintro e w2 ⟨rfl, hb2⟩
      have HB2 := hide (HB1.out.trans (hb2.mono HB1.out.size))
      clear hb2
      go_wp2_with fail
      refine (HC47.out _ (HT.out.on HB2.out hB)).mono ?_
      rintro e w2b ⟨rfl, hb2b⟩
      have HB2b := hide (HB2.out.trans (hb2b.mono HB2.out.size))
      clear hb2b
      go_wp2_with fail
      refine (HDA.out _).mono ?_
      rintro e w3 ⟨rfl, hb3⟩
      have HB3 := hide (HB2b.out.trans (hb3.mono HB2b.out.size))
      clear hb3
      go_wp2_with fail
      refine bodyPost_ret (results_tmp2 rfl _ _ _) rfl ?_
      exact ⟨rfl, HB3.out⟩
end Go.Proofs.YtfgjpnoeibiaaaaGreatDoor
