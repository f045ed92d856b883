/-
  Texts laid together.
-/
import Derived.Test.YtklgpilgalfckaaGreatDoorMN10
import Derived.Test.YtklgpilgalfckaaGreatDoorMN5
import Derived.Test.YtklgpilgalfckaaGreatDoorMN3
import Derived.Laws.StructEq
set_option maxRecDepth 100000
set_option maxHeartbeats 8000000
namespace Go.Proofs.YtklgpilgalfckaaGreatDoor
open Go.RowKit Go.KP Go.KI Go.Shelf
attribute [local go_sem] Oper.semAt_some

theorem qCheck_any (s : ByteArray) (hs : s.size ≤ 1000000) (B : Nat) (w : World) (hB : B ≤ w.heap.size) (hT : PQ B w) :
    Calls Tryz.prog 89 #[.string s] w (Ret w (.int .i64 (chkQ s.data.toList))) := by
  have H1 := hide (qread_any s hs B w hB hT)
  by_cases h : chkQ s.data.toList = 0
  · rw [readV_good h] at H1
    rw [h]
    obtain ⟨n, hn⟩ : ∃ n, n = strB (Lib.itoa (valQ s.data.toList).num) := ⟨_, rfl⟩
    obtain ⟨d, hd⟩ : ∃ d, d = strB (Lib.itoa ((valQ s.data.toList).den : Int)) := ⟨_, rfl⟩
    rw [← hn, ← hd] at H1
    clear hn hd h
    go_enter Tryz.func89, Tryz.ntmps89
    go_wp2_with fail
    refine H1.out.mono ?_
    rintro e w1 ⟨rfl, hb1⟩
    have HB1 := hide hb1
    clear hb1
    go_wp2_with fail
    go_ret
    exact ⟨rfl, HB1.out.trans ((heap1 w1 _).2.2.mono HB1.out.size)⟩
  · rw [readV_bad h] at H1
    obtain ⟨E, hE⟩ : ∃ E, E = chkQ s.data.toList := ⟨_, rfl⟩
    rw [← hE] at H1 ⊢
    clear h hE
    go_enter Tryz.func89, Tryz.ntmps89
    go_wp2_with fail
    refine H1.out.mono ?_
    rintro e w1 ⟨rfl, hb1⟩
    have HB1 := hide hb1
    clear hb1
    go_wp2_with fail
    go_ret
    exact ⟨rfl, HB1.out.trans ((heap1 w1 _).2.2.mono HB1.out.size)⟩
def partsR (l : List UInt8) : Value := if chkQ l = 0 then tripV (Lib.itoa (valQ l).num) (Lib.itoa ((valQ l).den : Int)) 0 else tripV [] [] (chkQ l)
theorem qParts_any (s : ByteArray) (hs : s.size ≤ 1000000) (B : Nat) (w : World) (hB : B ≤ w.heap.size) (hT : PQ B w) :
    Calls Tryz.prog 119 #[.string s] w (Ret w (partsR s.data.toList)) := by
  have H1 := hide (qread_any s hs B w hB hT)
  have hk : ∃ (n d : ByteArray) (z : Int), readV s.data.toList = .tuple #[partsV n d, .int .i64 z] ∧ partsR s.data.toList = .tuple #[.string n, .string d, .int .i64 z] := by
    by_cases h : chkQ s.data.toList = 0
    · exact ⟨_, _, _, readV_good h, if_pos h⟩
    · exact ⟨_, _, _, readV_bad h, if_neg h⟩
  obtain ⟨n, d, z, e1, e2⟩ := hk
  rw [e1] at H1
  rw [e2]
  clear e1 e2
  go_enter Tryz.func119, Tryz.ntmps119
  go_wp2_with fail
  refine H1.out.mono ?_
  rintro e w1 ⟨rfl, hb1⟩
  have HB1 := hide (hb1.trans ((heap1 w1 (partsO n d)).2.2.mono hb1.size))
  clear hb1
  go_wp2_with fail
  go_quiet (fail)
  go_wp2_with fail
  go_ret3
  exact ⟨rfl, below_drewN HB1.out _⟩
theorem fits_i64 {z : Int} (h0 : -9223372036854775808 ≤ z) (h1 : z ≤ 9223372036854775807) : fits z :=
  fits_small (n := 20) (by rw [most_eq]; omega) (Nat.lt_of_lt_of_le (m := 10000000000000000000) (by omega) (by decide))
theorem qOf_any (n d : Int) (n0 : -9223372036854775808 ≤ n) (n1 : n ≤ 9223372036854775807) (d0 : -9223372036854775808 ≤ d) (d1 : d ≤ 9223372036854775807) (hd : d ≠ 0) (B : Nat) (w : World) (hB : B ≤ w.heap.size) (hT : PQ B w) :
    Calls Tryz.prog 75 #[.int .i64 n, .int .i64 d] w (Ret w (pairV (ratS (Rat.divInt n d)) 0)) := by
  have HT := hide hT.p10
  have HI := hide (fun w hT => itoa_any n n0 n1 B w hT)
  have z0 : (d == 0) = false := by simpa using hd
  by_cases h1 : d = 1
  · subst h1
    have e1 : ratS (Rat.divInt n 1) = Lib.itoa n := by rw [show (1 : Int) = ((1 : Nat) : Int) from rfl, Rat.divInt_ofNat, Rat.mkRat_one, ratS_int]
    rw [e1]
    obtain ⟨X, hX⟩ : ∃ X, X = strB (Lib.itoa n) := ⟨_, rfl⟩
    rw [show pairV (Lib.itoa n) 0 = .tuple #[.string X, .int .i64 0] by rw [hX]]
    rw [← hX] at HI
    clear hX e1 hd hT
    go_enter Tryz.func75, Tryz.ntmps75
    go_wp2_with fail
    refine (HI.out _ HT.out).mono ?_
    rintro e w1 ⟨rfl, hb1⟩
    have HB1 := hide hb1
    clear hb1
    go_wp2_with fail
    refine bodyPost_ret (results_tmp2 rfl _ _ _) rfl ?_
    exact ⟨rfl, HB1.out⟩
  · have z1 : (d == 1) = false := by simpa using h1
    have HI2 := hide (fun w hT => itoa_any d d0 d1 B w hT)
    have HN := hide (fun w hB hT => qnumber_any (s := strB (Lib.itoa n)) (t := strB (Lib.itoa d)) (strB_list _) (strB_list _) (fits_i64 n0 n1) (fits_i64 d0 d1) hd B w hB hT)
    obtain ⟨X, hX⟩ : ∃ X, X = strB (Lib.itoa n) := ⟨_, rfl⟩
    obtain ⟨Y, hY⟩ : ∃ X, X = strB (Lib.itoa d) := ⟨_, rfl⟩
    obtain ⟨Z, hZ⟩ : ∃ X, X = strB (ratS (Rat.divInt n d)) := ⟨_, rfl⟩
    rw [show pairV (ratS (Rat.divInt n d)) 0 = .tuple #[.string Z, .int .i64 0] by rw [hZ]] at HN ⊢
    rw [← hX] at HI HN
    rw [← hY] at HI2 HN
    clear hX hY hZ hd h1 hT
    go_enter Tryz.func75, Tryz.ntmps75
    go_wp2_with fail
    refine (HI.out _ HT.out).mono ?_
    rintro e w1 ⟨rfl, hb1⟩
    have HB1 := hide hb1
    clear hb1
    go_wp2_with fail
    refine (HI2.out _ (HT.out.on HB1.out hB)).mono ?_
    rintro e w2 ⟨rfl, hb2⟩
    have HB2 := hide (HB1.out.trans (hb2.mono HB1.out.size))
    clear hb2
    go_wp2_with fail
    refine (HN.out _ (Nat.le_trans hB HB2.out.size) (HT.out.on HB2.out hB)).mono ?_
    rintro e w3 ⟨rfl, hb3⟩
    have HB3 := hide (HB2.out.trans (hb3.mono HB2.out.size))
    clear hb3
    go_wp2_with fail
    refine bodyPost_ret (results_tmp2 rfl _ _ _) rfl ?_
    exact ⟨rfl, HB3.out⟩
open Go.RowKit Go.KP Go.KI Go.Shelf
attribute [local go_sem] Oper.semAt_some

def cmpI (x y : Rat) : Int := Lib.compareInt (x.num * y.den) (y.num * x.den)
def cmpN (a b : List UInt8) : Int := if bothQ a b = 0 then (if cmpC (valQ a) (valQ b) then cmpI (valQ a) (valQ b) else 0) else 0
def cmpE (a b : List UInt8) : Int := if bothQ a b = 0 then (if cmpC (valQ a) (valQ b) then 0 else 4) else bothQ a b
abbrev cmpV2 (n e : Int) : Value := .tuple #[.int .i64 n, .int .i64 e]
theorem qCompare_any (s t : ByteArray) (hs : s.size ≤ 1000000) (ht : t.size ≤ 1000000) (B : Nat) (w : World) (hB : B ≤ w.heap.size) (hT : PQ B w) :
    Calls Tryz.prog 77 #[.string s, .string t] w (Ret w (cmpV2 (cmpN s.data.toList t.data.toList) (cmpE s.data.toList t.data.toList))) := by
  have HT := hide hT
  have HN1 := hide (nativeOf_any s hs w)
  have HN2 := hide (fun w => nativeOf_any t ht w)
  by_cases hq : natQ s.data.toList ∧ natQ t.data.toList
  · obtain ⟨k1, k2, _, _, _⟩ := quick_nums hq.1 hq.2
    have hb := zero_bothQ hq.1.1 hq.2.1
    have hc : cmpC (valQ s.data.toList) (valQ t.data.toList) := cmpC_of (natQ_sz hq.1) (natQ_sz hq.2) (by rw [most_eq]; omega)
    have e1 : cmpN s.data.toList t.data.toList = cmpI (valQ s.data.toList) (valQ t.data.toList) := by unfold cmpN; rw [if_pos hb, if_pos hc]
    have e2 : cmpE s.data.toList t.data.toList = 0 := by unfold cmpE; rw [if_pos hb, if_pos hc]
    rw [e1, e2]
    rw [natOV_yes hq.1] at HN1
    rw [natOV_yes hq.2] at HN2
    unfold cmpI
    obtain ⟨x, hx⟩ : ∃ x, x = (valQ s.data.toList).num := ⟨_, rfl⟩
    obtain ⟨p, hp⟩ : ∃ y, y = ((valQ s.data.toList).den : Int) := ⟨_, rfl⟩
    obtain ⟨y, hy⟩ : ∃ x, x = (valQ t.data.toList).num := ⟨_, rfl⟩
    obtain ⟨q, hq1⟩ : ∃ y, y = ((valQ t.data.toList).den : Int) := ⟨_, rfl⟩
    rw [← hx, ← hp] at HN1
    rw [← hy, ← hq1] at HN2
    rw [← hx, ← hq1] at k1
    rw [← hy, ← hp] at k2
    rw [← hx, ← hp, ← hy, ← hq1]
    have m1 : IntKind.i64.wrap (x * q) = x * q := IntWalk.i64_in _ (by omega)
    have m2 : IntKind.i64.wrap (y * p) = y * p := IntWalk.i64_in _ (by omega)
    obtain ⟨R, hR⟩ : ∃ R, R = Lib.compareInt (x * q) (y * p) := ⟨_, rfl⟩
    have HC := hide (fun w => Tryz.cmp_Compare_int (x * q) (y * p) w)
    rw [← hR] at HC ⊢
    clear hx hp hy hq1 k1 k2 hb hc e1 e2 hR hq hT
    go_enter Tryz.func77, Tryz.ntmps77
    go_wp2_with fail
    refine HN1.out.mono ?_
    rintro e w1 ⟨rfl, hb1⟩
    have X1 := hide (heap1 w1 (natO x p))
    have HB1 := hide (hb1.trans (X1.out.2.2.mono hb1.size))
    clear hb1
    go_wp2_with fail
    refine (HN2.out _).mono ?_
    rintro e w2 ⟨rfl, hb2⟩
    have G2 := hide (below_blk hb2 X1.out.1 (lt_blk X1.out.1))
    have HB2 := hide (HB1.out.trans (hb2.mono HB1.out.size))
    have X2 := hide (heap1 w2 (natO y q))
    have HB2b := hide (HB2.out.trans (X2.out.2.2.mono HB2.out.size))
    have c0 := cell_blk G2.out 0
    have c1 := cell_blk G2.out 1
    have hl := lt_blk G2.out
    clear hb2
    go_wp2_with fail
    refine (HC.out _).mono ?_
    rintro e w3 ⟨rfl, rfl⟩
    go_wp2_with fail
    refine bodyPost_ret (results_tmp2 rfl _ _ _) rfl ?_
    exact ⟨rfl, HB2b.out⟩
  · -- the parts are read
    have HR1 := hide (fun w hB hT => qread_any s hs B w hB hT)
    have HR2 := hide (fun w hB hT => qread_any t ht B w hB hT)
    have hway : (natQ s.data.toList ∧ ¬ natQ t.data.toList) ∨ ¬ natQ s.data.toList := by
      by_cases h1 : natQ s.data.toList
      · exact .inl ⟨h1, fun e => hq ⟨h1, e⟩⟩
      · exact .inr h1
    have hk : (chkQ s.data.toList ≠ 0 ∧ cmpN s.data.toList t.data.toList = 0 ∧ cmpE s.data.toList t.data.toList = chkQ s.data.toList) ∨
        (chkQ s.data.toList = 0 ∧ chkQ t.data.toList ≠ 0 ∧ cmpN s.data.toList t.data.toList = 0 ∧ cmpE s.data.toList t.data.toList = chkQ t.data.toList) ∨
        (chkQ s.data.toList = 0 ∧ chkQ t.data.toList = 0 ∧ ¬ cmpC (valQ s.data.toList) (valQ t.data.toList) ∧ cmpN s.data.toList t.data.toList = 0 ∧ cmpE s.data.toList t.data.toList = 4) ∨
        (chkQ s.data.toList = 0 ∧ chkQ t.data.toList = 0 ∧ cmpC (valQ s.data.toList) (valQ t.data.toList) ∧ cmpN s.data.toList t.data.toList = cmpI (valQ s.data.toList) (valQ t.data.toList) ∧ cmpE s.data.toList t.data.toList = 0) := by
      unfold cmpN cmpE
      by_cases h1 : chkQ s.data.toList = 0
      · by_cases h2 : chkQ t.data.toList = 0
        · have hb := zero_bothQ h1 h2
          by_cases h3 : cmpC (valQ s.data.toList) (valQ t.data.toList)
          · exact .inr (.inr (.inr ⟨h1, h2, h3, by rw [if_pos hb, if_pos h3], by rw [if_pos hb, if_pos h3]⟩))
          · exact .inr (.inr (.inl ⟨h1, h2, h3, by rw [if_pos hb, if_neg h3], by rw [if_pos hb, if_neg h3]⟩))
        · have hb : bothQ s.data.toList t.data.toList = chkQ t.data.toList := if_pos h1
          exact .inr (.inl ⟨h1, h2, by rw [hb, if_neg h2], by rw [hb, if_neg h2]⟩)
      · have hb : bothQ s.data.toList t.data.toList = chkQ s.data.toList := if_neg h1
        exact .inl ⟨h1, by rw [hb, if_neg h1], by rw [hb, if_neg h1]⟩
    have HY1 := hide (fun (h : natQ s.data.toList) => natOV_yes h)
    have HNN1 := hide (fun (h : ¬ natQ s.data.toList) => natOV_no h)
    have HNN2 := hide (fun (h : ¬ natQ t.data.toList) => natOV_no h)
    rcases hk with ⟨h1, e1, e2⟩ | ⟨h1, h2, e1, e2⟩ | ⟨h1, h2, h3, e1, e2⟩ | ⟨h1, h2, h3, e1, e2⟩
    · rw [e1, e2]
      rw [readV_bad h1] at HR1
      have hne : (chkQ s.data.toList != 0) = true := by simpa using h1
      obtain ⟨E, hE⟩ : ∃ E, E = chkQ s.data.toList := ⟨_, rfl⟩
      rw [← hE] at HR1 hne ⊢
      clear hE h1 e1 e2 hq hT
      rcases hway with ⟨n1, n2⟩ | n1
      · rw [HY1.out n1] at HN1
        rw [HNN2.out n2] at HN2
        clear n1 n2
        obtain ⟨x, hx⟩ : ∃ x, x = (valQ s.data.toList).num := ⟨_, rfl⟩
        obtain ⟨p, hp⟩ : ∃ y, y = ((valQ s.data.toList).den : Int) := ⟨_, rfl⟩
        rw [← hx, ← hp] at HN1
        clear hx hp
        go_enter Tryz.func77, Tryz.ntmps77
        go_wp2_with fail
        refine HN1.out.mono ?_
        rintro e w1 ⟨rfl, hb1⟩
        have HB1 := hide (hb1.trans ((heap1 w1 (natO x p)).2.2.mono hb1.size))
        clear hb1
        go_wp2_with fail
        refine (HN2.out _).mono ?_
        rintro e w2 ⟨rfl, hb2⟩
        have HB2 := hide (HB1.out.trans (hb2.mono HB1.out.size))
        have HB2b := hide (HB2.out.trans ((heap1 w2 (natO 0 0)).2.2.mono HB2.out.size))
        clear hb2
        go_wp2_with fail
        refine (HR1.out _ (Nat.le_trans hB HB2b.out.size) (HT.out.on HB2b.out hB)).mono ?_
        rintro e w3 ⟨rfl, hb3⟩
        have HB3 := hide (HB2b.out.trans (hb3.mono HB2b.out.size))
        clear hb3
        go_wp2_with fail
        refine bodyPost_ret (results_tmp2 rfl _ _ _) rfl ?_
        exact ⟨rfl, HB3.out.trans ((heap1 w3 _).2.2.mono HB3.out.size)⟩
      · rw [HNN1.out n1] at HN1
        clear n1
        go_enter Tryz.func77, Tryz.ntmps77
        go_wp2_with fail
        refine HN1.out.mono ?_
        rintro e w1 ⟨rfl, hb1⟩
        have HB2b := hide (hb1.trans ((heap1 w1 (natO 0 0)).2.2.mono hb1.size))
        clear hb1
        go_wp2_with fail
        refine (HR1.out _ (Nat.le_trans hB HB2b.out.size) (HT.out.on HB2b.out hB)).mono ?_
        rintro e w3 ⟨rfl, hb3⟩
        have HB3 := hide (HB2b.out.trans (hb3.mono HB2b.out.size))
        clear hb3
        go_wp2_with fail
        refine bodyPost_ret (results_tmp2 rfl _ _ _) rfl ?_
        exact ⟨rfl, HB3.out.trans ((heap1 w3 _).2.2.mono HB3.out.size)⟩
    · rw [e1, e2]
      rw [readV_good h1] at HR1
      rw [readV_bad h2] at HR2
      have hne : (chkQ t.data.toList != 0) = true := by simpa using h2
      obtain ⟨E, hE⟩ : ∃ E, E = chkQ t.data.toList := ⟨_, rfl⟩
      rw [← hE] at HR2 hne ⊢
      obtain ⟨n, hn⟩ : ∃ n, n = strB (Lib.itoa (valQ s.data.toList).num) := ⟨_, rfl⟩
      obtain ⟨d, hd⟩ : ∃ d, d = strB (Lib.itoa ((valQ s.data.toList).den : Int)) := ⟨_, rfl⟩
      rw [← hn, ← hd] at HR1
      clear hE h1 h2 e1 e2 hq hT hn hd
      rcases hway with ⟨n1, n2⟩ | n1
      · rw [HY1.out n1] at HN1
        rw [HNN2.out n2] at HN2
        clear n1 n2
        obtain ⟨x, hx⟩ : ∃ x, x = (valQ s.data.toList).num := ⟨_, rfl⟩
        obtain ⟨p, hp⟩ : ∃ y, y = ((valQ s.data.toList).den : Int) := ⟨_, rfl⟩
        rw [← hx, ← hp] at HN1
        clear hx hp
        go_enter Tryz.func77, Tryz.ntmps77
        go_wp2_with fail
        refine HN1.out.mono ?_
        rintro e w1 ⟨rfl, hb1⟩
        have HB1 := hide (hb1.trans ((heap1 w1 (natO x p)).2.2.mono hb1.size))
        clear hb1
        go_wp2_with fail
        refine (HN2.out _).mono ?_
        rintro e w2 ⟨rfl, hb2⟩
        have HB2 := hide (HB1.out.trans (hb2.mono HB1.out.size))
        have HB2b := hide (HB2.out.trans ((heap1 w2 (natO 0 0)).2.2.mono HB2.out.size))
        clear hb2
        go_wp2_with fail
        refine (HR1.out _ (Nat.le_trans hB HB2b.out.size) (HT.out.on HB2b.out hB)).mono ?_
        rintro e w3 ⟨rfl, hb3⟩
        have HB3 := hide (HB2b.out.trans (hb3.mono HB2b.out.size))
        have X3 := hide (heap1 w3 (partsO n d))
        have HB3b := hide (HB3.out.trans (X3.out.2.2.mono HB3.out.size))
        clear hb3
        go_wp2_with fail
        refine (HR2.out _ (Nat.le_trans hB HB3b.out.size) (HT.out.on HB3b.out hB)).mono ?_
        rintro e w4 ⟨rfl, hb4⟩
        have G4 := hide (below_blk hb4 X3.out.1 (lt_blk X3.out.1))
        have HB4 := hide (HB3b.out.trans (hb4.mono HB3b.out.size))
        clear hb4
        go_wp2_with fail
        refine bodyPost_ret (results_tmp2 rfl _ _ _) rfl ?_
        exact ⟨rfl, HB4.out.trans ((heap1 w4 _).2.2.mono HB4.out.size)⟩
      · rw [HNN1.out n1] at HN1
        clear n1
        go_enter Tryz.func77, Tryz.ntmps77
        go_wp2_with fail
        refine HN1.out.mono ?_
        rintro e w1 ⟨rfl, hb1⟩
        have HB2b := hide (hb1.trans ((heap1 w1 (natO 0 0)).2.2.mono hb1.size))
        clear hb1
        go_wp2_with fail
        refine (HR1.out _ (Nat.le_trans hB HB2b.out.size) (HT.out.on HB2b.out hB)).mono ?_
        rintro e w3 ⟨rfl, hb3⟩
        have HB3 := hide (HB2b.out.trans (hb3.mono HB2b.out.size))
        have X3 := hide (heap1 w3 (partsO n d))
        have HB3b := hide (HB3.out.trans (X3.out.2.2.mono HB3.out.size))
        clear hb3
        go_wp2_with fail
        refine (HR2.out _ (Nat.le_trans hB HB3b.out.size) (HT.out.on HB3b.out hB)).mono ?_
        rintro e w4 ⟨rfl, hb4⟩
        have G4 := hide (below_blk hb4 X3.out.1 (lt_blk X3.out.1))
        have HB4 := hide (HB3b.out.trans (hb4.mono HB3b.out.size))
        clear hb4
        go_wp2_with fail
        refine bodyPost_ret (results_tmp2 rfl _ _ _) rfl ?_
        exact ⟨rfl, HB4.out.trans ((heap1 w4 _).2.2.mono HB4.out.size)⟩
    · rw [e1, e2]
      rw [readV_good h1] at HR1
      rw [readV_good h2] at HR2
      have HC := hide (fun w hB hT => crossed_no (four_of h1 h2) h3 B w hB hT)
      obtain ⟨n, hn⟩ : ∃ n, n = strB (Lib.itoa (valQ s.data.toList).num) := ⟨_, rfl⟩
      obtain ⟨d, hd⟩ : ∃ d, d = strB (Lib.itoa ((valQ s.data.toList).den : Int)) := ⟨_, rfl⟩
      obtain ⟨m, hm⟩ : ∃ n, n = strB (Lib.itoa (valQ t.data.toList).num) := ⟨_, rfl⟩
      obtain ⟨c, hc⟩ : ∃ d, d = strB (Lib.itoa ((valQ t.data.toList).den : Int)) := ⟨_, rfl⟩
      rw [← hn, ← hd] at HR1 HC
      rw [← hm, ← hc] at HR2 HC
      clear h1 h2 h3 e1 e2 hq hT hn hd hm hc
      rcases hway with ⟨n1, n2⟩ | n1
      · rw [HY1.out n1] at HN1
        rw [HNN2.out n2] at HN2
        clear n1 n2
        obtain ⟨x, hx⟩ : ∃ x, x = (valQ s.data.toList).num := ⟨_, rfl⟩
        obtain ⟨p, hp⟩ : ∃ y, y = ((valQ s.data.toList).den : Int) := ⟨_, rfl⟩
        rw [← hx, ← hp] at HN1
        clear hx hp
        go_enter Tryz.func77, Tryz.ntmps77
        go_wp2_with fail
        refine HN1.out.mono ?_
        rintro e w1 ⟨rfl, hb1⟩
        have HB1 := hide (hb1.trans ((heap1 w1 (natO x p)).2.2.mono hb1.size))
        clear hb1
        go_wp2_with fail
        refine (HN2.out _).mono ?_
        rintro e w2 ⟨rfl, hb2⟩
        have HB2 := hide (HB1.out.trans (hb2.mono HB1.out.size))
        have HB2b := hide (HB2.out.trans ((heap1 w2 (natO 0 0)).2.2.mono HB2.out.size))
        clear hb2
        go_wp2_with fail
        refine (HR1.out _ (Nat.le_trans hB HB2b.out.size) (HT.out.on HB2b.out hB)).mono ?_
        rintro e w3 ⟨rfl, hb3⟩
        have HB3 := hide (HB2b.out.trans (hb3.mono HB2b.out.size))
        have X3 := hide (heap1 w3 (partsO n d))
        have HB3b := hide (HB3.out.trans (X3.out.2.2.mono HB3.out.size))
        clear hb3
        go_wp2_with fail
        refine (HR2.out _ (Nat.le_trans hB HB3b.out.size) (HT.out.on HB3b.out hB)).mono ?_
        rintro e w4 ⟨rfl, hb4⟩
        have G4 := hide (below_blk hb4 X3.out.1 (lt_blk X3.out.1))
        have HB4 := hide (HB3b.out.trans (hb4.mono HB3b.out.size))
        clear hb4
        have X4 := hide (heap1 w4 (partsO m c))
        have HB4b := hide (HB4.out.trans (X4.out.2.2.mono HB4.out.size))
        have c0 := cell_blk G4.out 0
        have c1 := cell_blk G4.out 1
        have hl := lt_blk G4.out
        go_wp2_with fail
        refine (HC.out _ (Nat.le_trans hB HB4b.out.size) (HT.out.p10.on HB4b.out hB)).mono ?_
        rintro e w5 ⟨u, v, rfl, hb5⟩
        have HB5 := hide (HB4b.out.trans (hb5.mono HB4b.out.size))
        clear hb5
        go_wp2_with fail
        refine bodyPost_ret (results_tmp2 rfl _ _ _) rfl ?_
        exact ⟨rfl, HB5.out⟩
      · rw [HNN1.out n1] at HN1
        clear n1
        go_enter Tryz.func77, Tryz.ntmps77
        go_wp2_with fail
        refine HN1.out.mono ?_
        rintro e w1 ⟨rfl, hb1⟩
        have HB2b := hide (hb1.trans ((heap1 w1 (natO 0 0)).2.2.mono hb1.size))
        clear hb1
        go_wp2_with fail
        refine (HR1.out _ (Nat.le_trans hB HB2b.out.size) (HT.out.on HB2b.out hB)).mono ?_
        rintro e w3 ⟨rfl, hb3⟩
        have HB3 := hide (HB2b.out.trans (hb3.mono HB2b.out.size))
        have X3 := hide (heap1 w3 (partsO n d))
        have HB3b := hide (HB3.out.trans (X3.out.2.2.mono HB3.out.size))
        clear hb3
        go_wp2_with fail
        refine (HR2.out _ (Nat.le_trans hB HB3b.out.size) (HT.out.on HB3b.out hB)).mono ?_
        rintro e w4 ⟨rfl, hb4⟩
        have G4 := hide (below_blk hb4 X3.out.1 (lt_blk X3.out.1))
        have HB4 := hide (HB3b.out.trans (hb4.mono HB3b.out.size))
        clear hb4
        have X4 := hide (heap1 w4 (partsO m c))
        have HB4b := hide (HB4.out.trans (X4.out.2.2.mono HB4.out.size))
        have c0 := cell_blk G4.out 0
        have c1 := cell_blk G4.out 1
        have hl := lt_blk G4.out
        go_wp2_with fail
        refine (HC.out _ (Nat.le_trans hB HB4b.out.size) (HT.out.p10.on HB4b.out hB)).mono ?_
        rintro e w5 ⟨u, v, rfl, hb5⟩
        have HB5 := hide (HB4b.out.trans (hb5.mono HB4b.out.size))
        clear hb5
        go_wp2_with fail
        refine bodyPost_ret (results_tmp2 rfl _ _ _) rfl ?_
        exact ⟨rfl, HB5.out⟩
    · rw [e1, e2]
      rw [readV_good h1] at HR1
      rw [readV_good h2] at HR2
      have HC := hide (fun w hB hT => crossed_yes (four_of h1 h2) h3.1 h3.2 B w hB hT)
      unfold cmpI
      have HI := hide (fun w => Compare_good (s := strB (Lib.itoa ((valQ s.data.toList).num * ((valQ t.data.toList).den : Int)))) (t := strB (Lib.itoa ((valQ t.data.toList).num * ((valQ s.data.toList).den : Int)))) (strB_list _) (strB_list _) h3.1 h3.2 w)
      obtain ⟨n, hn⟩ : ∃ n, n = strB (Lib.itoa (valQ s.data.toList).num) := ⟨_, rfl⟩
      obtain ⟨d, hd⟩ : ∃ d, d = strB (Lib.itoa ((valQ s.data.toList).den : Int)) := ⟨_, rfl⟩
      obtain ⟨m, hm⟩ : ∃ n, n = strB (Lib.itoa (valQ t.data.toList).num) := ⟨_, rfl⟩
      obtain ⟨c, hc⟩ : ∃ d, d = strB (Lib.itoa ((valQ t.data.toList).den : Int)) := ⟨_, rfl⟩
      rw [← hn, ← hd] at HR1 HC
      rw [← hm, ← hc] at HR2 HC
      obtain ⟨U, hU⟩ : ∃ n, n = strB (Lib.itoa ((valQ s.data.toList).num * ((valQ t.data.toList).den : Int))) := ⟨_, rfl⟩
      obtain ⟨V, hV⟩ : ∃ n, n = strB (Lib.itoa ((valQ t.data.toList).num * ((valQ s.data.toList).den : Int))) := ⟨_, rfl⟩
      rw [← hU, ← hV] at HC HI
      obtain ⟨K, hK⟩ : ∃ K, K = Lib.compareInt ((valQ s.data.toList).num * ((valQ t.data.toList).den : Int)) ((valQ t.data.toList).num * ((valQ s.data.toList).den : Int)) := ⟨_, rfl⟩
      rw [← hK] at HI ⊢
      clear h1 h2 h3 e1 e2 hq hT hn hd hm hc hU hV hK
      rcases hway with ⟨n1, n2⟩ | n1
      · rw [HY1.out n1] at HN1
        rw [HNN2.out n2] at HN2
        clear n1 n2
        obtain ⟨x, hx⟩ : ∃ x, x = (valQ s.data.toList).num := ⟨_, rfl⟩
        obtain ⟨p, hp⟩ : ∃ y, y = ((valQ s.data.toList).den : Int) := ⟨_, rfl⟩
        rw [← hx, ← hp] at HN1
        clear hx hp
        go_enter Tryz.func77, Tryz.ntmps77
        go_wp2_with fail
        refine HN1.out.mono ?_
        rintro e w1 ⟨rfl, hb1⟩
        have HB1 := hide (hb1.trans ((heap1 w1 (natO x p)).2.2.mono hb1.size))
        clear hb1
        go_wp2_with fail
        refine (HN2.out _).mono ?_
        rintro e w2 ⟨rfl, hb2⟩
        have HB2 := hide (HB1.out.trans (hb2.mono HB1.out.size))
        have HB2b := hide (HB2.out.trans ((heap1 w2 (natO 0 0)).2.2.mono HB2.out.size))
        clear hb2
        go_wp2_with fail
        refine (HR1.out _ (Nat.le_trans hB HB2b.out.size) (HT.out.on HB2b.out hB)).mono ?_
        rintro e w3 ⟨rfl, hb3⟩
        have HB3 := hide (HB2b.out.trans (hb3.mono HB2b.out.size))
        have X3 := hide (heap1 w3 (partsO n d))
        have HB3b := hide (HB3.out.trans (X3.out.2.2.mono HB3.out.size))
        clear hb3
        go_wp2_with fail
        refine (HR2.out _ (Nat.le_trans hB HB3b.out.size) (HT.out.on HB3b.out hB)).mono ?_
        rintro e w4 ⟨rfl, hb4⟩
        have G4 := hide (below_blk hb4 X3.out.1 (lt_blk X3.out.1))
        have HB4 := hide (HB3b.out.trans (hb4.mono HB3b.out.size))
        clear hb4
        have X4 := hide (heap1 w4 (partsO m c))
        have HB4b := hide (HB4.out.trans (X4.out.2.2.mono HB4.out.size))
        have c0 := cell_blk G4.out 0
        have c1 := cell_blk G4.out 1
        have hl := lt_blk G4.out
        go_wp2_with fail
        refine (HC.out _ (Nat.le_trans hB HB4b.out.size) (HT.out.p10.on HB4b.out hB)).mono ?_
        rintro e w5 ⟨rfl, hb5⟩
        have HB5 := hide (HB4b.out.trans (hb5.mono HB4b.out.size))
        clear hb5
        go_wp2_with fail
        refine (HI.out _).mono ?_
        rintro e w6 ⟨rfl, hb6⟩
        have HB6 := hide (HB5.out.trans (hb6.mono HB5.out.size))
        clear hb6
        go_wp2_with fail
        refine bodyPost_ret (results_tmp2 rfl _ _ _) rfl ?_
        exact ⟨rfl, HB6.out⟩
      · rw [HNN1.out n1] at HN1
        clear n1
        go_enter Tryz.func77, Tryz.ntmps77
        go_wp2_with fail
        refine HN1.out.mono ?_
        rintro e w1 ⟨rfl, hb1⟩
        have HB2b := hide (hb1.trans ((heap1 w1 (natO 0 0)).2.2.mono hb1.size))
        clear hb1
        go_wp2_with fail
        refine (HR1.out _ (Nat.le_trans hB HB2b.out.size) (HT.out.on HB2b.out hB)).mono ?_
        rintro e w3 ⟨rfl, hb3⟩
        have HB3 := hide (HB2b.out.trans (hb3.mono HB2b.out.size))
        have X3 := hide (heap1 w3 (partsO n d))
        have HB3b := hide (HB3.out.trans (X3.out.2.2.mono HB3.out.size))
        clear hb3
        go_wp2_with fail
        refine (HR2.out _ (Nat.le_trans hB HB3b.out.size) (HT.out.on HB3b.out hB)).mono ?_
        rintro e w4 ⟨rfl, hb4⟩
        have G4 := hide (below_blk hb4 X3.out.1 (lt_blk X3.out.1))
        have HB4 := hide (HB3b.out.trans (hb4.mono HB3b.out.size))
        clear hb4
        have X4 := hide (heap1 w4 (partsO m c))
        have HB4b := hide (HB4.out.trans (X4.out.2.2.mono HB4.out.size))
        have c0 := cell_blk G4.out 0
        have c1 := cell_blk G4.out 1
        have hl := lt_blk G4.out
        go_wp2_with fail
        refine (HC.out _ (Nat.le_trans hB HB4b.out.size) (HT.out.p10.on HB4b.out hB)).mono ?_
        rintro e w5 ⟨rfl, hb5⟩
        have HB5 := hide (HB4b.out.trans (hb5.mono HB4b.out.size))
        clear hb5
        go_wp2_with fail
        refine (HI.out _).mono ?_
        rintro e w6 ⟨rfl, hb6⟩
        have HB6 := hide (HB5.out.trans (hb6.mono HB5.out.size))
        clear hb6
        go_wp2_with fail
        refine bodyPost_ret (results_tmp2 rfl _ _ _) rfl ?_
        exact ⟨rfl, HB6.out⟩
open Go.RowKit Go.KP Go.KI Go.Shelf

theorem ratS_len {x : Rat} (h : fitsQ x) : (ratS x).length ≤ 1000 := by
  have h1 := itoa_len x.num
  have h2 := fits_len.1 h.1
  have h3 := fits_nat.1 h.2
  unfold ratS
  split
  · omega
  · rw [List.length_append, List.length_cons]
    omega
theorem good_len {s : ByteArray} {x : Rat} (h : s.data.toList = ratS x) (f : fitsQ x) : s.size ≤ 1000000 := by
  have := ratS_len f
  rw [← bytes_len, h]
  omega
theorem good_val {s : ByteArray} {x : Rat} (h : s.data.toList = ratS x) (f : fitsQ x) : chkQ s.data.toList = 0 ∧ valQ s.data.toList = x := by
  rw [h, ratS_num]
  exact ⟨chkQ_fits f, rfl⟩
theorem qcmp_to {s t : ByteArray} {x y : Rat} (h1 : s.data.toList = ratS x) (h2 : t.data.toList = ratS y) (f1 : fitsQ x) (f2 : fitsQ y) (hc : cmpC x y) (B : Nat) (w : World) (hB : B ≤ w.heap.size) (hT : PQ B w) :
    Calls Tryz.prog 77 #[.string s, .string t] w (Ret w (.tuple #[.int .i64 (if x < y then -1 else if y < x then 1 else 0), .int .i64 0])) := by
  obtain ⟨a1, a2⟩ := good_val h1 f1
  obtain ⟨b1, b2⟩ := good_val h2 f2
  have h := qCompare_any s t (good_len h1 f1) (good_len h2 f2) B w hB hT
  unfold cmpN cmpE cmpI at h
  rw [if_pos (zero_bothQ a1 b1), if_pos (zero_bothQ a1 b1), a2, b2, if_pos hc, if_pos hc, cmpQ] at h
  exact h
end Go.Proofs.YtklgpilgalfckaaGreatDoor
namespace Go.KI
open Go

structure V3 where
  x : Rat
  y : Rat
  z : Rat
theorem V3.ext {a b : V3} (h1 : a.x = b.x) (h2 : a.y = b.y) (h3 : a.z = b.z) : a = b := by
  cases a
  cases b
  cases h1
  cases h2
  cases h3
  rfl
theorem V3.eq_iff {a b : V3} : a = b ↔ (a.x = b.x ∧ a.y = b.y ∧ a.z = b.z) := ⟨fun h => by rw [h]; exact ⟨rfl, rfl, rfl⟩, fun h => V3.ext h.1 h.2.1 h.2.2⟩
instance : DecidableEq V3 := fun _ _ => decidable_of_iff _ V3.eq_iff.symm
def vsub (a b : V3) : V3 := ⟨a.x - b.x, a.y - b.y, a.z - b.z⟩
def vcross (a b : V3) : V3 := ⟨a.y * b.z - a.z * b.y, a.z * b.x - a.x * b.z, a.x * b.y - a.y * b.x⟩
def szV (p : Nat) (a : V3) : Prop := sz p a.x ∧ sz p a.y ∧ sz p a.z
def fitsV (a : V3) : Prop := fitsQ a.x ∧ fitsQ a.y ∧ fitsQ a.z
theorem szV_mono {p q : Nat} {a : V3} (h : szV p a) (hp : p ≤ q) : szV q a := ⟨sz_mono h.1 hp, sz_mono h.2.1 hp, sz_mono h.2.2 hp⟩
theorem szV_fits {p : Nat} {a : V3} (h : szV p a) (hp : p ≤ most) : fitsV a := ⟨sz_fits h.1 hp, sz_fits h.2.1 hp, sz_fits h.2.2 hp⟩
theorem szV_sub {p q : Nat} {a b : V3} (ha : szV p a) (hb : szV q b) : szV (p + q + 1) (vsub a b) := ⟨sz_sub ha.1 hb.1, sz_sub ha.2.1 hb.2.1, sz_sub ha.2.2 hb.2.2⟩
def subO (x y : Rat) : Option Rat := if subC x y then some (x - y) else none
def mulO (x y : Rat) : Option Rat := if mulC x y then some (x * y) else none
theorem divInt_fits {n d : Int} (hd : 0 < d) (fn : fits n) (fd : fits d) : fitsQ (Rat.divInt n d) := by
  obtain ⟨h1, h2⟩ := divInt_parts n hd
  refine ⟨?_, ?_⟩
  · rw [h1]
    exact fits_of_le fn (Int.natAbs_ediv_le_natAbs _ _)
  · rw [h2]
    exact fits_of_le fd (Int.natAbs_ediv_le_natAbs _ _)
theorem mulC_fits {x y : Rat} (h : mulC x y) : fitsQ (x * y) := by
  rw [← divInt_mul]
  exact divInt_fits (dens_pos x y) h.1 h.2
theorem mulO_some {x y z : Rat} (h : mulO x y = some z) : z = x * y ∧ fitsQ z := by
  unfold mulO at h
  split at h
  · next c => cases h; exact ⟨rfl, mulC_fits c⟩
  · cases h
def all3 : Option Rat → Option Rat → Option Rat → Option V3
  | some x, some y, some z => some ⟨x, y, z⟩
  | _, _, _ => none
def vec2O (f : Rat → Rat → Option Rat) (a b : V3) : Option V3 := all3 (f a.x b.x) (f a.y b.y) (f a.z b.z)
def minorO (a b c d : Rat) : Option Rat := (mulO a d).bind fun p => (mulO b c).bind fun q => subO p q
def crossO (a b : V3) : Option V3 := all3 (minorO a.y a.z b.y b.z) (minorO a.z a.x b.z b.x) (minorO a.x a.y b.x b.y)
theorem subO_sz {p q : Nat} {x y : Rat} (hx : sz p x) (hy : sz q y) (h : p + q + 1 ≤ most) : subO x y = some (x - y) := if_pos (subC_of hx hy h)
theorem mulO_sz {p q : Nat} {x y : Rat} (hx : sz p x) (hy : sz q y) (h : p + q ≤ most) : mulO x y = some (x * y) := if_pos (mulC_of hx hy h)
theorem sub2_sz {p q : Nat} {a b : V3} (ha : szV p a) (hb : szV q b) (h : p + q + 1 ≤ most) : vec2O subO a b = some (vsub a b) := by
  unfold vec2O
  rw [subO_sz ha.1 hb.1 h, subO_sz ha.2.1 hb.2.1 h, subO_sz ha.2.2 hb.2.2 h]
  rfl
theorem minor_sz {p q : Nat} {a b c d : Rat} (ha : sz p a) (hb : sz p b) (hc : sz q c) (hd : sz q d) (h : p + q + (p + q) + 1 ≤ most) : minorO a b c d = some (a * d - b * c) ∧ sz (p + q + (p + q) + 1) (a * d - b * c) := by
  unfold minorO
  rw [mulO_sz ha hd (by omega)]
  show (Option.bind (mulO b c) fun q => subO (a * d) q) = _ ∧ _
  rw [mulO_sz hb hc (by omega)]
  show subO _ _ = _ ∧ _
  rw [subO_sz (sz_mul ha hd) (sz_mul hb hc) h]
  exact ⟨rfl, sz_sub (sz_mul ha hd) (sz_mul hb hc)⟩
theorem cross_sz {p q : Nat} {a b : V3} (ha : szV p a) (hb : szV q b) (h : p + q + (p + q) + 1 ≤ most) : crossO a b = some (vcross a b) ∧ szV (p + q + (p + q) + 1) (vcross a b) := by
  obtain ⟨e1, s1⟩ := minor_sz ha.2.1 ha.2.2 hb.2.1 hb.2.2 h
  obtain ⟨e2, s2⟩ := minor_sz ha.2.2 ha.1 hb.2.2 hb.1 h
  obtain ⟨e3, s3⟩ := minor_sz ha.1 ha.2.1 hb.1 hb.2.1 h
  unfold crossO
  rw [e1, e2, e3]
  exact ⟨rfl, s1, s2, s3⟩
def cmpR (x y : Rat) : Int := if x < y then -1 else if y < x then 1 else 0
def vcmp (a b : V3) : Int := if cmpR a.x b.x ≠ 0 then cmpR a.x b.x else if cmpR a.y b.y ≠ 0 then cmpR a.y b.y else cmpR a.z b.z
open Go

def vzero : V3 := ⟨0, 0, 0⟩
end Go.KI
namespace Go.Proofs.YtklgpilgalfckaaGreatDoor
open Go.RowKit Go.KP Go.KI Go.Shelf
attribute [local go_sem] Oper.semAt_some

def T (q : Rat) : ByteArray := strB (ratS q)
theorem T_list (q : Rat) : (T q).data.toList = ratS q := strB_list _
theorem T_of {s : ByteArray} {q : Rat} (h : s.data.toList = ratS q) : s = T q := bytes_eq (by rw [h, T_list])
theorem T_inj {p q : Rat} (h : T p = T q) : p = q := ratS_inj (by rw [← T_list, h, T_list])
theorem T_beq (p q : Rat) : ((T p).toList == (T q).toList) = decide (p = q) := by
  rw [ByteArray.toList_eq, ByteArray.toList_eq, T_list, T_list]
  by_cases h : p = q
  · rw [h]
    simp
  · rw [decide_eq_false h]
    exact beq_false_of_ne fun e => h (ratS_inj e)
theorem T_size {q : Rat} (h : fitsQ q) : (T q).size ≤ 1000 := by
  rw [← bytes_len, T_list]
  exact ratS_len h
theorem T0 : T 0 = ⟨#[48]⟩ := by
  apply bytes_eq
  rw [T_list, show (0 : Rat) = ((0 : Int) : Rat) from rfl, ratS_int]
  show Lib.itoa ((0 : Nat) : Int) = _
  rw [Lib.itoa_nonneg, dec_zero]
def ResO (w : World) (o : Option Rat) (e : Ending) (w' : World) : Prop := (∃ v, o = some v ∧ Ret w (.tuple #[.string (T v), .int .i64 0]) e w') ∨ (o = none ∧ Ret w (.tuple #[.string ⟨#[]⟩, .int .i64 4]) e w')
theorem ResO.of {w : World} {o : Option Rat} {x : Rat} (h : o = some x) {e : Ending} {w' : World} (hr : ResO w o e w') : Ret w (.tuple #[.string (T x), .int .i64 0]) e w' := by
  rcases hr with ⟨v, h1, h2⟩ | ⟨h1, _⟩
  · rw [h] at h1
    cases h1
    exact h2
  · rw [h] at h1
    cases h1
structure BinFn (g : Nat) (F : Rat → Rat → Option Rat) : Prop where
  enters : ∀ args w, (callFunc g args).run Tryz.prog w = .ok (.enter g args) w
  calls : ∀ (x y : Rat) (B : Nat) (w : World), fitsQ x → fitsQ y → B ≤ w.heap.size → PQ B w → Calls Tryz.prog g #[.string (T x), .string (T y)] w (ResO w (F x y))
theorem T_good {x : Rat} (f : fitsQ x) : (T x).size ≤ 1000000 ∧ chkQ (T x).data.toList = 0 ∧ valQ (T x).data.toList = x := by
  have := T_size f
  rw [T_list, ratS_num]
  exact ⟨by omega, chkQ_fits f, rfl⟩
theorem resO_of (C : Rat → Rat → Prop) [∀ x y, Decidable (C x y)] (f : Rat → Rat → Rat) (F : Rat → Rat → Option Rat) (hF : ∀ x y, F x y = if C x y then some (f x y) else none) {x y : Rat} (hx : fitsQ x) (hy : fitsQ y) {w w' : World} {e : Ending}
    (h : Ret w (pairV (qopS C f (T x).data.toList (T y).data.toList) (qopE C (T x).data.toList (T y).data.toList)) e w') : ResO w (F x y) e w' := by
  obtain ⟨_, a1, a2⟩ := T_good hx
  obtain ⟨_, b1, b2⟩ := T_good hy
  unfold qopS qopE at h
  rw [if_pos (zero_bothQ a1 b1), if_pos (zero_bothQ a1 b1), a2, b2] at h
  rw [hF]
  by_cases hc : C x y
  · rw [if_pos hc, if_pos hc] at h
    rw [if_pos hc]
    exact .inl ⟨_, rfl, h⟩
  · rw [if_neg hc, if_neg hc] at h
    rw [if_neg hc]
    exact .inr ⟨rfl, h⟩
theorem qsub_O {x y : Rat} (hx : fitsQ x) (hy : fitsQ y) (B : Nat) (w : World) (hB : B ≤ w.heap.size) (hT : PQ B w) :
    Calls Tryz.prog 62 #[.string (T x), .string (T y)] w (ResO w (subO x y)) :=
  (qSub_any _ _ (T_good hx).1 (T_good hy).1 B w hB hT).mono fun _ _ h => resO_of subC (· - ·) subO (fun _ _ => rfl) hx hy h
theorem qmul_O {x y : Rat} (hx : fitsQ x) (hy : fitsQ y) (B : Nat) (w : World) (hB : B ≤ w.heap.size) (hT : PQ B w) :
    Calls Tryz.prog 79 #[.string (T x), .string (T y)] w (ResO w (mulO x y)) :=
  (qMul_any _ _ (T_good hx).1 (T_good hy).1 B w hB hT).mono fun _ _ h => resO_of mulC (· * ·) mulO (fun _ _ => rfl) hx hy h
theorem subB : BinFn 62 subO := ⟨enters_of Tryz.func62 (by kernel_rfl) rfl, fun _ _ B w hx hy hB hT => qsub_O hx hy B w hB hT⟩
theorem qcmp_T {x y : Rat} (hx : fitsQ x) (hy : fitsQ y) (hc : cmpC x y) (B : Nat) (w : World) (hB : B ≤ w.heap.size) (hT : PQ B w) :
    Calls Tryz.prog 77 #[.string (T x), .string (T y)] w (Ret w (.tuple #[.int .i64 (cmpR x y), .int .i64 0])) :=
  qcmp_to (T_list x) (T_list y) hx hy hc B w hB hT
open Go.RowKit Go.KP Go.KI Go.Shelf
attribute [local go_sem] Oper.semAt_some

abbrev vecV (a : V3) : Value := .agg #[.string (T a.x), .string (T a.y), .string (T a.z)]
abbrev noV : Value := .agg #[.string ⟨#[]⟩, .string ⟨#[]⟩, .string ⟨#[]⟩]
abbrev vecO (a : V3) : Obj := .cells #[.string (T a.x), .string (T a.y), .string (T a.z)] 28
def ResV (w : World) (o : Option V3) (e : Ending) (w' : World) : Prop := (∃ v, o = some v ∧ Ret w (.tuple #[vecV v, .int .i64 0]) e w') ∨ (o = none ∧ Ret w (.tuple #[noV, .int .i64 4]) e w')
theorem ResV.of {w : World} {o : Option V3} {x : V3} (h : o = some x) {e : Ending} {w' : World} (hr : ResV w o e w') : Ret w (.tuple #[vecV x, .int .i64 0]) e w' := by
  rcases hr with ⟨v, h1, h2⟩ | ⟨h1, _⟩
  · rw [h] at h1
    cases h1
    exact h2
  · rw [h] at h1
    cases h1
theorem eqSpot (a b c d e f : ByteArray) (w : World) : (Op.equalIn 10000 28 (.agg #[.string a, .string b, .string c]) (.agg #[.string d, .string e, .string f])).run Tryz.prog w = .ok (a.toList == d.toList && b.toList == e.toList && c.toList == f.toList) w := by
  have hS : Tryz.prog.underlying 28 = some (.struct (Tryz.prog.fieldsOf 28)) := by kernel_rfl
  have hp : Tryz.prog.stoodInHeld 28 = false := by kernel_rfl
  rw [show (10000 : Nat) = 9999 + 1 from rfl, run_equalIn_agg w 9999 28 _ _ hS hp]
  simp only [Program.fieldsOf, Tryz.underlying28]
  go_simp
  by_cases h1 : a.toList = d.toList <;> by_cases h2 : b.toList = e.toList <;> by_cases h3 : c.toList = f.toList <;> simp [*]
theorem eqSpot_T (a b : V3) (w : World) : (Op.equalIn 10000 28 (vecV a) (vecV b)).run Tryz.prog w = .ok (decide (a = b)) w := by
  rw [eqSpot, T_beq, T_beq, T_beq]
  congr 1
  by_cases h : a = b
  · subst h
    simp
  · rw [decide_eq_false h]
    rw [V3.eq_iff] at h
    by_cases h1 : a.x = b.x
    · by_cases h2 : a.y = b.y
      · by_cases h3 : a.z = b.z
        · exact absurd ⟨h1, h2, h3⟩ h
        · simp [h3]
      · simp [h2]
    · simp [h1]
open Go.RowKit Go.KP Go.KI Go.Shelf
attribute [local go_sem] Oper.semAt_some

theorem exit_arr {f : Func} {R : Ending → World → Prop} {a : Act} {W : World} {b : Nat} {t : Tmp} {x y z : ByteArray} (hf : f.results = #[.cell t 121]) (hb : W.heap[b]? = some (.cells #[.string x, .string y, .string z] 121 (0, 0))) (h2 : a.tmps[t]? = some (.pointer (some ⟨b, 0, none⟩))) (hd : a.defers = []) (hR : R (.returned (.agg #[.string x, .string y, .string z])) W) :
    bodyPost Tryz.prog f R .ret a W := by
  have hcell := fun o => cell_blk hb o
  refine bodyPost_ret ?_ hd hR
  simp [results, hf, go_sem, hcell, h2]
theorem exit_spot {f : Func} {R : Ending → World → Prop} {a : Act} {W : World} {b : Nat} {t : Tmp} {x y z : ByteArray} (hf : f.results = #[.cell t 28]) (hb : W.heap[b]? = some (.cells #[.string x, .string y, .string z] 28 (0, 0))) (h2 : a.tmps[t]? = some (.pointer (some ⟨b, 0, none⟩))) (hd : a.defers = []) (hR : R (.returned (.agg #[.string x, .string y, .string z])) W) :
    bodyPost Tryz.prog f R .ret a W := by
  have hcell := fun o => cell_blk hb o
  refine bodyPost_ret ?_ hd hR
  simp [results, hf, go_sem, hcell, h2]
theorem exit_spotE {f : Func} {R : Ending → World → Prop} {a : Act} {W : World} {b : Nat} {t u : Tmp} {x y z : ByteArray} {v : Value} (hf : f.results = #[.cell t 28, .tmp u]) (hb : W.heap[b]? = some (.cells #[.string x, .string y, .string z] 28 (0, 0))) (h2 : a.tmps[t]? = some (.pointer (some ⟨b, 0, none⟩))) (h3 : a.tmps[u]? = some v) (hd : a.defers = []) (hR : R (.returned (.tuple #[.agg #[.string x, .string y, .string z], v])) W) :
    bodyPost Tryz.prog f R .ret a W := by
  have hcell := fun o => cell_blk hb o
  refine bodyPost_ret ?_ hd hR
  simp [results, hf, go_sem, hcell, h2, h3]
abbrev spotV (a b c : ByteArray) : Value := .agg #[.string a, .string b, .string c]
abbrev spotO (a b c : ByteArray) : Obj := .cells #[.string a, .string b, .string c] 28
abbrev sptO (a b c : ByteArray) : Obj := .cells #[.string a, .string b, .string c] 98
abbrev arrO (a b c : ByteArray) : Obj := .cells #[.string a, .string b, .string c] 121
theorem vlist_at (a b c : ByteArray) (w : World) :
    Calls Tryz.prog 76 #[spotV a b c] w (fun e w' => e = .returned (spotV a b c) ∧ w' = (w.alloc (sptO a b c)).alloc (arrO a b c)) := by
  go_enter Tryz.func76, Tryz.ntmps76
  go_wp2_with fail
  obtain ⟨_, h2, _, h4⟩ := heap2 w (sptO a b c) (arrO a b c)
  exact exit_arr rfl h2 rfl rfl ⟨rfl, rfl⟩
theorem vof_any (a b c : ByteArray) (w : World) :
    Calls Tryz.prog 87 #[spotV a b c] w (fun e w' => e = .returned (spotV a b c) ∧ w' = (w.alloc (arrO a b c)).alloc (spotO a b c)) := by
  go_enter Tryz.func87, Tryz.ntmps87
  go_wp2_with fail
  obtain ⟨_, h2, _, h4⟩ := heap2 w (arrO a b c) (spotO a b c)
  exact exit_spot rfl h2 rfl rfl ⟨rfl, rfl⟩
theorem vidx0 (a b c : ByteArray) (w : World) : (Instr.index 121 (spotV a b c) (.int .i64 0)).run Tryz.prog w = .ok (.string a) w := by kernel_rfl
theorem vidx1 (a b c : ByteArray) (w : World) : (Instr.index 121 (spotV a b c) (.int .i64 1)).run Tryz.prog w = .ok (.string b) w := by kernel_rfl
theorem vidx2 (a b c : ByteArray) (w : World) : (Instr.index 121 (spotV a b c) (.int .i64 2)).run Tryz.prog w = .ok (.string c) w := by kernel_rfl
attribute [local go_sem] vidx0 vidx1 vidx2
def chk3 (a b c : List UInt8) : Int := if chkQ a ≠ 0 then chkQ a else if chkQ b ≠ 0 then chkQ b else chkQ c
theorem chk3_zero {a b c : List UInt8} : chk3 a b c = 0 ↔ (chkQ a = 0 ∧ chkQ b = 0 ∧ chkQ c = 0) := by
  unfold chk3
  split
  · next h => exact ⟨fun e => absurd e h, fun e => absurd e.1 h⟩
  · next h =>
    have h1 := Decidable.not_not.1 h
    split
    · next h2 => exact ⟨fun e => absurd e h2, fun e => absurd e.2.1 h2⟩
    · next h2 => exact ⟨fun e => ⟨h1, Decidable.not_not.1 h2, e⟩, fun e => e.2.2⟩
theorem vCheck_any (a b c : ByteArray) (ha : a.size ≤ 1000000) (hb : b.size ≤ 1000000) (hc : c.size ≤ 1000000) (B : Nat) (w : World) (hB : B ≤ w.heap.size) (hT : PQ B w) :
    Calls Tryz.prog 54 #[spotV a b c] w (Ret w (.int .i64 (chk3 a.data.toList b.data.toList c.data.toList))) := by
  have HT := hide hT
  have H1 := hide (fun w hB hT => qCheck_any a ha B w hB hT)
  have H2 := hide (fun w hB hT => qCheck_any b hb B w hB hT)
  have H3 := hide (fun w hB hT => qCheck_any c hc B w hB hT)
  have HL := hide (fun w => vlist_at a b c w)
  obtain ⟨V, hV⟩ : ∃ V, V = chk3 a.data.toList b.data.toList c.data.toList := ⟨_, rfl⟩
  rw [← hV]
  unfold chk3 at hV
  obtain ⟨x, hx⟩ : ∃ x, x = chkQ a.data.toList := ⟨_, rfl⟩
  obtain ⟨y, hy⟩ : ∃ x, x = chkQ b.data.toList := ⟨_, rfl⟩
  obtain ⟨z, hz⟩ : ∃ x, x = chkQ c.data.toList := ⟨_, rfl⟩
  rw [← hx] at H1 hV
  rw [← hy] at H2 hV
  rw [← hz] at H3 hV
  clear hx hy hz ha hb hc hT
  have X0 := hide (((heap3 w (spotO a b c) (sptO a b c) (arrO a b c))).2.2.2.2)
  by_cases hx : x = 0
  rotate_left
  · rw [if_pos hx] at hV
    have hx2 : (x != 0) = true := by simpa using hx
    clear hx
    subst hV
    go_enter Tryz.func54, Tryz.ntmps54
    go_wp2_with fail
    refine (HL.out _).mono ?_
    rintro e w0 ⟨rfl, rfl⟩
    go_wp2_with fail
    refine wp_loop_rounds 1 ?_
    rw [rounds_succ]
    go_wp2_with fail
    refine (H1.out _ (Nat.le_trans hB X0.out.size) (HT.out.on X0.out hB)).mono ?_
    rintro e w1 ⟨rfl, hb1⟩
    have HB1 := hide (X0.out.trans (hb1.mono X0.out.size))
    clear hb1
    go_wp2_with fail
    go_ret
    exact ⟨rfl, HB1.out⟩
  subst hx
  rw [if_neg (by simp)] at hV
  by_cases hy : y = 0
  rotate_left
  · rw [if_pos hy] at hV
    have hy2 : (y != 0) = true := by simpa using hy
    clear hy
    subst hV
    go_enter Tryz.func54, Tryz.ntmps54
    go_wp2_with fail
    refine (HL.out _).mono ?_
    rintro e w0 ⟨rfl, rfl⟩
    go_wp2_with fail
    refine wp_loop_rounds 2 ?_
    rw [rounds_succ]
    go_wp2_with fail
    refine (H1.out _ (Nat.le_trans hB X0.out.size) (HT.out.on X0.out hB)).mono ?_
    rintro e w1 ⟨rfl, hb1⟩
    have HB1 := hide (X0.out.trans (hb1.mono X0.out.size))
    clear hb1
    go_wp2_with fail
    rw [rounds_succ]
    go_wp2_with fail
    refine (H2.out _ (Nat.le_trans hB HB1.out.size) (HT.out.on HB1.out hB)).mono ?_
    rintro e w2 ⟨rfl, hb2⟩
    have HB2 := hide (HB1.out.trans (hb2.mono HB1.out.size))
    clear hb2
    go_wp2_with fail
    go_ret
    exact ⟨rfl, HB2.out⟩
  subst hy
  rw [if_neg (by simp)] at hV
  subst hV
  have hz : V = 0 ∨ (V != 0) = true := by
    by_cases h : V = 0
    · exact .inl h
    · exact .inr (by simpa using h)
  rcases hz with rfl | hz
  all_goals
    go_enter Tryz.func54, Tryz.ntmps54
    go_wp2_with fail
    refine (HL.out _).mono ?_
    rintro e w0 ⟨rfl, rfl⟩
    go_wp2_with fail
    refine wp_loop_rounds 4 ?_
    rw [rounds_succ]
    go_wp2_with fail
    refine (H1.out _ (Nat.le_trans hB X0.out.size) (HT.out.on X0.out hB)).mono ?_
    rintro e w1 ⟨rfl, hb1⟩
    have HB1 := hide (X0.out.trans (hb1.mono X0.out.size))
    clear hb1
    go_wp2_with fail
    rw [rounds_succ]
    go_wp2_with fail
    refine (H2.out _ (Nat.le_trans hB HB1.out.size) (HT.out.on HB1.out hB)).mono ?_
    rintro e w2 ⟨rfl, hb2⟩
    have HB2 := hide (HB1.out.trans (hb2.mono HB1.out.size))
    clear hb2
    go_wp2_with fail
    rw [rounds_succ]
    go_wp2_with fail
    refine (H3.out _ (Nat.le_trans hB HB2.out.size) (HT.out.on HB2.out hB)).mono ?_
    rintro e w3 ⟨rfl, hb3⟩
    have HB3 := hide (HB2.out.trans (hb3.mono HB2.out.size))
    clear hb3
    go_wp2_with fail
    first
      | (go_ret; exact ⟨rfl, HB3.out⟩)
      | (rw [rounds_succ]; go_wp2_with fail; go_ret; exact ⟨rfl, HB3.out⟩)
def both3 (p q : Int) : Int := if p ≠ 0 then p else q
theorem vboth_any (a b c a2 b2 c2 : ByteArray) (ha : a.size ≤ 1000000) (hb : b.size ≤ 1000000) (hc : c.size ≤ 1000000) (ha2 : a2.size ≤ 1000000) (hb2 : b2.size ≤ 1000000) (hc2 : c2.size ≤ 1000000) (B : Nat) (w : World) (hB : B ≤ w.heap.size) (hT : PQ B w) :
    Calls Tryz.prog 45 #[spotV a b c, spotV a2 b2 c2] w (Ret w (.int .i64 (both3 (chk3 a.data.toList b.data.toList c.data.toList) (chk3 a2.data.toList b2.data.toList c2.data.toList)))) := by
  have HT := hide hT
  have H1 := hide (fun w hB hT => vCheck_any a b c ha hb hc B w hB hT)
  have H2 := hide (fun w hB hT => vCheck_any a2 b2 c2 ha2 hb2 hc2 B w hB hT)
  obtain ⟨x, hx⟩ : ∃ x, x = chk3 a.data.toList b.data.toList c.data.toList := ⟨_, rfl⟩
  obtain ⟨y, hy⟩ : ∃ x, x = chk3 a2.data.toList b2.data.toList c2.data.toList := ⟨_, rfl⟩
  rw [← hx] at H1 ⊢
  rw [← hy] at H2 ⊢
  clear hx hy ha hb hc ha2 hb2 hc2 hT
  have X0 := hide (heap2 w (spotO a b c) (spotO a2 b2 c2))
  unfold both3
  by_cases h : x = 0
  · subst h
    rw [if_neg (by simp)]
    go_enter Tryz.func45, Tryz.ntmps45
    go_wp2_with fail
    refine (H1.out _ (Nat.le_trans hB X0.out.2.2.2.size) (HT.out.on X0.out.2.2.2 hB)).mono ?_
    rintro e w1 ⟨rfl, hb1⟩
    have G1 := hide (below_blk hb1 X0.out.2.1 (lt_blk X0.out.2.1))
    have HB1 := hide (X0.out.2.2.2.trans (hb1.mono X0.out.2.2.2.size))
    clear hb1
    have c0 := cell_blk G1.out 0
    have c1 := cell_blk G1.out 1
    have c2 := cell_blk G1.out 2
    go_wp2_with fail
    refine (H2.out _ (Nat.le_trans hB HB1.out.size) (HT.out.on HB1.out hB)).mono ?_
    rintro e w2 ⟨rfl, hb2⟩
    have HB2 := hide (HB1.out.trans (hb2.mono HB1.out.size))
    clear hb2
    go_wp2_with fail
    go_ret
    exact ⟨rfl, HB2.out⟩
  · rw [if_pos h]
    have h2 : (x != 0) = true := by simpa using h
    clear h
    go_enter Tryz.func45, Tryz.ntmps45
    go_wp2_with fail
    refine (H1.out _ (Nat.le_trans hB X0.out.2.2.2.size) (HT.out.on X0.out.2.2.2 hB)).mono ?_
    rintro e w1 ⟨rfl, hb1⟩
    have HB1 := hide (X0.out.2.2.2.trans (hb1.mono X0.out.2.2.2.size))
    clear hb1
    go_wp2_with fail
    go_ret
    exact ⟨rfl, HB1.out⟩
open Go.RowKit Go.KP Go.KI Go.Shelf
attribute [local go_sem] Oper.semAt_some vidx0 vidx1 vidx2

theorem set3a {w : World} {b : Nat} {x y z : Value} {t : TypeId} (h : w.heap[b]? = some (.cells #[x, y, z] t (0, 0))) (v : Value) :
    (w.setCell ⟨b, 0, none⟩ v).heap[b]? = some (.cells #[v, y, z] t (0, 0)) := by
  simp only [World.setCell, Array.getElem?_modify, h]
  simp
theorem set3b {w : World} {b : Nat} {x y z : Value} {t : TypeId} (h : w.heap[b]? = some (.cells #[x, y, z] t (0, 0))) (v : Value) :
    (w.setCell ⟨b, 1, none⟩ v).heap[b]? = some (.cells #[x, v, z] t (0, 0)) := by
  simp only [World.setCell, Array.getElem?_modify, h]
  simp
theorem set3c {w : World} {b : Nat} {x y z : Value} {t : TypeId} (h : w.heap[b]? = some (.cells #[x, y, z] t (0, 0))) (v : Value) :
    (w.setCell ⟨b, 2, none⟩ v).heap[b]? = some (.cells #[x, y, v] t (0, 0)) := by
  simp only [World.setCell, Array.getElem?_modify, h]
  simp
theorem set_other {w : World} {b c o : Nat} {x : Obj} (h : w.heap[b]? = some x) (hne : c ≠ b) (v : Value) : (w.setCell ⟨c, o, none⟩ v).heap[b]? = some x := by
  simp only [World.setCell]
  rw [Array.getElem?_modify, if_neg hne]
  exact h
theorem below_spot {n b : Nat} {w w1 : World} (h : Below n w w1) (hb : n ≤ b) (u v x : Value) : Below n w (((w1.setCell ⟨b, 0, none⟩ u).setCell ⟨b, 1, none⟩ v).setCell ⟨b, 2, none⟩ x) :=
  ((h.setCell (p := ⟨b, 0, none⟩) hb u).setCell (p := ⟨b, 1, none⟩) hb v).setCell (p := ⟨b, 2, none⟩) hb x
theorem heap9 (w : World) (o1 o2 o3 o4 o5 o6 o7 o8 o9 : Obj) : (((((((((w.alloc o1).alloc o2).alloc o3).alloc o4).alloc o5).alloc o6).alloc o7).alloc o8).alloc o9).heap[w.heap.size + 2]? = some o3 ∧
    (((((((((w.alloc o1).alloc o2).alloc o3).alloc o4).alloc o5).alloc o6).alloc o7).alloc o8).alloc o9).heap[w.heap.size + 3]? = some o4 ∧
    (((((((((w.alloc o1).alloc o2).alloc o3).alloc o4).alloc o5).alloc o6).alloc o7).alloc o8).alloc o9).heap[w.heap.size + 6]? = some o7 ∧
    (((((((((w.alloc o1).alloc o2).alloc o3).alloc o4).alloc o5).alloc o6).alloc o7).alloc o8).alloc o9).heap.size = w.heap.size + 9 ∧ Below w.heap.size w (((((((((w.alloc o1).alloc o2).alloc o3).alloc o4).alloc o5).alloc o6).alloc o7).alloc o8).alloc o9) := by
  obtain ⟨_, _, a3, a4, a5⟩ := heap3 w o1 o2 o3
  obtain ⟨b1, _, _, b4, b5⟩ := heap3 (((w.alloc o1).alloc o2).alloc o3) o4 o5 o6
  obtain ⟨c1, _, _, c4, c5⟩ := heap3 ((((((w.alloc o1).alloc o2).alloc o3).alloc o4).alloc o5).alloc o6) o7 o8 o9
  rw [a4] at b1 b4 b5
  rw [b4] at c1 c4 c5
  refine ⟨below_blk c5 (below_blk b5 a3 (by omega)) (by omega), below_blk c5 b1 (by omega), c1, by omega, a5.trans ((b5.mono (by omega)).trans (c5.mono (by omega)))⟩
theorem with_any {g : Nat} {F : Rat → Rat → Option Rat} (hF : BinFn g F) {a b : V3} (fa : fitsV a) (fb : fitsV b) (B : Nat) (w : World) (hB : B ≤ w.heap.size) (hT : PQ B w) :
    Calls Tryz.prog 78 #[vecV a, vecV b, .func (.func g) #[] #[]] w (ResV w (vec2O F a b)) := by
  have HT := hide hT
  have H1 := hide (fun w hB hT => hF.calls a.x b.x B w fa.1 fb.1 hB hT)
  have H2 := hide (fun w hB hT => hF.calls a.y b.y B w fa.2.1 fb.2.1 hB hT)
  have H3 := hide (fun w hB hT => hF.calls a.z b.z B w fa.2.2 fb.2.2 hB hT)
  have hen := hF.enters
  obtain ⟨O, hO⟩ : ∃ O, O = vec2O F a b := ⟨_, rfl⟩
  rw [← hO]
  unfold vec2O at hO
  obtain ⟨o1, h1⟩ : ∃ o, o = F a.x b.x := ⟨_, rfl⟩
  obtain ⟨o2, h2⟩ : ∃ o, o = F a.y b.y := ⟨_, rfl⟩
  obtain ⟨o3, h3⟩ : ∃ o, o = F a.z b.z := ⟨_, rfl⟩
  rw [← h1] at H1 hO
  rw [← h2] at H2 hO
  rw [← h3] at H3 hO
  obtain ⟨x1, e1⟩ : ∃ x, x = T a.x := ⟨_, rfl⟩
  obtain ⟨x2, e2⟩ : ∃ x, x = T a.y := ⟨_, rfl⟩
  obtain ⟨x3, e3⟩ : ∃ x, x = T a.z := ⟨_, rfl⟩
  obtain ⟨y1, e4⟩ : ∃ x, x = T b.x := ⟨_, rfl⟩
  obtain ⟨y2, e5⟩ : ∃ x, x = T b.y := ⟨_, rfl⟩
  obtain ⟨y3, e6⟩ : ∃ x, x = T b.z := ⟨_, rfl⟩
  unfold vecV
  rw [← e1, ← e2, ← e3, ← e4, ← e5, ← e6]
  rw [← e1, ← e4] at H1
  rw [← e2, ← e5] at H2
  rw [← e3, ← e6] at H3
  clear e1 e2 e3 e4 e5 e6 h1 h2 h3 fa fb hF hT
  have HO := hide hO
  clear hO
  have HL1 := hide (fun w => vlist_at x1 x2 x3 w)
  have HL2 := hide (fun w => vlist_at y1 y2 y3 w)
  have HOF := hide (fun a b c w => vof_any a b c w)
  have X0 := hide (heap9 w (sptO x1 x2 x3) (sptO y1 y2 y3) (spotO ⟨#[]⟩ ⟨#[]⟩ ⟨#[]⟩) (arrO ⟨#[]⟩ ⟨#[]⟩ ⟨#[]⟩) (sptO y1 y2 y3) (arrO y1 y2 y3) (arrO y1 y2 y3) (sptO x1 x2 x3) (arrO x1 x2 x3))
  go_enter Tryz.func78, Tryz.ntmps78
  go_wp2_with fail
  refine (HL2.out _).mono ?_
  rintro e w0 ⟨rfl, rfl⟩
  go_wp2_with fail
  refine (HL1.out _).mono ?_
  rintro e w0 ⟨rfl, rfl⟩
  go_wp2_with fail
  refine wp_loop_rounds 4 ?_
  rw [rounds_succ]
  go_wp2_with fail
  refine (H1.out _ (Nat.le_trans hB X0.out.2.2.2.2.size) (HT.out.on X0.out.2.2.2.2 hB)).mono ?_
  rintro e w1 (⟨z1, hz1, rfl, hb1⟩ | ⟨hz1, rfl, hb1⟩)
  all_goals
    have A6 := hide (below_blk hb1 X0.out.1 (lt_blk X0.out.1))
    have A8 := hide (below_blk hb1 X0.out.2.1 (lt_blk X0.out.2.1))
    have A9 := hide (below_blk hb1 X0.out.2.2.1 (lt_blk X0.out.2.2.1))
    have HB1 := hide (X0.out.2.2.2.2.trans (hb1.mono X0.out.2.2.2.2.size))
    have HZ1 := hide hz1
    clear hb1 hz1
  rotate_left
  · have k0 := cell_blk A6.out 0
    have k1 := cell_blk A6.out 1
    have k2 := cell_blk A6.out 2
    have f0 := froz_blk A6.out 0
    have f1 := froz_blk A6.out 1
    have f2 := froz_blk A6.out 2
    have l6 := lt_blk A6.out
    go_wp2_with fail
    exact exit_spotE rfl (set3c (set3b (set3a A6.out _) _) _) rfl rfl rfl (.inr ⟨by rw [HO.out, HZ1.out]; rfl, rfl, below_spot HB1.out (show w.heap.size ≤ w.heap.size + 1 + 1 by omega) _ _ _⟩)
  have S6 := hide (set_other (c := w.heap.size + 3) (o := 0) A6.out (by omega) (.string (T z1)))
  have S8 := hide (set3a A8.out (.string (T z1)))
  have S9 := hide (set_other (c := w.heap.size + 3) (o := 0) A9.out (by omega) (.string (T z1)))
  have SB := hide (HB1.out.setCell (p := ⟨w.heap.size + 3, 0, none⟩) (Nat.le_add_right _ _) (.string (T z1)))
  have k0 := cell_blk A8.out 0
  have f0 := froz_blk A8.out 0
  have l8 := lt_blk A8.out
  go_wp2_with fail
  clear k0 f0 l8
  have k1 := cell_blk S9.out 1
  rw [rounds_succ]
  go_wp2_with fail
  refine (H2.out _ (Nat.le_trans hB SB.out.size) (HT.out.on SB.out hB)).mono ?_
  rintro e w2 (⟨z2, hz2, rfl, hb2⟩ | ⟨hz2, rfl, hb2⟩)
  all_goals
    clear k1 A6 A8 A9
    have A6 := hide (below_blk hb2 S6.out (lt_blk S6.out))
    have A8 := hide (below_blk hb2 S8.out (lt_blk S8.out))
    have A9 := hide (below_blk hb2 S9.out (lt_blk S9.out))
    have HB2 := hide (SB.out.trans (hb2.mono SB.out.size))
    have HZ2 := hide hz2
    clear hb2 hz2 S6 S8 S9 SB
  rotate_left
  · have k0 := cell_blk A6.out 0
    have k1 := cell_blk A6.out 1
    have k2 := cell_blk A6.out 2
    have f0 := froz_blk A6.out 0
    have f1 := froz_blk A6.out 1
    have f2 := froz_blk A6.out 2
    have l6 := lt_blk A6.out
    go_wp2_with fail
    exact exit_spotE rfl (set3c (set3b (set3a A6.out _) _) _) rfl rfl rfl (.inr ⟨by rw [HO.out, HZ2.out]; cases o1 <;> rfl, rfl, below_spot HB2.out (show w.heap.size ≤ w.heap.size + 1 + 1 by omega) _ _ _⟩)
  have S6 := hide (set_other (c := w.heap.size + 3) (o := 1) A6.out (by omega) (.string (T z2)))
  have S8 := hide (set3b A8.out (.string (T z2)))
  have S9 := hide (set_other (c := w.heap.size + 3) (o := 1) A9.out (by omega) (.string (T z2)))
  have SB := hide (HB2.out.setCell (p := ⟨w.heap.size + 3, 1, none⟩) (Nat.le_add_right _ _) (.string (T z2)))
  have k0 := cell_blk A8.out 1
  have f0 := froz_blk A8.out 1
  have l8 := lt_blk A8.out
  go_wp2_with fail
  clear k0 f0 l8
  have k1 := cell_blk S9.out 2
  rw [rounds_succ]
  go_wp2_with fail
  refine (H3.out _ (Nat.le_trans hB SB.out.size) (HT.out.on SB.out hB)).mono ?_
  rintro e w3 (⟨z3, hz3, rfl, hb3⟩ | ⟨hz3, rfl, hb3⟩)
  all_goals
    clear k1 A6 A8 A9
    have A6 := hide (below_blk hb3 S6.out (lt_blk S6.out))
    have A8 := hide (below_blk hb3 S8.out (lt_blk S8.out))
    have HB3 := hide (SB.out.trans (hb3.mono SB.out.size))
    have HZ3 := hide hz3
    clear hb3 hz3 S6 S8 S9 SB
  rotate_left
  · have k0 := cell_blk A6.out 0
    have k1 := cell_blk A6.out 1
    have k2 := cell_blk A6.out 2
    have f0 := froz_blk A6.out 0
    have f1 := froz_blk A6.out 1
    have f2 := froz_blk A6.out 2
    have l6 := lt_blk A6.out
    go_wp2_with fail
    exact exit_spotE rfl (set3c (set3b (set3a A6.out _) _) _) rfl rfl rfl (.inr ⟨by rw [HO.out, HZ3.out]; cases o1 <;> cases o2 <;> rfl, rfl, below_spot HB3.out (show w.heap.size ≤ w.heap.size + 1 + 1 by omega) _ _ _⟩)
  have S6 := hide (set_other (c := w.heap.size + 3) (o := 2) A6.out (by omega) (.string (T z3)))
  have S8 := hide (set3c A8.out (.string (T z3)))
  have SB := hide (HB3.out.setCell (p := ⟨w.heap.size + 3, 2, none⟩) (Nat.le_add_right _ _) (.string (T z3)))
  have k0 := cell_blk A8.out 2
  have f0 := froz_blk A8.out 2
  have l8 := lt_blk A8.out
  go_wp2_with fail
  clear k0 f0 l8
  have k0 := cell_blk S8.out 0
  have k1 := cell_blk S8.out 1
  have k2 := cell_blk S8.out 2
  have l8 := lt_blk S8.out
  rw [rounds_succ]
  go_wp2_with fail
  refine (HOF.out _ _ _ _).mono ?_
  rintro e w4 ⟨rfl, rfl⟩
  clear k0 k1 k2 l8
  have X5 := hide (heap2 (w3.setCell ⟨w.heap.size + 3, 2, none⟩ (.string (T z3))) (arrO (T z1) (T z2) (T z3)) (spotO (T z1) (T z2) (T z3)))
  have R6 := hide (below_blk X5.out.2.2.2 S6.out (lt_blk S6.out))
  have RB := hide (SB.out.trans (X5.out.2.2.2.mono SB.out.size))
  have k0 := cell_blk R6.out 0
  have k1 := cell_blk R6.out 1
  have k2 := cell_blk R6.out 2
  have f0 := froz_blk R6.out 0
  have f1 := froz_blk R6.out 1
  have f2 := froz_blk R6.out 2
  have l6 := lt_blk R6.out
  go_wp2_with fail
  exact exit_spotE rfl (set3c (set3b (set3a R6.out _) _) _) rfl rfl rfl (.inl ⟨⟨z1, z2, z3⟩, by rw [HO.out, HZ1.out, HZ2.out, HZ3.out]; rfl, rfl, below_spot RB.out (show w.heap.size ≤ w.heap.size + 1 + 1 by omega) _ _ _⟩)
open Go.RowKit Go.KP Go.KI Go.Shelf
attribute [local go_sem] Oper.semAt_some vidx0 vidx1 vidx2

theorem ResV.no {w : World} {o : Option V3} (h : o = none) {e : Ending} {w' : World} (hr : ResV w o e w') : Ret w (.tuple #[noV, .int .i64 4]) e w' := by
  rcases hr with ⟨v, h1, _⟩ | ⟨_, h2⟩
  · rw [h] at h1
    cases h1
  · exact h2
theorem ResO.no {w : World} {o : Option Rat} (h : o = none) {e : Ending} {w' : World} (hr : ResO w o e w') : Ret w (.tuple #[.string ⟨#[]⟩, .int .i64 4]) e w' := by
  rcases hr with ⟨v, h1, _⟩ | ⟨_, h2⟩
  · rw [h] at h1
    cases h1
  · exact h2
theorem T_chk {x : Rat} (h : fitsQ x) : (T x).size ≤ 1000000 ∧ chkQ (T x).data.toList = 0 := ⟨(T_good h).1, (T_good h).2.1⟩
theorem vboth_T {a b : V3} (fa : fitsV a) (fb : fitsV b) (B : Nat) (w : World) (hB : B ≤ w.heap.size) (hT : PQ B w) :
    Calls Tryz.prog 45 #[vecV a, vecV b] w (Ret w (.int .i64 0)) := by
  have h := vboth_any (T a.x) (T a.y) (T a.z) (T b.x) (T b.y) (T b.z) (T_chk fa.1).1 (T_chk fa.2.1).1 (T_chk fa.2.2).1 (T_chk fb.1).1 (T_chk fb.2.1).1 (T_chk fb.2.2).1 B w hB hT
  rw [chk3_zero.2 ⟨(T_chk fa.1).2, (T_chk fa.2.1).2, (T_chk fa.2.2).2⟩, chk3_zero.2 ⟨(T_chk fb.1).2, (T_chk fb.2.1).2, (T_chk fb.2.2).2⟩] at h
  exact h
theorem vchk_T {a : V3} (fa : fitsV a) (B : Nat) (w : World) (hB : B ≤ w.heap.size) (hT : PQ B w) :
    Calls Tryz.prog 54 #[vecV a] w (Ret w (.int .i64 0)) := by
  have h := vCheck_any (T a.x) (T a.y) (T a.z) (T_chk fa.1).1 (T_chk fa.2.1).1 (T_chk fa.2.2).1 B w hB hT
  rw [chk3_zero.2 ⟨(T_chk fa.1).2, (T_chk fa.2.1).2, (T_chk fa.2.2).2⟩] at h
  exact h
theorem vSub_O {a b : V3} (fa : fitsV a) (fb : fitsV b) (B : Nat) (w : World) (hB : B ≤ w.heap.size) (hT : PQ B w) :
    Calls Tryz.prog 66 #[vecV a, vecV b] w (ResV w (vec2O subO a b)) := by
  have HT := hide hT
  have HC := hide (fun w hB hT => vboth_T fa fb B w hB hT)
  have HD := hide (fun w hB hT => with_any subB fa fb B w hB hT)
  have X0 := hide (heap3 w (vecO a) (vecO b) (spotO ⟨#[]⟩ ⟨#[]⟩ ⟨#[]⟩))
  obtain ⟨O, hO⟩ : ∃ O, O = vec2O subO a b := ⟨_, rfl⟩
  rw [← hO] at HD ⊢
  clear hO hT fa fb
  go_enter Tryz.func66, Tryz.ntmps66
  go_wp2_with fail
  refine (HC.out _ (Nat.le_trans hB X0.out.2.2.2.2.size) (HT.out.on X0.out.2.2.2.2 hB)).mono ?_
  rintro e w1 ⟨rfl, hb1⟩
  have HB1 := hide (X0.out.2.2.2.2.trans (hb1.mono X0.out.2.2.2.2.size))
  have G1 := hide (below_blk hb1 X0.out.1 (lt_blk X0.out.1))
  have G2 := hide (below_blk hb1 X0.out.2.1 (lt_blk X0.out.2.1))
  have G4 := hide (below_blk hb1 X0.out.2.2.1 (lt_blk X0.out.2.2.1))
  have k0 := cell_blk G1.out 0
  have k1 := cell_blk G1.out 1
  have k2 := cell_blk G1.out 2
  have m0 := cell_blk G2.out 0
  have m1 := cell_blk G2.out 1
  have m2 := cell_blk G2.out 2
  clear hb1
  go_wp2_with fail
  refine (HD.out _ (Nat.le_trans hB HB1.out.size) (HT.out.on HB1.out hB)).mono ?_
  rintro e w3 (⟨z, hz, rfl, hb3⟩ | ⟨hz, rfl, hb3⟩)
  all_goals
    have HZ := hide hz
    have HB3 := hide (HB1.out.trans (hb3.mono HB1.out.size))
    have G5 := hide (below_blk hb3 G4.out (lt_blk G4.out))
    clear hb3 hz k0 k1 k2 m0 m1 m2
    have k0 := cell_blk G5.out 0
    have k1 := cell_blk G5.out 1
    have k2 := cell_blk G5.out 2
    have f0 := froz_blk G5.out 0
    have f1 := froz_blk G5.out 1
    have f2 := froz_blk G5.out 2
    have l6 := lt_blk G5.out
    go_wp2_with fail
    first
      | exact exit_spotE rfl (set3c (set3b (set3a G5.out _) _) _) rfl rfl rfl (.inl ⟨_, HZ.out, rfl, below_spot HB3.out (show w.heap.size ≤ w.heap.size + 1 + 1 by omega) _ _ _⟩)
      | exact exit_spotE rfl (set3c (set3b (set3a G5.out _) _) _) rfl rfl rfl (.inr ⟨HZ.out, rfl, below_spot HB3.out (show w.heap.size ≤ w.heap.size + 1 + 1 by omega) _ _ _⟩)
end Go.Proofs.YtklgpilgalfckaaGreatDoor
namespace Go.KI
open Go

def meetsP (p q r : V3) : Prop := vcross (vsub q p) (vsub r p) = vzero ∧ (vcmp p r = 0 ∨ vcmp r q = 0 ∨ vcmp p r = vcmp r q)
instance (p q r : V3) : Decidable (meetsP p q r) := inferInstanceAs (Decidable (_ ∧ _))
def half (n : Int) : Rat := Rat.divInt n 2
theorem half_sz {n : Int} (h : n.natAbs < 1000) : sz 3 (half n) := divInt_sz (by omega) h (by decide)
theorem half_eq (n : Int) : half n = (n : Rat) / 2 := by
  unfold half
  rw [Rat.divInt_eq_div]
  rfl
theorem half_inj {m n : Int} (h : half m = half n) : m = n := by
  rw [half_eq, half_eq] at h
  have : (m : Rat) = n := by grind
  exact Rat.intCast_inj.1 this
end Go.KI
namespace Go.Proofs.YtklgpilgalfckaaGreatDoor
open Go.RowKit Go.KP Go.KI Go.Shelf
attribute [local go_sem] Oper.semAt_some

theorem lnum_any (n d : Int) (n0 : -9223372036854775808 ≤ n) (n1 : n ≤ 9223372036854775807) (d0 : 0 < d) (d1 : d ≤ 9223372036854775807) (B : Nat) (w : World) (hB : B ≤ w.heap.size) (hT : PQ B w) :
    Calls Tryz.prog 40 #[.int .i64 n, .int .i64 d] w (Ret w (.string (T (Rat.divInt n d)))) := by
  have HT := hide hT
  have H1 : Hid (∀ w, B ≤ w.heap.size → PQ B w → Calls Tryz.prog 75 #[.int .i64 n, .int .i64 d] w (Ret w (.tuple #[.string (T (Rat.divInt n d)), .int .i64 0]))) := hide (fun w hB hT => qOf_any n d n0 n1 (by omega) d1 (by omega) B w hB hT)
  obtain ⟨X, hX⟩ : ∃ X, X = T (Rat.divInt n d) := ⟨_, rfl⟩
  rw [← hX] at H1 ⊢
  clear hX hT n0 n1 d0 d1
  go_enter Tryz.func40, Tryz.ntmps40
  go_wp2_with fail
  refine (H1.out _ hB HT.out).mono ?_
  rintro e w1 ⟨rfl, hb1⟩
  have HB1 := hide hb1
  clear hb1
  go_wp2_with fail
  go_ret
  exact ⟨rfl, HB1.out⟩
theorem lspot_at (x y z : ByteArray) (w : World) :
    Calls Tryz.prog 27 #[.string x, .string y, .string z] w (fun e w' => e = .returned (spotV x y z) ∧ w' = w.alloc (spotO x y z)) := by
  go_enter Tryz.func27, Tryz.ntmps27
  go_wp2_with fail
  exact exit_spot rfl (heap1 w (spotO x y z)).1 rfl rfl ⟨rfl, rfl⟩
instance (n : Nat) (w : World) : Nonempty (Of (Below n w)) := ⟨⟨w, Below.refl n w⟩⟩
theorem lnum_cls (n d : Int) (n0 : -9223372036854775808 ≤ n) (n1 : n ≤ 9223372036854775807) (d0 : 0 < d) (d1 : d ≤ 9223372036854775807) (B m : Nat) (w0 : World) (hT : PQ B w0) (hB : B ≤ m) (hm : m ≤ w0.heap.size) (x : Of (Below m w0)) :
    Calls Tryz.prog 40 #[.int .i64 n, .int .i64 d] x.w fun e w' => e = .returned (.string (T (Rat.divInt n d))) ∧ Cls (Below m w0) w' :=
  (lnum_any n d n0 n1 d0 d1 B x.w (by have := x.h.size; omega) (hT.on x.h hB)).mono fun _ _ ⟨h, hb⟩ => ⟨h, Cls.mk (x.h.trans (hb.mono (by have := x.h.size; omega)))⟩
theorem lspot_cls (a b c : ByteArray) (m : Nat) (w0 : World) (hm : m ≤ w0.heap.size) (x : Of (Below m w0)) :
    Calls Tryz.prog 27 #[.string a, .string b, .string c] x.w fun e w' => e = .returned (spotV a b c) ∧ Cls (Below m w0) w' :=
  (lspot_at a b c x.w).mono fun _ _ ⟨h, hb⟩ => ⟨h, Cls.mk (by
    rw [hb]
    have h2 := x.h.size
    exact x.h.trans ((heap1 x.w (spotO a b c)).2.2.mono (by omega)))⟩
structure I3 where
  x : Int
  y : Int
  z : Int
abbrev i3V (a : I3) : Value := .agg #[.int .i8 a.x, .int .i8 a.y, .int .i8 a.z]
def small3 (a : I3) : Prop := (-128 ≤ a.x ∧ a.x ≤ 127) ∧ (-128 ≤ a.y ∧ a.y ≤ 127) ∧ (-128 ≤ a.z ∧ a.z ≤ 127)
def v3 (a : I3) : V3 := ⟨half a.x, half a.y, half a.z⟩
theorem lof1_any (a : I3) (ha : small3 a) (B : Nat) (w : World) (hB : B ≤ w.heap.size) (hT : PQ B w) :
    Calls Tryz.prog 39 #[i3V a] w (Ret w (vecV (v3 a))) := by
  obtain ⟨⟨x0, x1⟩, ⟨y0, y1⟩, ⟨z0, z1⟩⟩ := ha
  obtain ⟨x, y, z⟩ := a
  dsimp only at x0 x1 y0 y1 z0 z1
  show Calls _ _ #[.agg #[.int .i8 x, .int .i8 y, .int .i8 z]] w (Ret w (.agg #[.string (T (Rat.divInt x 2)), .string (T (Rat.divInt y 2)), .string (T (Rat.divInt z 2))]))
  obtain ⟨W0, hW0⟩ : ∃ W, W = (w.alloc (.cells #[.int .i8 x, .int .i8 y, .int .i8 z] 52)).alloc (spotO ⟨#[]⟩ ⟨#[]⟩ ⟨#[]⟩) := ⟨_, rfl⟩
  have hX := heap2 w (.cells #[.int .i8 x, .int .i8 y, .int .i8 z] 52) (spotO ⟨#[]⟩ ⟨#[]⟩ ⟨#[]⟩)
  rw [← hW0] at hX
  have E1 := hide hX.1
  have E2 := hide hX.2.1
  have HB0 := hide hX.2.2.2
  have hs := hX.2.2.2.size
  have hT0 := hT.on hX.2.2.2 hB
  have HN1 := hide (fun o => lnum_cls x 2 (by omega) (by omega) (by omega) (by omega) B W0.heap.size W0 hT0 (by omega) (Nat.le_refl _) o)
  have HN2 := hide (fun o => lnum_cls y 2 (by omega) (by omega) (by omega) (by omega) B W0.heap.size W0 hT0 (by omega) (Nat.le_refl _) o)
  have HN3 := hide (fun o => lnum_cls z 2 (by omega) (by omega) (by omega) (by omega) B W0.heap.size W0 hT0 (by omega) (Nat.le_refl _) o)
  obtain ⟨X, hx⟩ : ∃ X, X = T (Rat.divInt x 2) := ⟨_, rfl⟩
  obtain ⟨Y, hy⟩ : ∃ X, X = T (Rat.divInt y 2) := ⟨_, rfl⟩
  obtain ⟨Z, hz⟩ : ∃ X, X = T (Rat.divInt z 2) := ⟨_, rfl⟩
  rw [← hx] at HN1
  rw [← hy] at HN2
  rw [← hz] at HN3
  rw [← hx, ← hy, ← hz]
  have HSP := hide (fun o => lspot_cls X Y Z W0.heap.size W0 (Nat.le_refl _) o)
  clear hx hy hz hX hT hT0 hs
  go_enter Tryz.func39, Tryz.ntmps39
  go_wp2_with fail
  rw [← hW0]
  clear hW0
  have hx1 : ∀ x : Of (Below W0.heap.size W0), ∀ o, x.w.cell? ⟨w.heap.size, o, none⟩ = W0.cell? ⟨w.heap.size, o, none⟩ := fun x o => x.h.cell (p := ⟨w.heap.size, o, none⟩) (lt_blk E1.out)
  have c1 := fun o => cell_blk E1.out o
  refine region_prefix (C := Cls (Below W0.heap.size W0)) 13 (by kernel_rfl) (by decide) (by kernel_rfl) (by kernel_rfl) (by kernel_rfl) (by kernel_rfl) (Cls.mk (Below.refl _ _).drew) ?_
  simp only [List.take_succ_cons, List.take_zero, List.drop_succ_cons, List.drop_zero]
  repeat (go_big_quiet_step (first | with_reducible exact HN1.out _ | with_reducible exact HN2.out _ | with_reducible exact HN3.out _ | with_reducible exact HSP.out _))
  refine wpQuiet_nil ?_
  intro w1 hcl
  have hb1 := hcl.out
  have A2 := hide (below_blk hb1 E2.out (lt_blk E2.out))
  have HB1 := hide (HB0.out.trans (hb1.mono HB0.out.size))
  clear hcl hb1 hx1 c1 HN1 HN2 HN3 HSP
  have k0 := cell_blk A2.out 0
  have k1 := cell_blk A2.out 1
  have k2 := cell_blk A2.out 2
  have f0 := froz_blk A2.out 0
  have f1 := froz_blk A2.out 1
  have f2 := froz_blk A2.out 2
  have l6 := lt_blk A2.out
  go_wp2_with fail
  exact exit_spot rfl (set3c (set3b (set3a A2.out _) _) _) rfl rfl ⟨rfl, below_spot HB1.out (show w.heap.size ≤ w.heap.size + 1 by omega) _ _ _⟩
open Go.RowKit Go.KP Go.KI Go.Shelf
attribute [local go_sem] Oper.semAt_some

theorem houtside_no (n a b : Int) (h1 : a ≤ n) (h2 : n ≤ b) (w : World) :
    Calls Tryz.prog 67 #[.int .i64 n, .int .i64 a, .int .i64 b] w (fun e w' => e = .returned (.bool false) ∧ w' = w) := by
  have g1 : (n < a) = False := eq_false (by omega)
  have g2 : (b < n) = False := eq_false (by omega)
  clear h1 h2
  go_enter Tryz.func67, Tryz.ntmps67
  go_wp2_with fail
  go_ret
  exact ⟨rfl, rfl⟩
theorem hlong1_no {x : Rat} (hx : sz 36 x) (B : Nat) (w : World) (hB : B ≤ w.heap.size) (hT : PQ B w) :
    Calls Tryz.prog 118 #[.string (T x)] w (Ret w (.bool false)) := by
  have hf : fitsQ x := sz_fits hx (by rw [most_eq]; omega)
  have HT := hide hT
  have HP := hide (fun w hB hT => qParts_any (T x) (T_good hf).1 B w hB hT)
  rw [show partsR (T x).data.toList = tripV (Lib.itoa x.num) (Lib.itoa (x.den : Int)) 0 by unfold partsR; rw [if_pos (T_good hf).2.1, (T_good hf).2.2]] at HP
  obtain ⟨N, hN⟩ : ∃ Z, Z = strB (Lib.itoa x.num) := ⟨_, rfl⟩
  obtain ⟨D, hD⟩ : ∃ Z, Z = strB (Lib.itoa (x.den : Int)) := ⟨_, rfl⟩
  rw [show tripV (Lib.itoa x.num) (Lib.itoa (x.den : Int)) 0 = .tuple #[.string N, .string D, .int .i64 0] by rw [hN, hD]] at HP
  have HTP := hide (fun w => trimPrefix_any N w)
  obtain ⟨O, hO⟩ : ∃ Z, Z = strB (digs N.data.toList) := ⟨_, rfl⟩
  rw [← hO] at HTP
  have hOs : O.size ≤ 36 := by
    rw [hO, strB_size, hN, strB_list, digs_itoa]
    exact (dec_len_le (by omega)).2 hx.1
  have hDs : D.size ≤ 36 := by
    rw [hD, strB_size, Lib.itoa_nonneg]
    exact (dec_len_le (by omega)).2 hx.2
  have hm : ((36 : Int) < max (O.size : Int) (D.size : Int)) = False := eq_false (by omega)
  clear hN hD hO hOs hDs hx hf hT
  go_enter Tryz.func118, Tryz.ntmps118
  go_wp2_with fail
  refine (HP.out _ hB HT.out).mono ?_
  rintro e w1 ⟨rfl, hb1⟩
  have HB1 := hide hb1
  clear hb1
  go_wp2_with fail
  refine (HTP.out _).mono ?_
  rintro e w2 ⟨rfl, rfl⟩
  go_wp2_with fail
  go_ret
  exact ⟨rfl, HB1.out⟩
theorem hindex_no {a : V3} (ha : szV 36 a) (b : Nat) (t : TypeId) (B : Nat) (w : World) (hb : w.heap[b]? = some (.cells #[.string (T a.x), .string (T a.y), .string (T a.z)] t (0, 0))) (hB : B ≤ w.heap.size) (hT : PQ B w) :
    Calls Tryz.prog 172 #[.slice (some ⟨b, 0, none⟩) 3 3, .func (.func 118) #[] #[]] w (Ret w (.int .i64 (-1))) := by
  have HT := hide hT
  have H1 := hide (fun w hB hT => hlong1_no ha.1 B w hB hT)
  have H2 := hide (fun w hB hT => hlong1_no ha.2.1 B w hB hT)
  have H3 := hide (fun w hB hT => hlong1_no ha.2.2 B w hB hT)
  have G0 := hide hb
  have k0 := cell_blk hb 0
  have l0 := lt_blk hb
  clear hb hT ha
  go_enter Tryz.func172, Tryz.ntmps172
  go_wp2_with fail
  refine wp_loop_rounds 4 ?_
  rw [rounds_succ]
  go_wp2_with fail
  refine (H1.out _ hB HT.out).mono ?_
  rintro e w1 ⟨rfl, hb1⟩
  have HB1 := hide hb1
  have G1 := hide (below_blk hb1 G0.out l0)
  clear hb1 k0 l0
  go_wp2_with fail
  have k0 := cell_blk G1.out 1
  have l0 := lt_blk G1.out
  rw [rounds_succ]
  go_wp2_with fail
  refine (H2.out _ (Nat.le_trans hB HB1.out.size) (HT.out.on HB1.out hB)).mono ?_
  rintro e w2 ⟨rfl, hb2⟩
  have G2 := hide (below_blk hb2 G1.out l0)
  have HB2 := hide (HB1.out.trans (hb2.mono HB1.out.size))
  clear hb2 k0 l0
  go_wp2_with fail
  have k0 := cell_blk G2.out 2
  have l0 := lt_blk G2.out
  rw [rounds_succ]
  go_wp2_with fail
  refine (H3.out _ (Nat.le_trans hB HB2.out.size) (HT.out.on HB2.out hB)).mono ?_
  rintro e w3 ⟨rfl, hb3⟩
  have HB3 := hide (HB2.out.trans (hb3.mono HB2.out.size))
  clear hb3 k0 l0
  go_wp2_with fail
  rw [rounds_succ]
  go_wp2_with fail
  go_ret
  exact ⟨rfl, HB3.out⟩
theorem hcontains_no {a : V3} (ha : szV 36 a) (b : Nat) (t : TypeId) (B : Nat) (w : World) (hb : w.heap[b]? = some (.cells #[.string (T a.x), .string (T a.y), .string (T a.z)] t (0, 0))) (hB : B ≤ w.heap.size) (hT : PQ B w) :
    Calls Tryz.prog 117 #[.slice (some ⟨b, 0, none⟩) 3 3, .func (.func 118) #[] #[]] w (Ret w (.bool false)) := by
  have H1 := hide (hindex_no ha b t B w hb hB hT)
  clear ha hb hT
  go_enter Tryz.func117, Tryz.ntmps117
  go_wp2_with fail
  refine H1.out.mono ?_
  rintro e w1 ⟨rfl, hb1⟩
  have HB1 := hide hb1
  clear hb1
  go_wp2_with fail
  go_ret
  exact ⟨rfl, HB1.out⟩
theorem hlong_no {a : V3} (ha : szV 36 a) (B : Nat) (w : World) (hB : B ≤ w.heap.size) (hT : PQ B w) :
    Calls Tryz.prog 65 #[vecV a] w (Ret w (.bool false)) := by
  have HT := hide hT
  have H1 := hide (fun b t w hb hB hT => hcontains_no ha b t B w hb hB hT)
  have X0 := hide (heap2 w (vecO a) (.cells #[.string (T a.x), .string (T a.y), .string (T a.z)] 26))
  clear hT ha
  go_enter Tryz.func65, Tryz.ntmps65
  go_wp2_with fail
  refine (H1.out _ _ _ X0.out.2.1 (Nat.le_trans hB X0.out.2.2.2.size) (HT.out.on X0.out.2.2.2 hB)).mono ?_
  rintro e w1 ⟨rfl, hb1⟩
  have HB1 := hide (X0.out.2.2.2.trans (hb1.mono X0.out.2.2.2.size))
  clear hb1
  go_wp2_with fail
  go_ret
  exact ⟨rfl, HB1.out⟩
open Go.RowKit Go.KP Go.KI Go.Shelf
attribute [local go_sem] Oper.semAt_some

abbrev memV (k f o : Int) (a b : V3) (wd dp : Int) : Value := .agg #[.int .i64 k, .int .i64 f, .int .i64 o, .string (T a.x), .string (T a.y), .string (T a.z), .string (T b.x), .string (T b.y), .string (T b.z), .int .i64 wd, .int .i64 dp]
abbrev memO (k f o : Int) (a b : V3) (wd dp : Int) : Obj := .cells #[.int .i64 k, .int .i64 f, .int .i64 o, .string (T a.x), .string (T a.y), .string (T a.z), .string (T b.x), .string (T b.y), .string (T b.z), .int .i64 wd, .int .i64 dp] 32
structure Mem (k f o : Int) (a b : V3) (wd dp : Int) : Prop where
  k1 : 1 ≤ k
  k2 : k ≤ 12
  f0 : 0 ≤ f
  o0 : -1 ≤ o
  w1 : 1 ≤ wd
  w2 : wd ≤ 1000
  d1 : 1 ≤ dp
  d2 : dp ≤ 1000
  ha : szV 36 a
  hb : szV 36 b
  ne : a ≠ b
theorem Mem.fa {k f o : Int} {a b : V3} {wd dp : Int} (h : Mem k f o a b wd dp) : fitsV a := szV_fits h.ha (by rw [most_eq]; omega)
theorem Mem.fb {k f o : Int} {a b : V3} {wd dp : Int} (h : Mem k f o a b wd dp) : fitsV b := szV_fits h.hb (by rw [most_eq]; omega)
theorem hCheck_ok {k f o : Int} {a b : V3} {wd dp : Int} (h : Mem k f o a b wd dp) (B : Nat) (w : World) (hB : B ≤ w.heap.size) (hT : PQ B w) :
    Calls Tryz.prog 33 #[memV k f o a b wd dp] w (Ret w (.int .i64 0)) := by
  have HT := hide hT
  have HO1 := hide (fun w => houtside_no k 1 12 h.k1 h.k2 w)
  have HO2 := hide (fun w => houtside_no wd 1 1000 h.w1 h.w2 w)
  have HO3 := hide (fun w => houtside_no dp 1 1000 h.d1 h.d2 w)
  have g1 : (f < 0) = False := eq_false (by have := h.f0; omega)
  have g2 : (o < -1) = False := eq_false (by have := h.o0; omega)
  have HC1 := hide (fun w hB hT => vchk_T h.fa B w hB hT)
  have HC2 := hide (fun w hB hT => vchk_T h.fb B w hB hT)
  have HL1 := hide (fun w hB hT => hlong_no h.ha B w hB hT)
  have HL2 := hide (fun w hB hT => hlong_no h.hb B w hB hT)
  have he := eqSpot_T a b
  rw [decide_eq_false h.ne] at he
  have X0 := hide (heap3 w (memO k f o a b wd dp) (.cells #[.string (T a.x), .string (T a.y), .string (T a.z), .string (T b.x), .string (T b.y), .string (T b.z)] 28) (vecO a))
  clear h hT
  go_enter Tryz.func33, Tryz.ntmps33
  go_wp2_with fail
  refine (HO1.out _).mono ?_
  rintro e w' ⟨rfl, rfl⟩
  go_wp2_with fail
  refine (HO2.out _).mono ?_
  rintro e w' ⟨rfl, rfl⟩
  go_wp2_with fail
  refine (HO3.out _).mono ?_
  rintro e w' ⟨rfl, rfl⟩
  go_wp2_with fail
  refine wp_loop_rounds 3 ?_
  rw [rounds_succ]
  go_wp2_with fail
  refine (HC1.out _ (Nat.le_trans hB X0.out.2.2.2.2.size) (HT.out.on X0.out.2.2.2.2 hB)).mono ?_
  rintro e w1 ⟨rfl, hb1⟩
  have G1 := hide (below_blk hb1 X0.out.1 (lt_blk X0.out.1))
  have G2 := hide (below_blk hb1 X0.out.2.1 (lt_blk X0.out.2.1))
  have HB1 := hide (X0.out.2.2.2.2.trans (hb1.mono X0.out.2.2.2.2.size))
  clear hb1
  go_wp2_with fail
  have m3 := cell_blk G2.out 3
  have m4 := cell_blk G2.out 4
  have m5 := cell_blk G2.out 5
  have l2 := lt_blk G2.out
  rw [rounds_succ]
  go_wp2_with fail
  have HB1b := hide (HB1.out.trans ((heap1 w1 (vecO b)).2.2.mono HB1.out.size))
  have G1b := hide (below_blk (heap1 w1 (vecO b)).2.2 G1.out (lt_blk G1.out))
  refine (HC2.out _ (Nat.le_trans hB HB1b.out.size) (HT.out.on HB1b.out hB)).mono ?_
  rintro e w2 ⟨rfl, hb2⟩
  have G3 := hide (below_blk hb2 G1b.out (lt_blk G1b.out))
  have HB2 := hide (HB1b.out.trans (hb2.mono HB1b.out.size))
  clear hb2 m3 m4 m5 l2 G1 G2 G1b
  go_wp2_with fail
  have k3 := cell_blk G3.out 3
  have k4 := cell_blk G3.out 4
  have k5 := cell_blk G3.out 5
  have l1 := lt_blk G3.out
  rw [rounds_succ]
  go_wp2_with fail
  refine (HL1.out _ (Nat.le_trans hB HB2.out.size) (HT.out.on HB2.out hB)).mono ?_
  rintro e w3 ⟨rfl, hb3⟩
  have G4 := hide (below_blk hb3 G3.out (lt_blk G3.out))
  have HB3 := hide (HB2.out.trans (hb3.mono HB2.out.size))
  clear hb3 k3 k4 k5 l1 G3
  have k6 := cell_blk G4.out 6
  have k7 := cell_blk G4.out 7
  have k8 := cell_blk G4.out 8
  have l1 := lt_blk G4.out
  go_wp2_with fail
  refine (HL2.out _ (Nat.le_trans hB HB3.out.size) (HT.out.on HB3.out hB)).mono ?_
  rintro e w4 ⟨rfl, hb4⟩
  have G5 := hide (below_blk hb4 G4.out (lt_blk G4.out))
  have HB4 := hide (HB3.out.trans (hb4.mono HB3.out.size))
  clear hb4 k6 k7 k8 l1 G4
  have k3 := cell_blk G5.out 3
  have k4 := cell_blk G5.out 4
  have k5 := cell_blk G5.out 5
  have k6 := cell_blk G5.out 6
  have k7 := cell_blk G5.out 7
  have k8 := cell_blk G5.out 8
  have l1 := lt_blk G5.out
  go_wp2_with fail
  go_ret
  exact ⟨rfl, HB4.out⟩
end Go.Proofs.YtklgpilgalfckaaGreatDoor
