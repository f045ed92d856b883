/-
  Texts of the integers, laid together: Ib, Tr, Ts, Wa, Wb, Wt, Class, Ze, Pz, Qh, Jn.
-/
import Derived.Lib.MinMax
import Derived.Test.YtgddookioipjiaaGreatDoorZ3
import Derived.Test.YtgddookioipjiaaGreatDoorZ5
import Derived.Test.YtgddookioipjiaaGreatDoorZ6
import Derived.Test.YtgddookioipjiaaGreatDoorZ7
import Derived.Test.YtgddookioipjiaaGreatDoorZ8
import Derived.Test.YtgddookioipjiaaGreatDoorZ9
namespace Go.Proofs.YtgddookioipjiaaGreatDoor
open Go.RowKit Go.KP Go.KI Go.Shelf
attribute [local go_sem] Oper.semAt_some

theorem list_is {s : ByteArray} {l m : List UInt8} (h : s.data.toList = l) : (s.toList == m) = decide (l = m) := by
  by_cases e : l = m
  · rw [(lit_eq h).1 e, decide_eq_true e]
  · rw [(lit_eq h).2 e, decide_eq_false e]
/-- An integer's text. -/
def iB (z : Int) : ByteArray := strB (Lib.itoa z)
theorem iB_list (z : Int) : (iB z).data.toList = Lib.itoa z := strB_list _
theorem iB_size {z : Int} (h : fits z) : (iB z).size ≤ 301 := fits_size (iB_list z) h
theorem iB_nonneg {z : Int} (h : 0 ≤ z) : (iB z).data.toList = Lib.decDigits z.natAbs := by
  rw [iB_list]
  rcases itoa_cases z with ⟨a, _⟩ | ⟨_, b⟩
  · omega
  · exact b
theorem iB_head (z : Int) : ∃ h : 0 < (iB z).size, (((((iB z)[0]'h).toNat : Nat) : Int) == 45) = decide (z < 0) := by
  have hne : (iB z).data.toList ≠ [] := by
    rw [iB_list]
    rcases itoa_cases z with ⟨_, a⟩ | ⟨_, a⟩ <;> rw [a]
    · simp
    · exact decDigits_ne _
  obtain ⟨hp, hh⟩ := bytes_head hne
  refine ⟨hp, ?_⟩
  rw [iB_list] at hh
  have h2 := head_itoa z
  rw [hh] at h2
  by_cases h : z < 0
  · have h3 := h2.2 h
    injection h3 with h3
    rw [h3, decide_eq_true h]
    rfl
  · rw [decide_eq_false h]
    simp only [beq_eq_false_iff_ne, ne_eq]
    intro e
    refine h (h2.1 ?_)
    congr 1
    apply UInt8.toNat_inj.1
    have e2 : (45 : UInt8).toNat = 45 := rfl
    omega
theorem iB_neg_drop {z : Int} (h : z < 0) : (iB z).extract 1 (iB z).size = iB (-z) := by
  rw [ext_drop, iB_list]
  rcases itoa_cases z with ⟨_, a⟩ | ⟨a, _⟩
  · rw [a]
    apply bytes_eq
    rw [strB_list, iB_nonneg (by omega), List.drop_succ_cons, List.drop_zero]
    congr 1
    omega
  · omega
theorem iB_pos_neg {z : Int} (h : 0 < z) : (⟨#[45]⟩ : ByteArray) ++ iB z = iB (-z) := by
  apply bytes_eq
  rw [iB_list]
  rcases itoa_cases (-z) with ⟨_, a⟩ | ⟨a, _⟩
  · rw [a]
    have e : ((⟨#[45]⟩ : ByteArray) ++ iB z).data.toList = 45 :: (iB z).data.toList := by simp
    rw [e, iB_nonneg (by omega)]
    congr 2
    omega
  · omega
theorem iB_zero_test (z : Int) : ((iB z).toList == [48]) = decide (z = 0) := by
  rw [list_is (iB_list z)]
  refine decide_eq_decide.2 ⟨fun e => itoa_inj (e.trans itoa_zero.symm), fun e => by rw [e, itoa_zero]⟩
theorem iB_one_test (z : Int) : ((iB z).toList == [49]) = decide (z = 1) := by
  rw [list_is (iB_list z)]
  refine decide_eq_decide.2 ⟨fun e => itoa_inj (e.trans itoa_one.symm), fun e => by rw [e, itoa_one]⟩
theorem iB1 : iB 1 = ⟨#[49]⟩ := bytes_eq (by rw [iB_list, itoa_one])
theorem iB_both {x y : Int} (f1 : fits x) (f2 : fits y) : chkI (iB x).data.toList = 0 ∧ chkI (iB y).data.toList = 0 ∧ bothI (iB x).data.toList (iB y).data.toList = 0 ∧ (iB x).size ≤ 1000000 ∧ (iB y).size ≤ 1000000 ∧ valI (iB x).data.toList = x ∧ valI (iB y).data.toList = y := by
  have c1 : chkI (iB x).data.toList = 0 := by rw [iB_list]; exact chk_fits f1
  have c2 : chkI (iB y).data.toList = 0 := by rw [iB_list]; exact chk_fits f2
  have l1 := iB_size f1
  have l2 := iB_size f2
  exact ⟨c1, c2, by unfold bothI; rw [if_pos c1, c2], by omega, by omega, by rw [iB_list, val_itoa], by rw [iB_list, val_itoa]⟩
theorem resI_yes {z : Int} (h : fits z) : pairV (resS z) (resE z) = .tuple #[.string (iB z), .int .i64 0] := by
  unfold resS resE
  rw [if_pos h, if_pos h]
  rfl
theorem resI_no {z : Int} (h : ¬ fits z) : pairV (resS z) (resE z) = .tuple #[.string ⟨#[]⟩, .int .i64 4] := by
  unfold resS resE
  rw [if_neg h, if_neg h]
  rfl
theorem pMul_I {x y : Int} (f1 : fits x) (f2 : fits y) (f3 : fits (x * y)) (B : Nat) (w : World) (hB : B ≤ w.heap.size) (hT : P10 B w) :
    Calls Tryz.prog 97 #[.string (iB x), .string (iB y)] w (Ret w (pairT (iB (x * y)))) := Mul_to (iB_list x) (iB_list y) (iB_list _) f1 f2 f3 B w hB hT
theorem pAdd_I {x y : Int} (f1 : fits x) (f2 : fits y) (f3 : fits (x + y)) (B : Nat) (w : World) (hB : B ≤ w.heap.size) (hT : P10 B w) :
    Calls Tryz.prog 76 #[.string (iB x), .string (iB y)] w (Ret w (pairT (iB (x + y)))) := Add_to (iB_list x) (iB_list y) (iB_list _) f1 f2 f3 B w hB hT
theorem pDivide_I {x y : Int} (f1 : fits x) (f2 : fits y) (hy : 0 < y) (B : Nat) (w : World) (hB : B ≤ w.heap.size) (hT : P10 B w) :
    Calls Tryz.prog 59 #[.string (iB x), .string (iB y)] w (Ret w (.tuple #[.string (iB (x / y)), .string (iB (x % y)), .int .i64 0])) :=
  Divide_to (iB_list x) (iB_list y) (by rw [iB_list, Int.fdiv_eq_ediv_of_nonneg _ (by omega)]) (by rw [iB_list, Int.fmod_eq_emod_of_nonneg _ (by omega)]) f1 f2 (by omega) B w hB hT
theorem pCompare_I {x y : Int} (f1 : fits x) (f2 : fits y) (w : World) :
    Calls Tryz.prog 70 #[.string (iB x), .string (iB y)] w (Ret w (.tuple #[.int .i64 (Lib.compareInt x y), .int .i64 0])) := Compare_good (iB_list x) (iB_list y) f1 f2 w
end Go.Proofs.YtgddookioipjiaaGreatDoor
namespace Go.Proofs.YtgddookioipjiaaGreatDoor
open Go.RowKit Go.KP Go.KI Go.Shelf
attribute [local go_sem] Oper.semAt_some

/-- What a comparison answers. -/
def cmpI (x y : Rat) : Int := Lib.compareInt (x.num * y.den) (y.num * x.den)
def cmpN (a b : List UInt8) : Int := if bothQ a b = 0 then (if cmpC (valQ a) (valQ b) then cmpI (valQ a) (valQ b) else 0) else 0
def cmpE (a b : List UInt8) : Int := if bothQ a b = 0 then (if cmpC (valQ a) (valQ b) then 0 else 4) else bothQ a b
abbrev cmpV2 (n e : Int) : Value := .tuple #[.int .i64 n, .int .i64 e]
set_option maxRecDepth 100000 in
set_option maxHeartbeats 8000000 in
theorem qCompare_any (s t : ByteArray) (hs : s.size ≤ 1000000) (ht : t.size ≤ 1000000) (B : Nat) (w : World) (hB : B ≤ w.heap.size) (hT : PQ B w) :
    Calls Tryz.prog 28 #[.string s, .string t] w (Ret w (cmpV2 (cmpN s.data.toList t.data.toList) (cmpE s.data.toList t.data.toList))) := by
  have HT := hide hT
  have HN1 := hide (nativeOf_any s hs w)
  have HN2 := hide (fun w => nativeOf_any t ht w)
  by_cases hq : natQ s.data.toList ∧ natQ t.data.toList
  · obtain ⟨k1, k2, _, _, _⟩ := quick_nums hq.1 hq.2
    have hb := zero_bothQ hq.1.1 hq.2.1
    have hc : cmpC (valQ s.data.toList) (valQ t.data.toList) := cmpC_of (natQ_sz hq.1) (natQ_sz hq.2) (by rw [most_eq]; omega)
    have e1 : cmpN s.data.toList t.data.toList = cmpI (valQ s.data.toList) (valQ t.data.toList) := by unfold cmpN; rw [if_pos hb, if_pos hc]
    have e2 : cmpE s.data.toList t.data.toList = 0 := by unfold cmpE; rw [if_pos hb, if_pos hc]
    rw [e1, e2]
    rw [natOV_yes hq.1] at HN1
    rw [natOV_yes hq.2] at HN2
    unfold cmpI
    obtain ⟨x, hx⟩ : ∃ x, x = (valQ s.data.toList).num := ⟨_, rfl⟩
    obtain ⟨p, hp⟩ : ∃ y, y = ((valQ s.data.toList).den : Int) := ⟨_, rfl⟩
    obtain ⟨y, hy⟩ : ∃ x, x = (valQ t.data.toList).num := ⟨_, rfl⟩
    obtain ⟨q, hq1⟩ : ∃ y, y = ((valQ t.data.toList).den : Int) := ⟨_, rfl⟩
    rw [← hx, ← hp] at HN1
    rw [← hy, ← hq1] at HN2
    rw [← hx, ← hq1] at k1
    rw [← hy, ← hp] at k2
    rw [← hx, ← hp, ← hy, ← hq1]
    have m1 : IntKind.i64.wrap (x * q) = x * q := IntWalk.i64_in _ (by omega)
    have m2 : IntKind.i64.wrap (y * p) = y * p := IntWalk.i64_in _ (by omega)
    obtain ⟨R, hR⟩ : ∃ R, R = Lib.compareInt (x * q) (y * p) := ⟨_, rfl⟩
    have HC := hide (fun w => Tryz.cmp_Compare_int (x * q) (y * p) w)
    rw [← hR] at HC ⊢
    clear hx hp hy hq1 k1 k2 hb hc e1 e2 hR hq hT
    go_enter Tryz.func28, Tryz.ntmps28
    go_wp2_with fail
    refine HN1.out.mono ?_
    rintro e w1 ⟨rfl, hb1⟩
    have X1 := hide (heap1 w1 (natO x p))
    have HB1 := hide (hb1.trans (X1.out.2.2.mono hb1.size))
    clear hb1
    go_wp2_with fail
    refine (HN2.out _).mono ?_
    rintro e w2 ⟨rfl, hb2⟩
    have G2 := hide (below_blk hb2 X1.out.1 (lt_blk X1.out.1))
    have HB2 := hide (HB1.out.trans (hb2.mono HB1.out.size))
    have X2 := hide (heap1 w2 (natO y q))
    have HB2b := hide (HB2.out.trans (X2.out.2.2.mono HB2.out.size))
    have c0 := cell_blk G2.out 0
    have c1 := cell_blk G2.out 1
    have hl := lt_blk G2.out
    clear hb2
    go_wp2_with fail
    refine (HC.out _).mono ?_
    rintro e w3 ⟨rfl, rfl⟩
    go_wp2_with fail
    refine bodyPost_ret (results_tmp2 rfl _ _ _) rfl ?_
    exact ⟨rfl, HB2b.out⟩
  · -- the parts are read
    have HR1 := hide (fun w hB hT => qread_any s hs B w hB hT)
    have HR2 := hide (fun w hB hT => qread_any t ht B w hB hT)
    have hway : (natQ s.data.toList ∧ ¬ natQ t.data.toList) ∨ ¬ natQ s.data.toList := by
      by_cases h1 : natQ s.data.toList
      · exact .inl ⟨h1, fun e => hq ⟨h1, e⟩⟩
      · exact .inr h1
    have hk : (chkQ s.data.toList ≠ 0 ∧ cmpN s.data.toList t.data.toList = 0 ∧ cmpE s.data.toList t.data.toList = chkQ s.data.toList) ∨
        (chkQ s.data.toList = 0 ∧ chkQ t.data.toList ≠ 0 ∧ cmpN s.data.toList t.data.toList = 0 ∧ cmpE s.data.toList t.data.toList = chkQ t.data.toList) ∨
        (chkQ s.data.toList = 0 ∧ chkQ t.data.toList = 0 ∧ ¬ cmpC (valQ s.data.toList) (valQ t.data.toList) ∧ cmpN s.data.toList t.data.toList = 0 ∧ cmpE s.data.toList t.data.toList = 4) ∨
        (chkQ s.data.toList = 0 ∧ chkQ t.data.toList = 0 ∧ cmpC (valQ s.data.toList) (valQ t.data.toList) ∧ cmpN s.data.toList t.data.toList = cmpI (valQ s.data.toList) (valQ t.data.toList) ∧ cmpE s.data.toList t.data.toList = 0) := by
      unfold cmpN cmpE
      by_cases h1 : chkQ s.data.toList = 0
      · by_cases h2 : chkQ t.data.toList = 0
        · have hb := zero_bothQ h1 h2
          by_cases h3 : cmpC (valQ s.data.toList) (valQ t.data.toList)
          · exact .inr (.inr (.inr ⟨h1, h2, h3, by rw [if_pos hb, if_pos h3], by rw [if_pos hb, if_pos h3]⟩))
          · exact .inr (.inr (.inl ⟨h1, h2, h3, by rw [if_pos hb, if_neg h3], by rw [if_pos hb, if_neg h3]⟩))
        · have hb : bothQ s.data.toList t.data.toList = chkQ t.data.toList := if_pos h1
          exact .inr (.inl ⟨h1, h2, by rw [hb, if_neg h2], by rw [hb, if_neg h2]⟩)
      · have hb : bothQ s.data.toList t.data.toList = chkQ s.data.toList := if_neg h1
        exact .inl ⟨h1, by rw [hb, if_neg h1], by rw [hb, if_neg h1]⟩
    have HY1 := hide (fun (h : natQ s.data.toList) => natOV_yes h)
    have HNN1 := hide (fun (h : ¬ natQ s.data.toList) => natOV_no h)
    have HNN2 := hide (fun (h : ¬ natQ t.data.toList) => natOV_no h)
    rcases hk with ⟨h1, e1, e2⟩ | ⟨h1, h2, e1, e2⟩ | ⟨h1, h2, h3, e1, e2⟩ | ⟨h1, h2, h3, e1, e2⟩
    · rw [e1, e2]
      rw [readV_bad h1] at HR1
      have hne : (chkQ s.data.toList != 0) = true := by simpa using h1
      obtain ⟨E, hE⟩ : ∃ E, E = chkQ s.data.toList := ⟨_, rfl⟩
      rw [← hE] at HR1 hne ⊢
      clear hE h1 e1 e2 hq hT
      rcases hway with ⟨n1, n2⟩ | n1
      · rw [HY1.out n1] at HN1
        rw [HNN2.out n2] at HN2
        clear n1 n2
        obtain ⟨x, hx⟩ : ∃ x, x = (valQ s.data.toList).num := ⟨_, rfl⟩
        obtain ⟨p, hp⟩ : ∃ y, y = ((valQ s.data.toList).den : Int) := ⟨_, rfl⟩
        rw [← hx, ← hp] at HN1
        clear hx hp
        go_enter Tryz.func28, Tryz.ntmps28
        go_wp2_with fail
        refine HN1.out.mono ?_
        rintro e w1 ⟨rfl, hb1⟩
        have HB1 := hide (hb1.trans ((heap1 w1 (natO x p)).2.2.mono hb1.size))
        clear hb1
        go_wp2_with fail
        refine (HN2.out _).mono ?_
        rintro e w2 ⟨rfl, hb2⟩
        have HB2 := hide (HB1.out.trans (hb2.mono HB1.out.size))
        have HB2b := hide (HB2.out.trans ((heap1 w2 (natO 0 0)).2.2.mono HB2.out.size))
        clear hb2
        go_wp2_with fail
        refine (HR1.out _ (Nat.le_trans hB HB2b.out.size) (HT.out.on HB2b.out hB)).mono ?_
        rintro e w3 ⟨rfl, hb3⟩
        have HB3 := hide (HB2b.out.trans (hb3.mono HB2b.out.size))
        clear hb3
        go_wp2_with fail
        refine bodyPost_ret (results_tmp2 rfl _ _ _) rfl ?_
        exact ⟨rfl, HB3.out.trans ((heap1 w3 _).2.2.mono HB3.out.size)⟩
      · rw [HNN1.out n1] at HN1
        clear n1
        go_enter Tryz.func28, Tryz.ntmps28
        go_wp2_with fail
        refine HN1.out.mono ?_
        rintro e w1 ⟨rfl, hb1⟩
        have HB2b := hide (hb1.trans ((heap1 w1 (natO 0 0)).2.2.mono hb1.size))
        clear hb1
        go_wp2_with fail
        refine (HR1.out _ (Nat.le_trans hB HB2b.out.size) (HT.out.on HB2b.out hB)).mono ?_
        rintro e w3 ⟨rfl, hb3⟩
        have HB3 := hide (HB2b.out.trans (hb3.mono HB2b.out.size))
        clear hb3
        go_wp2_with fail
        refine bodyPost_ret (results_tmp2 rfl _ _ _) rfl ?_
        exact ⟨rfl, HB3.out.trans ((heap1 w3 _).2.2.mono HB3.out.size)⟩
    · rw [e1, e2]
      rw [readV_good h1] at HR1
      rw [readV_bad h2] at HR2
      have hne : (chkQ t.data.toList != 0) = true := by simpa using h2
      obtain ⟨E, hE⟩ : ∃ E, E = chkQ t.data.toList := ⟨_, rfl⟩
      rw [← hE] at HR2 hne ⊢
      obtain ⟨n, hn⟩ : ∃ n, n = strB (Lib.itoa (valQ s.data.toList).num) := ⟨_, rfl⟩
      obtain ⟨d, hd⟩ : ∃ d, d = strB (Lib.itoa ((valQ s.data.toList).den : Int)) := ⟨_, rfl⟩
      rw [← hn, ← hd] at HR1
      clear hE h1 h2 e1 e2 hq hT hn hd
      rcases hway with ⟨n1, n2⟩ | n1
      · rw [HY1.out n1] at HN1
        rw [HNN2.out n2] at HN2
        clear n1 n2
        obtain ⟨x, hx⟩ : ∃ x, x = (valQ s.data.toList).num := ⟨_, rfl⟩
        obtain ⟨p, hp⟩ : ∃ y, y = ((valQ s.data.toList).den : Int) := ⟨_, rfl⟩
        rw [← hx, ← hp] at HN1
        clear hx hp
        go_enter Tryz.func28, Tryz.ntmps28
        go_wp2_with fail
        refine HN1.out.mono ?_
        rintro e w1 ⟨rfl, hb1⟩
        have HB1 := hide (hb1.trans ((heap1 w1 (natO x p)).2.2.mono hb1.size))
        clear hb1
        go_wp2_with fail
        refine (HN2.out _).mono ?_
        rintro e w2 ⟨rfl, hb2⟩
        have HB2 := hide (HB1.out.trans (hb2.mono HB1.out.size))
        have HB2b := hide (HB2.out.trans ((heap1 w2 (natO 0 0)).2.2.mono HB2.out.size))
        clear hb2
        go_wp2_with fail
        refine (HR1.out _ (Nat.le_trans hB HB2b.out.size) (HT.out.on HB2b.out hB)).mono ?_
        rintro e w3 ⟨rfl, hb3⟩
        have HB3 := hide (HB2b.out.trans (hb3.mono HB2b.out.size))
        have X3 := hide (heap1 w3 (partsO n d))
        have HB3b := hide (HB3.out.trans (X3.out.2.2.mono HB3.out.size))
        clear hb3
        go_wp2_with fail
        refine (HR2.out _ (Nat.le_trans hB HB3b.out.size) (HT.out.on HB3b.out hB)).mono ?_
        rintro e w4 ⟨rfl, hb4⟩
        have G4 := hide (below_blk hb4 X3.out.1 (lt_blk X3.out.1))
        have HB4 := hide (HB3b.out.trans (hb4.mono HB3b.out.size))
        clear hb4
        go_wp2_with fail
        refine bodyPost_ret (results_tmp2 rfl _ _ _) rfl ?_
        exact ⟨rfl, HB4.out.trans ((heap1 w4 _).2.2.mono HB4.out.size)⟩
      · rw [HNN1.out n1] at HN1
        clear n1
        go_enter Tryz.func28, Tryz.ntmps28
        go_wp2_with fail
        refine HN1.out.mono ?_
        rintro e w1 ⟨rfl, hb1⟩
        have HB2b := hide (hb1.trans ((heap1 w1 (natO 0 0)).2.2.mono hb1.size))
        clear hb1
        go_wp2_with fail
        refine (HR1.out _ (Nat.le_trans hB HB2b.out.size) (HT.out.on HB2b.out hB)).mono ?_
        rintro e w3 ⟨rfl, hb3⟩
        have HB3 := hide (HB2b.out.trans (hb3.mono HB2b.out.size))
        have X3 := hide (heap1 w3 (partsO n d))
        have HB3b := hide (HB3.out.trans (X3.out.2.2.mono HB3.out.size))
        clear hb3
        go_wp2_with fail
        refine (HR2.out _ (Nat.le_trans hB HB3b.out.size) (HT.out.on HB3b.out hB)).mono ?_
        rintro e w4 ⟨rfl, hb4⟩
        have G4 := hide (below_blk hb4 X3.out.1 (lt_blk X3.out.1))
        have HB4 := hide (HB3b.out.trans (hb4.mono HB3b.out.size))
        clear hb4
        go_wp2_with fail
        refine bodyPost_ret (results_tmp2 rfl _ _ _) rfl ?_
        exact ⟨rfl, HB4.out.trans ((heap1 w4 _).2.2.mono HB4.out.size)⟩
    · rw [e1, e2]
      rw [readV_good h1] at HR1
      rw [readV_good h2] at HR2
      have HC := hide (fun w hB hT => crossed_no (four_of h1 h2) h3 B w hB hT)
      obtain ⟨n, hn⟩ : ∃ n, n = strB (Lib.itoa (valQ s.data.toList).num) := ⟨_, rfl⟩
      obtain ⟨d, hd⟩ : ∃ d, d = strB (Lib.itoa ((valQ s.data.toList).den : Int)) := ⟨_, rfl⟩
      obtain ⟨m, hm⟩ : ∃ n, n = strB (Lib.itoa (valQ t.data.toList).num) := ⟨_, rfl⟩
      obtain ⟨c, hc⟩ : ∃ d, d = strB (Lib.itoa ((valQ t.data.toList).den : Int)) := ⟨_, rfl⟩
      rw [← hn, ← hd] at HR1 HC
      rw [← hm, ← hc] at HR2 HC
      clear h1 h2 h3 e1 e2 hq hT hn hd hm hc
      rcases hway with ⟨n1, n2⟩ | n1
      · rw [HY1.out n1] at HN1
        rw [HNN2.out n2] at HN2
        clear n1 n2
        obtain ⟨x, hx⟩ : ∃ x, x = (valQ s.data.toList).num := ⟨_, rfl⟩
        obtain ⟨p, hp⟩ : ∃ y, y = ((valQ s.data.toList).den : Int) := ⟨_, rfl⟩
        rw [← hx, ← hp] at HN1
        clear hx hp
        go_enter Tryz.func28, Tryz.ntmps28
        go_wp2_with fail
        refine HN1.out.mono ?_
        rintro e w1 ⟨rfl, hb1⟩
        have HB1 := hide (hb1.trans ((heap1 w1 (natO x p)).2.2.mono hb1.size))
        clear hb1
        go_wp2_with fail
        refine (HN2.out _).mono ?_
        rintro e w2 ⟨rfl, hb2⟩
        have HB2 := hide (HB1.out.trans (hb2.mono HB1.out.size))
        have HB2b := hide (HB2.out.trans ((heap1 w2 (natO 0 0)).2.2.mono HB2.out.size))
        clear hb2
        go_wp2_with fail
        refine (HR1.out _ (Nat.le_trans hB HB2b.out.size) (HT.out.on HB2b.out hB)).mono ?_
        rintro e w3 ⟨rfl, hb3⟩
        have HB3 := hide (HB2b.out.trans (hb3.mono HB2b.out.size))
        have X3 := hide (heap1 w3 (partsO n d))
        have HB3b := hide (HB3.out.trans (X3.out.2.2.mono HB3.out.size))
        clear hb3
        go_wp2_with fail
        refine (HR2.out _ (Nat.le_trans hB HB3b.out.size) (HT.out.on HB3b.out hB)).mono ?_
        rintro e w4 ⟨rfl, hb4⟩
        have G4 := hide (below_blk hb4 X3.out.1 (lt_blk X3.out.1))
        have HB4 := hide (HB3b.out.trans (hb4.mono HB3b.out.size))
        clear hb4
        have X4 := hide (heap1 w4 (partsO m c))
        have HB4b := hide (HB4.out.trans (X4.out.2.2.mono HB4.out.size))
        have c0 := cell_blk G4.out 0
        have c1 := cell_blk G4.out 1
        have hl := lt_blk G4.out
        go_wp2_with fail
        refine (HC.out _ (Nat.le_trans hB HB4b.out.size) (HT.out.p10.on HB4b.out hB)).mono ?_
        rintro e w5 ⟨u, v, rfl, hb5⟩
        have HB5 := hide (HB4b.out.trans (hb5.mono HB4b.out.size))
        clear hb5
        go_wp2_with fail
        refine bodyPost_ret (results_tmp2 rfl _ _ _) rfl ?_
        exact ⟨rfl, HB5.out⟩
      · rw [HNN1.out n1] at HN1
        clear n1
        go_enter Tryz.func28, Tryz.ntmps28
        go_wp2_with fail
        refine HN1.out.mono ?_
        rintro e w1 ⟨rfl, hb1⟩
        have HB2b := hide (hb1.trans ((heap1 w1 (natO 0 0)).2.2.mono hb1.size))
        clear hb1
        go_wp2_with fail
        refine (HR1.out _ (Nat.le_trans hB HB2b.out.size) (HT.out.on HB2b.out hB)).mono ?_
        rintro e w3 ⟨rfl, hb3⟩
        have HB3 := hide (HB2b.out.trans (hb3.mono HB2b.out.size))
        have X3 := hide (heap1 w3 (partsO n d))
        have HB3b := hide (HB3.out.trans (X3.out.2.2.mono HB3.out.size))
        clear hb3
        go_wp2_with fail
        refine (HR2.out _ (Nat.le_trans hB HB3b.out.size) (HT.out.on HB3b.out hB)).mono ?_
        rintro e w4 ⟨rfl, hb4⟩
        have G4 := hide (below_blk hb4 X3.out.1 (lt_blk X3.out.1))
        have HB4 := hide (HB3b.out.trans (hb4.mono HB3b.out.size))
        clear hb4
        have X4 := hide (heap1 w4 (partsO m c))
        have HB4b := hide (HB4.out.trans (X4.out.2.2.mono HB4.out.size))
        have c0 := cell_blk G4.out 0
        have c1 := cell_blk G4.out 1
        have hl := lt_blk G4.out
        go_wp2_with fail
        refine (HC.out _ (Nat.le_trans hB HB4b.out.size) (HT.out.p10.on HB4b.out hB)).mono ?_
        rintro e w5 ⟨u, v, rfl, hb5⟩
        have HB5 := hide (HB4b.out.trans (hb5.mono HB4b.out.size))
        clear hb5
        go_wp2_with fail
        refine bodyPost_ret (results_tmp2 rfl _ _ _) rfl ?_
        exact ⟨rfl, HB5.out⟩
    · rw [e1, e2]
      rw [readV_good h1] at HR1
      rw [readV_good h2] at HR2
      have HC := hide (fun w hB hT => crossed_yes (four_of h1 h2) h3.1 h3.2 B w hB hT)
      unfold cmpI
      have HI := hide (fun w => Compare_good (s := strB (Lib.itoa ((valQ s.data.toList).num * ((valQ t.data.toList).den : Int)))) (t := strB (Lib.itoa ((valQ t.data.toList).num * ((valQ s.data.toList).den : Int)))) (strB_list _) (strB_list _) h3.1 h3.2 w)
      obtain ⟨n, hn⟩ : ∃ n, n = strB (Lib.itoa (valQ s.data.toList).num) := ⟨_, rfl⟩
      obtain ⟨d, hd⟩ : ∃ d, d = strB (Lib.itoa ((valQ s.data.toList).den : Int)) := ⟨_, rfl⟩
      obtain ⟨m, hm⟩ : ∃ n, n = strB (Lib.itoa (valQ t.data.toList).num) := ⟨_, rfl⟩
      obtain ⟨c, hc⟩ : ∃ d, d = strB (Lib.itoa ((valQ t.data.toList).den : Int)) := ⟨_, rfl⟩
      rw [← hn, ← hd] at HR1 HC
      rw [← hm, ← hc] at HR2 HC
      obtain ⟨U, hU⟩ : ∃ n, n = strB (Lib.itoa ((valQ s.data.toList).num * ((valQ t.data.toList).den : Int))) := ⟨_, rfl⟩
      obtain ⟨V, hV⟩ : ∃ n, n = strB (Lib.itoa ((valQ t.data.toList).num * ((valQ s.data.toList).den : Int))) := ⟨_, rfl⟩
      rw [← hU, ← hV] at HC HI
      obtain ⟨K, hK⟩ : ∃ K, K = Lib.compareInt ((valQ s.data.toList).num * ((valQ t.data.toList).den : Int)) ((valQ t.data.toList).num * ((valQ s.data.toList).den : Int)) := ⟨_, rfl⟩
      rw [← hK] at HI ⊢
      clear h1 h2 h3 e1 e2 hq hT hn hd hm hc hU hV hK
      rcases hway with ⟨n1, n2⟩ | n1
      · rw [HY1.out n1] at HN1
        rw [HNN2.out n2] at HN2
        clear n1 n2
        obtain ⟨x, hx⟩ : ∃ x, x = (valQ s.data.toList).num := ⟨_, rfl⟩
        obtain ⟨p, hp⟩ : ∃ y, y = ((valQ s.data.toList).den : Int) := ⟨_, rfl⟩
        rw [← hx, ← hp] at HN1
        clear hx hp
        go_enter Tryz.func28, Tryz.ntmps28
        go_wp2_with fail
        refine HN1.out.mono ?_
        rintro e w1 ⟨rfl, hb1⟩
        have HB1 := hide (hb1.trans ((heap1 w1 (natO x p)).2.2.mono hb1.size))
        clear hb1
        go_wp2_with fail
        refine (HN2.out _).mono ?_
        rintro e w2 ⟨rfl, hb2⟩
        have HB2 := hide (HB1.out.trans (hb2.mono HB1.out.size))
        have HB2b := hide (HB2.out.trans ((heap1 w2 (natO 0 0)).2.2.mono HB2.out.size))
        clear hb2
        go_wp2_with fail
        refine (HR1.out _ (Nat.le_trans hB HB2b.out.size) (HT.out.on HB2b.out hB)).mono ?_
        rintro e w3 ⟨rfl, hb3⟩
        have HB3 := hide (HB2b.out.trans (hb3.mono HB2b.out.size))
        have X3 := hide (heap1 w3 (partsO n d))
        have HB3b := hide (HB3.out.trans (X3.out.2.2.mono HB3.out.size))
        clear hb3
        go_wp2_with fail
        refine (HR2.out _ (Nat.le_trans hB HB3b.out.size) (HT.out.on HB3b.out hB)).mono ?_
        rintro e w4 ⟨rfl, hb4⟩
        have G4 := hide (below_blk hb4 X3.out.1 (lt_blk X3.out.1))
        have HB4 := hide (HB3b.out.trans (hb4.mono HB3b.out.size))
        clear hb4
        have X4 := hide (heap1 w4 (partsO m c))
        have HB4b := hide (HB4.out.trans (X4.out.2.2.mono HB4.out.size))
        have c0 := cell_blk G4.out 0
        have c1 := cell_blk G4.out 1
        have hl := lt_blk G4.out
        go_wp2_with fail
        refine (HC.out _ (Nat.le_trans hB HB4b.out.size) (HT.out.p10.on HB4b.out hB)).mono ?_
        rintro e w5 ⟨rfl, hb5⟩
        have HB5 := hide (HB4b.out.trans (hb5.mono HB4b.out.size))
        clear hb5
        go_wp2_with fail
        refine (HI.out _).mono ?_
        rintro e w6 ⟨rfl, hb6⟩
        have HB6 := hide (HB5.out.trans (hb6.mono HB5.out.size))
        clear hb6
        go_wp2_with fail
        refine bodyPost_ret (results_tmp2 rfl _ _ _) rfl ?_
        exact ⟨rfl, HB6.out⟩
      · rw [HNN1.out n1] at HN1
        clear n1
        go_enter Tryz.func28, Tryz.ntmps28
        go_wp2_with fail
        refine HN1.out.mono ?_
        rintro e w1 ⟨rfl, hb1⟩
        have HB2b := hide (hb1.trans ((heap1 w1 (natO 0 0)).2.2.mono hb1.size))
        clear hb1
        go_wp2_with fail
        refine (HR1.out _ (Nat.le_trans hB HB2b.out.size) (HT.out.on HB2b.out hB)).mono ?_
        rintro e w3 ⟨rfl, hb3⟩
        have HB3 := hide (HB2b.out.trans (hb3.mono HB2b.out.size))
        have X3 := hide (heap1 w3 (partsO n d))
        have HB3b := hide (HB3.out.trans (X3.out.2.2.mono HB3.out.size))
        clear hb3
        go_wp2_with fail
        refine (HR2.out _ (Nat.le_trans hB HB3b.out.size) (HT.out.on HB3b.out hB)).mono ?_
        rintro e w4 ⟨rfl, hb4⟩
        have G4 := hide (below_blk hb4 X3.out.1 (lt_blk X3.out.1))
        have HB4 := hide (HB3b.out.trans (hb4.mono HB3b.out.size))
        clear hb4
        have X4 := hide (heap1 w4 (partsO m c))
        have HB4b := hide (HB4.out.trans (X4.out.2.2.mono HB4.out.size))
        have c0 := cell_blk G4.out 0
        have c1 := cell_blk G4.out 1
        have hl := lt_blk G4.out
        go_wp2_with fail
        refine (HC.out _ (Nat.le_trans hB HB4b.out.size) (HT.out.p10.on HB4b.out hB)).mono ?_
        rintro e w5 ⟨rfl, hb5⟩
        have HB5 := hide (HB4b.out.trans (hb5.mono HB4b.out.size))
        clear hb5
        go_wp2_with fail
        refine (HI.out _).mono ?_
        rintro e w6 ⟨rfl, hb6⟩
        have HB6 := hide (HB5.out.trans (hb6.mono HB5.out.size))
        clear hb6
        go_wp2_with fail
        refine bodyPost_ret (results_tmp2 rfl _ _ _) rfl ?_
        exact ⟨rfl, HB6.out⟩
end Go.Proofs.YtgddookioipjiaaGreatDoor
namespace Go.Proofs.YtgddookioipjiaaGreatDoor
open Go.RowKit Go.KP Go.KI Go.Shelf

theorem ratS_len {x : Rat} (h : fitsQ x) : (ratS x).length ≤ 1000 := by
  have h1 := itoa_len x.num
  have h2 := fits_len.1 h.1
  have h3 := fits_nat.1 h.2
  unfold ratS
  split
  · omega
  · rw [List.length_append, List.length_cons]
    omega
theorem good_len {s : ByteArray} {x : Rat} (h : s.data.toList = ratS x) (f : fitsQ x) : s.size ≤ 1000000 := by
  have := ratS_len f
  rw [← bytes_len, h]
  omega
theorem good_val {s : ByteArray} {x : Rat} (h : s.data.toList = ratS x) (f : fitsQ x) : chkQ s.data.toList = 0 ∧ valQ s.data.toList = x := by
  rw [h, ratS_num]
  exact ⟨chkQ_fits f, rfl⟩
theorem qadd_to {s t : ByteArray} {x y : Rat} (h1 : s.data.toList = ratS x) (h2 : t.data.toList = ratS y) (f1 : fitsQ x) (f2 : fitsQ y) (hc : addC x y) (B : Nat) (w : World) (hB : B ≤ w.heap.size) (hT : PQ B w) :
    Calls Tryz.prog 30 #[.string s, .string t] w (Ret w (.tuple #[.string (strB (ratS (x + y))), .int .i64 0])) := by
  obtain ⟨a1, a2⟩ := good_val h1 f1
  obtain ⟨b1, b2⟩ := good_val h2 f2
  have h := qAdd_any s t (good_len h1 f1) (good_len h2 f2) B w hB hT
  unfold qopS qopE at h
  rw [if_pos (zero_bothQ a1 b1), if_pos (zero_bothQ a1 b1), a2, b2, if_pos hc, if_pos hc] at h
  exact h
theorem qsub_to {s t : ByteArray} {x y : Rat} (h1 : s.data.toList = ratS x) (h2 : t.data.toList = ratS y) (f1 : fitsQ x) (f2 : fitsQ y) (hc : subC x y) (B : Nat) (w : World) (hB : B ≤ w.heap.size) (hT : PQ B w) :
    Calls Tryz.prog 37 #[.string s, .string t] w (Ret w (.tuple #[.string (strB (ratS (x - y))), .int .i64 0])) := by
  obtain ⟨a1, a2⟩ := good_val h1 f1
  obtain ⟨b1, b2⟩ := good_val h2 f2
  have h := qSub_any s t (good_len h1 f1) (good_len h2 f2) B w hB hT
  unfold qopS qopE at h
  rw [if_pos (zero_bothQ a1 b1), if_pos (zero_bothQ a1 b1), a2, b2, if_pos hc, if_pos hc] at h
  exact h
theorem qmul_to {s t : ByteArray} {x y : Rat} (h1 : s.data.toList = ratS x) (h2 : t.data.toList = ratS y) (f1 : fitsQ x) (f2 : fitsQ y) (hc : mulC x y) (B : Nat) (w : World) (hB : B ≤ w.heap.size) (hT : PQ B w) :
    Calls Tryz.prog 55 #[.string s, .string t] w (Ret w (.tuple #[.string (strB (ratS (x * y))), .int .i64 0])) := by
  obtain ⟨a1, a2⟩ := good_val h1 f1
  obtain ⟨b1, b2⟩ := good_val h2 f2
  have h := qMul_any s t (good_len h1 f1) (good_len h2 f2) B w hB hT
  unfold qopS qopE at h
  rw [if_pos (zero_bothQ a1 b1), if_pos (zero_bothQ a1 b1), a2, b2, if_pos hc, if_pos hc] at h
  exact h
theorem qdiv_to {s t : ByteArray} {x y : Rat} (h1 : s.data.toList = ratS x) (h2 : t.data.toList = ratS y) (f1 : fitsQ x) (f2 : fitsQ y) (hy : y ≠ 0) (hc : cmpC x y) (B : Nat) (w : World) (hB : B ≤ w.heap.size) (hT : PQ B w) :
    Calls Tryz.prog 26 #[.string s, .string t] w (Ret w (.tuple #[.string (strB (ratS (x / y))), .int .i64 0])) := by
  obtain ⟨a1, a2⟩ := good_val h1 f1
  obtain ⟨b1, b2⟩ := good_val h2 f2
  have h := qDiv_any s t (good_len h1 f1) (good_len h2 f2) B w hB hT
  unfold divS divE at h
  rw [if_pos (zero_bothQ a1 b1), if_pos (zero_bothQ a1 b1), a2, b2, if_neg hy, if_neg hy, if_pos hc, if_pos hc] at h
  exact h
theorem qcmp_to {s t : ByteArray} {x y : Rat} (h1 : s.data.toList = ratS x) (h2 : t.data.toList = ratS y) (f1 : fitsQ x) (f2 : fitsQ y) (hc : cmpC x y) (B : Nat) (w : World) (hB : B ≤ w.heap.size) (hT : PQ B w) :
    Calls Tryz.prog 28 #[.string s, .string t] w (Ret w (.tuple #[.int .i64 (if x < y then -1 else if y < x then 1 else 0), .int .i64 0])) := by
  obtain ⟨a1, a2⟩ := good_val h1 f1
  obtain ⟨b1, b2⟩ := good_val h2 f2
  have h := qCompare_any s t (good_len h1 f1) (good_len h2 f2) B w hB hT
  unfold cmpN cmpE cmpI at h
  rw [if_pos (zero_bothQ a1 b1), if_pos (zero_bothQ a1 b1), a2, b2, if_pos hc, if_pos hc, cmpQ] at h
  exact h
end Go.Proofs.YtgddookioipjiaaGreatDoor
namespace Go.KI
open Go

/-- A vector. -/
structure V3 where
  x : Rat
  y : Rat
  z : Rat
theorem V3.ext {a b : V3} (h1 : a.x = b.x) (h2 : a.y = b.y) (h3 : a.z = b.z) : a = b := by
  cases a
  cases b
  cases h1
  cases h2
  cases h3
  rfl
theorem V3.eq_iff {a b : V3} : a = b ↔ (a.x = b.x ∧ a.y = b.y ∧ a.z = b.z) := ⟨fun h => by rw [h]; exact ⟨rfl, rfl, rfl⟩, fun h => V3.ext h.1 h.2.1 h.2.2⟩
instance : DecidableEq V3 := fun _ _ => decidable_of_iff _ V3.eq_iff.symm
def vadd (a b : V3) : V3 := ⟨a.x + b.x, a.y + b.y, a.z + b.z⟩
def vsub (a b : V3) : V3 := ⟨a.x - b.x, a.y - b.y, a.z - b.z⟩
def vmul (a b : V3) : V3 := ⟨a.x * b.x, a.y * b.y, a.z * b.z⟩
def vall (c : Rat) : V3 := ⟨c, c, c⟩
def vdot (a b : V3) : Rat := a.x * b.x + a.y * b.y + a.z * b.z
def vcross (a b : V3) : V3 := ⟨a.y * b.z - a.z * b.y, a.z * b.x - a.x * b.z, a.x * b.y - a.y * b.x⟩
/-- All three parts are short. -/
def szV (p : Nat) (a : V3) : Prop := sz p a.x ∧ sz p a.y ∧ sz p a.z
def fitsV (a : V3) : Prop := fitsQ a.x ∧ fitsQ a.y ∧ fitsQ a.z
theorem szV_mono {p q : Nat} {a : V3} (h : szV p a) (hp : p ≤ q) : szV q a := ⟨sz_mono h.1 hp, sz_mono h.2.1 hp, sz_mono h.2.2 hp⟩
theorem szV_fits {p : Nat} {a : V3} (h : szV p a) (hp : p ≤ most) : fitsV a := ⟨sz_fits h.1 hp, sz_fits h.2.1 hp, sz_fits h.2.2 hp⟩
theorem szV_add {p q : Nat} {a b : V3} (ha : szV p a) (hb : szV q b) : szV (p + q + 1) (vadd a b) := ⟨sz_add ha.1 hb.1, sz_add ha.2.1 hb.2.1, sz_add ha.2.2 hb.2.2⟩
theorem szV_sub {p q : Nat} {a b : V3} (ha : szV p a) (hb : szV q b) : szV (p + q + 1) (vsub a b) := ⟨sz_sub ha.1 hb.1, sz_sub ha.2.1 hb.2.1, sz_sub ha.2.2 hb.2.2⟩
theorem szV_mul {p q : Nat} {a b : V3} (ha : szV p a) (hb : szV q b) : szV (p + q) (vmul a b) := ⟨sz_mul ha.1 hb.1, sz_mul ha.2.1 hb.2.1, sz_mul ha.2.2 hb.2.2⟩
theorem szV_all {p : Nat} {c : Rat} (h : sz p c) : szV p (vall c) := ⟨h, h, h⟩
/-- Results: a number, or none (ErrLimit). -/
def addO (x y : Rat) : Option Rat := if addC x y then some (x + y) else none
def subO (x y : Rat) : Option Rat := if subC x y then some (x - y) else none
def mulO (x y : Rat) : Option Rat := if mulC x y then some (x * y) else none
theorem divInt_fits {n d : Int} (hd : 0 < d) (fn : fits n) (fd : fits d) : fitsQ (Rat.divInt n d) := by
  obtain ⟨h1, h2⟩ := divInt_parts n hd
  refine ⟨?_, ?_⟩
  · rw [h1]
    exact fits_of_le fn (Int.natAbs_ediv_le_natAbs _ _)
  · rw [h2]
    exact fits_of_le fd (Int.natAbs_ediv_le_natAbs _ _)
theorem addC_fits {x y : Rat} (h : addC x y) : fitsQ (x + y) := by
  rw [← divInt_add]
  exact divInt_fits (dens_pos x y) h.2.2.1 h.2.2.2
theorem subC_fits {x y : Rat} (h : subC x y) : fitsQ (x - y) := by
  rw [← divInt_sub]
  exact divInt_fits (dens_pos x y) h.2.2.1 h.2.2.2
theorem mulC_fits {x y : Rat} (h : mulC x y) : fitsQ (x * y) := by
  rw [← divInt_mul]
  exact divInt_fits (dens_pos x y) h.1 h.2
theorem addO_some {x y z : Rat} (h : addO x y = some z) : z = x + y ∧ fitsQ z := by
  unfold addO at h
  split at h
  · next c => cases h; exact ⟨rfl, addC_fits c⟩
  · cases h
theorem subO_some {x y z : Rat} (h : subO x y = some z) : z = x - y ∧ fitsQ z := by
  unfold subO at h
  split at h
  · next c => cases h; exact ⟨rfl, subC_fits c⟩
  · cases h
theorem mulO_some {x y z : Rat} (h : mulO x y = some z) : z = x * y ∧ fitsQ z := by
  unfold mulO at h
  split at h
  · next c => cases h; exact ⟨rfl, mulC_fits c⟩
  · cases h
/-- Three results together. -/
def all3 : Option Rat → Option Rat → Option Rat → Option V3
  | some x, some y, some z => some ⟨x, y, z⟩
  | _, _, _ => none
def vec2O (f : Rat → Rat → Option Rat) (a b : V3) : Option V3 := all3 (f a.x b.x) (f a.y b.y) (f a.z b.z)
/-- Three products' sum. -/
def sum3O (p : V3) : Option Rat := (addO p.x p.y).bind fun s => addO s p.z
def dotO (a b : V3) : Option Rat := (vec2O mulO a b).bind sum3O
/-- a times d less b times c. -/
def minorO (a b c d : Rat) : Option Rat := (mulO a d).bind fun p => (mulO b c).bind fun q => subO p q
def crossO (a b : V3) : Option V3 := all3 (minorO a.y a.z b.y b.z) (minorO a.z a.x b.z b.x) (minorO a.x a.y b.x b.y)
theorem all3_some {a b c : Option Rat} {v : V3} (h : all3 a b c = some v) : a = some v.x ∧ b = some v.y ∧ c = some v.z := by
  cases a with
  | none => cases h
  | some x =>
    cases b with
    | none => cases h
    | some y =>
      cases c with
      | none => cases h
      | some z => cases h; exact ⟨rfl, rfl, rfl⟩
theorem add2_some {a b v : V3} (h : vec2O addO a b = some v) : v = vadd a b ∧ fitsV v := by
  obtain ⟨h1, h2, h3⟩ := all3_some h
  obtain ⟨e1, f1⟩ := addO_some h1
  obtain ⟨e2, f2⟩ := addO_some h2
  obtain ⟨e3, f3⟩ := addO_some h3
  exact ⟨V3.ext e1 e2 e3, f1, f2, f3⟩
theorem sub2_some {a b v : V3} (h : vec2O subO a b = some v) : v = vsub a b ∧ fitsV v := by
  obtain ⟨h1, h2, h3⟩ := all3_some h
  obtain ⟨e1, f1⟩ := subO_some h1
  obtain ⟨e2, f2⟩ := subO_some h2
  obtain ⟨e3, f3⟩ := subO_some h3
  exact ⟨V3.ext e1 e2 e3, f1, f2, f3⟩
theorem mul2_some {a b v : V3} (h : vec2O mulO a b = some v) : v = vmul a b ∧ fitsV v := by
  obtain ⟨h1, h2, h3⟩ := all3_some h
  obtain ⟨e1, f1⟩ := mulO_some h1
  obtain ⟨e2, f2⟩ := mulO_some h2
  obtain ⟨e3, f3⟩ := mulO_some h3
  exact ⟨V3.ext e1 e2 e3, f1, f2, f3⟩
theorem bind_some2 {α β : Type} {o : Option α} {f : α → Option β} {b : β} (h : o.bind f = some b) : ∃ a, o = some a ∧ f a = some b := by
  cases o with
  | none => cases h
  | some a => exact ⟨a, rfl, h⟩
theorem dot_some {a b : V3} {r : Rat} (h : dotO a b = some r) : r = vdot a b ∧ fitsQ r := by
  obtain ⟨p, h1, h2⟩ := bind_some2 h
  obtain ⟨e1, _⟩ := mul2_some h1
  obtain ⟨s, h3, h4⟩ := bind_some2 h2
  obtain ⟨e3, _⟩ := addO_some h3
  obtain ⟨e4, f4⟩ := addO_some h4
  exact ⟨by rw [e4, e3, e1]; rfl, f4⟩
theorem minor_some {a b c d r : Rat} (h : minorO a b c d = some r) : r = a * d - b * c ∧ fitsQ r := by
  obtain ⟨p, h1, h2⟩ := bind_some2 h
  obtain ⟨q, h3, h4⟩ := bind_some2 h2
  obtain ⟨e1, _⟩ := mulO_some h1
  obtain ⟨e3, _⟩ := mulO_some h3
  obtain ⟨e4, f4⟩ := subO_some h4
  exact ⟨by rw [e4, e3, e1], f4⟩
theorem cross_some {a b v : V3} (h : crossO a b = some v) : v = vcross a b ∧ fitsV v := by
  obtain ⟨h1, h2, h3⟩ := all3_some h
  obtain ⟨e1, f1⟩ := minor_some h1
  obtain ⟨e2, f2⟩ := minor_some h2
  obtain ⟨e3, f3⟩ := minor_some h3
  exact ⟨V3.ext e1 e2 e3, f1, f2, f3⟩
theorem addO_sz {p q : Nat} {x y : Rat} (hx : sz p x) (hy : sz q y) (h : p + q + 1 ≤ most) : addO x y = some (x + y) := if_pos (addC_of hx hy h)
theorem subO_sz {p q : Nat} {x y : Rat} (hx : sz p x) (hy : sz q y) (h : p + q + 1 ≤ most) : subO x y = some (x - y) := if_pos (subC_of hx hy h)
theorem mulO_sz {p q : Nat} {x y : Rat} (hx : sz p x) (hy : sz q y) (h : p + q ≤ most) : mulO x y = some (x * y) := if_pos (mulC_of hx hy h)
theorem add2_sz {p q : Nat} {a b : V3} (ha : szV p a) (hb : szV q b) (h : p + q + 1 ≤ most) : vec2O addO a b = some (vadd a b) := by
  unfold vec2O
  rw [addO_sz ha.1 hb.1 h, addO_sz ha.2.1 hb.2.1 h, addO_sz ha.2.2 hb.2.2 h]
  rfl
theorem sub2_sz {p q : Nat} {a b : V3} (ha : szV p a) (hb : szV q b) (h : p + q + 1 ≤ most) : vec2O subO a b = some (vsub a b) := by
  unfold vec2O
  rw [subO_sz ha.1 hb.1 h, subO_sz ha.2.1 hb.2.1 h, subO_sz ha.2.2 hb.2.2 h]
  rfl
theorem mul2_sz {p q : Nat} {a b : V3} (ha : szV p a) (hb : szV q b) (h : p + q ≤ most) : vec2O mulO a b = some (vmul a b) := by
  unfold vec2O
  rw [mulO_sz ha.1 hb.1 h, mulO_sz ha.2.1 hb.2.1 h, mulO_sz ha.2.2 hb.2.2 h]
  rfl
theorem dot_sz {p q : Nat} {a b : V3} (ha : szV p a) (hb : szV q b) (h : p + q + (p + q) + 1 + (p + q) + 1 ≤ most) : dotO a b = some (vdot a b) ∧ sz (p + q + (p + q) + 1 + (p + q) + 1) (vdot a b) := by
  unfold dotO
  rw [mul2_sz ha hb (by omega)]
  obtain ⟨m1, m2, m3⟩ := szV_mul ha hb
  have s1 := sz_add m1 m2
  show sum3O (vmul a b) = _ ∧ _
  unfold sum3O
  rw [addO_sz m1 m2 (by omega)]
  rw [Option.bind_some]
  rw [addO_sz s1 m3 (by omega)]
  exact ⟨rfl, sz_add s1 m3⟩
theorem minor_sz {p q : Nat} {a b c d : Rat} (ha : sz p a) (hb : sz p b) (hc : sz q c) (hd : sz q d) (h : p + q + (p + q) + 1 ≤ most) : minorO a b c d = some (a * d - b * c) ∧ sz (p + q + (p + q) + 1) (a * d - b * c) := by
  unfold minorO
  rw [mulO_sz ha hd (by omega)]
  show (Option.bind (mulO b c) fun q => subO (a * d) q) = _ ∧ _
  rw [mulO_sz hb hc (by omega)]
  show subO _ _ = _ ∧ _
  rw [subO_sz (sz_mul ha hd) (sz_mul hb hc) h]
  exact ⟨rfl, sz_sub (sz_mul ha hd) (sz_mul hb hc)⟩
theorem cross_sz {p q : Nat} {a b : V3} (ha : szV p a) (hb : szV q b) (h : p + q + (p + q) + 1 ≤ most) : crossO a b = some (vcross a b) ∧ szV (p + q + (p + q) + 1) (vcross a b) := by
  obtain ⟨e1, s1⟩ := minor_sz ha.2.1 ha.2.2 hb.2.1 hb.2.2 h
  obtain ⟨e2, s2⟩ := minor_sz ha.2.2 ha.1 hb.2.2 hb.1 h
  obtain ⟨e3, s3⟩ := minor_sz ha.1 ha.2.1 hb.1 hb.2.1 h
  unfold crossO
  rw [e1, e2, e3]
  exact ⟨rfl, s1, s2, s3⟩
/-- A scalar product that is 0: the sum of two products is the third's opposite. -/
theorem dot0_sz {p q : Nat} {a b : V3} (ha : szV p a) (hb : szV q b) (h : p + q + (p + q) + 1 ≤ most) (h0 : vdot a b = 0) : dotO a b = some 0 := by
  unfold dotO
  rw [mul2_sz ha hb (by omega)]
  obtain ⟨m1, m2, m3⟩ := szV_mul ha hb
  show sum3O (vmul a b) = _
  unfold sum3O
  rw [addO_sz m1 m2 (by omega)]
  have e : (vmul a b).x + (vmul a b).y = -(vmul a b).z := by
    unfold vdot at h0
    unfold vmul
    grind
  rw [Option.bind_some]
  rw [e, addO_sz (sz_neg m3) m3 (by omega)]
  congr 1
  exact Rat.neg_add_cancel _
/-- The order of vectors: by their parts. -/
def cmpR (x y : Rat) : Int := if x < y then -1 else if y < x then 1 else 0
def vcmp (a b : V3) : Int := if cmpR a.x b.x ≠ 0 then cmpR a.x b.x else if cmpR a.y b.y ≠ 0 then cmpR a.y b.y else cmpR a.z b.z
theorem cmpR_zero {x y : Rat} : cmpR x y = 0 ↔ x = y := by
  unfold cmpR
  constructor
  · intro h
    split at h
    · cases h
    · split at h
      · cases h
      · next h1 h2 => exact Rat.le_antisymm (Rat.not_lt.1 h2) (Rat.not_lt.1 h1)
  · rintro rfl
    rw [if_neg Rat.lt_irrefl, if_neg Rat.lt_irrefl]
end Go.KI
namespace Go.KI
open Go

def vzero : V3 := ⟨0, 0, 0⟩
theorem vadd_comm (a b : V3) : vadd b a = vadd a b := V3.ext (Rat.add_comm _ _) (Rat.add_comm _ _) (Rat.add_comm _ _)
theorem vadd_assoc (a b c : V3) : vadd (vadd a b) c = vadd a (vadd b c) := V3.ext (Rat.add_assoc _ _ _) (Rat.add_assoc _ _ _) (Rat.add_assoc _ _ _)
theorem add_sub_self (a b : Rat) : a + b - b = a := by grind
theorem vsub_add (a b : V3) : vsub (vadd a b) b = a := V3.ext (add_sub_self _ _) (add_sub_self _ _) (add_sub_self _ _)
theorem mul_add_c (a b k : Rat) : a * k + b * k = (a + b) * k := by grind
theorem vmul_add (a b : V3) (k : Rat) : vadd (vmul a (vall k)) (vmul b (vall k)) = vmul (vadd a b) (vall k) := V3.ext (mul_add_c _ _ _) (mul_add_c _ _ _) (mul_add_c _ _ _)
theorem vdot_comm (a b : V3) : vdot b a = vdot a b := by unfold vdot; grind
theorem vdot_mul (a b : V3) (k : Rat) : vdot (vmul a (vall k)) b = vdot a b * k := by unfold vdot vmul vall; grind
theorem vdot_add (a b c : V3) : vdot a (vadd b c) = vdot a b + vdot a c := by unfold vdot vadd; grind
theorem sq_nonneg (x : Rat) : 0 ≤ x * x := by
  rcases Rat.le_total (a := 0) (b := x) with h | h
  · exact Rat.mul_nonneg h h
  · have h2 : 0 ≤ -x := by grind
    have h3 := Rat.mul_nonneg h2 h2
    grind
theorem sq_zero {x : Rat} (h : x * x = 0) : x = 0 := by
  rcases Rat.mul_eq_zero.1 h with h | h <;> exact h
theorem vdot_self (a : V3) : 0 ≤ vdot a a ∧ (vdot a a = 0 ↔ a = vzero) := by
  have h1 := sq_nonneg a.x
  have h2 := sq_nonneg a.y
  have h3 := sq_nonneg a.z
  unfold vdot
  refine ⟨by grind, fun h => ?_, fun h => by rw [h]; simp only [vzero, Rat.mul_zero, Rat.add_zero]⟩
  have e1 : a.x * a.x = 0 := by grind
  have e2 : a.y * a.y = 0 := by grind
  have e3 : a.z * a.z = 0 := by grind
  exact V3.ext (sq_zero e1) (sq_zero e2) (sq_zero e3)
theorem vcross_anti (a b : V3) : vadd (vcross a b) (vcross b a) = vzero := V3.ext (by unfold vadd vcross vzero; grind) (by unfold vadd vcross vzero; grind) (by unfold vadd vcross vzero; grind)
theorem vcross_left (a b : V3) : vdot (vcross a b) a = 0 := by unfold vdot vcross; grind
theorem vcross_right (a b : V3) : vdot (vcross a b) b = 0 := by unfold vdot vcross; grind
theorem vcross_mul (a : V3) (k : Rat) : vcross a (vmul a (vall k)) = vzero := V3.ext (by unfold vcross vmul vall vzero; grind) (by unfold vcross vmul vall vzero; grind) (by unfold vcross vmul vall vzero; grind)
theorem lagrange (a b : V3) : vdot (vcross a b) (vcross a b) + vdot a b * vdot a b = vdot a a * vdot b b := by unfold vdot vcross; grind
theorem cmpR_anti (x y : Rat) : cmpR x y = -cmpR y x := by
  unfold cmpR
  by_cases h1 : x < y
  · rw [if_pos h1, if_neg (by grind), if_pos h1]
  · rw [if_neg h1]
    by_cases h2 : y < x
    · rw [if_pos h2, if_pos h2]
      rfl
    · rw [if_neg h2, if_neg h2, if_neg h1]
      rfl
theorem cmpR_add (x y c : Rat) : cmpR (x + c) (y + c) = cmpR x y := by
  have e1 : x + c < y + c ↔ x < y := by constructor <;> intro h <;> grind
  have e2 : y + c < x + c ↔ y < x := by constructor <;> intro h <;> grind
  unfold cmpR
  simp only [e1, e2]
theorem cmpR_cases (x y : Rat) : (cmpR x y = -1 ∧ x < y) ∨ (cmpR x y = 0 ∧ x = y) ∨ (cmpR x y = 1 ∧ y < x) := by
  by_cases h : x = y
  · exact .inr (.inl ⟨cmpR_zero.2 h, h⟩)
  unfold cmpR
  by_cases h1 : x < y
  · exact .inl ⟨if_pos h1, h1⟩
  · rw [if_neg h1]
    by_cases h2 : y < x
    · exact .inr (.inr ⟨if_pos h2, h2⟩)
    · exact absurd (Rat.le_antisymm (Rat.not_lt.1 h2) (Rat.not_lt.1 h1)) h
theorem vcmp_anti (a b : V3) : vcmp a b = -vcmp b a := by
  have h1 := cmpR_anti a.x b.x
  have h2 := cmpR_anti a.y b.y
  have h3 := cmpR_anti a.z b.z
  unfold vcmp
  split <;> split <;> (try split) <;> (try split) <;> omega
theorem vcmp_zero (a b : V3) : vcmp a b = 0 ↔ a = b := by
  rw [V3.eq_iff, ← cmpR_zero, ← cmpR_zero, ← cmpR_zero]
  unfold vcmp
  split
  · omega
  · split <;> omega
theorem vcmp_add (a b c : V3) : vcmp (vadd a c) (vadd b c) = vcmp a b := by
  unfold vcmp vadd
  simp only [cmpR_add]
theorem vcmp_three (a b : V3) : vcmp a b = -1 ∨ vcmp a b = 0 ∨ vcmp a b = 1 := by
  have h1 := cmpR_cases a.x b.x
  have h2 := cmpR_cases a.y b.y
  have h3 := cmpR_cases a.z b.z
  unfold vcmp
  split
  · omega
  · split <;> omega
/-- Neither greater: the order by parts. -/
theorem vcmp_le {a b : V3} : ¬ 0 < vcmp a b ↔ (a.x < b.x ∨ (a.x = b.x ∧ (a.y < b.y ∨ (a.y = b.y ∧ a.z ≤ b.z)))) := by
  unfold vcmp
  rcases cmpR_cases a.x b.x with ⟨e, h⟩ | ⟨e, h⟩ | ⟨e, h⟩ <;> rw [e]
  · rw [if_pos (by decide)]
    exact ⟨fun _ => .inl h, fun _ => by decide⟩
  · rw [if_neg (by decide)]
    rcases cmpR_cases a.y b.y with ⟨e2, h2⟩ | ⟨e2, h2⟩ | ⟨e2, h2⟩ <;> rw [e2]
    · rw [if_pos (by decide)]
      exact ⟨fun _ => .inr ⟨h, .inl h2⟩, fun _ => by decide⟩
    · rw [if_neg (by decide)]
      rcases cmpR_cases a.z b.z with ⟨e3, h3⟩ | ⟨e3, h3⟩ | ⟨e3, h3⟩ <;> rw [e3]
      · exact ⟨fun _ => .inr ⟨h, .inr ⟨h2, Rat.le_of_lt h3⟩⟩, fun _ => by decide⟩
      · exact ⟨fun _ => .inr ⟨h, .inr ⟨h2, by rw [h3]; exact Rat.le_refl⟩⟩, fun _ => by decide⟩
      · refine ⟨fun q => absurd (by decide) q, fun q => ?_⟩
        rcases q with q | ⟨_, q | ⟨_, q⟩⟩
        · grind
        · grind
        · grind
    · rw [if_pos (by decide)]
      refine ⟨fun q => absurd (by decide) q, fun q => ?_⟩
      rcases q with q | ⟨_, q | ⟨q, _⟩⟩ <;> grind
  · rw [if_pos (by decide)]
    refine ⟨fun q => absurd (by decide) q, fun q => ?_⟩
    rcases q with q | ⟨q, _⟩ <;> grind
theorem vcmp_trans {a b c : V3} (h1 : ¬ 0 < vcmp a b) (h2 : ¬ 0 < vcmp b c) : ¬ 0 < vcmp a c := by
  rw [vcmp_le] at h1 h2 ⊢
  grind
end Go.KI
namespace Go.Proofs.YtgddookioipjiaaGreatDoor
open Go.RowKit Go.KP Go.KI Go.Shelf
attribute [local go_sem] Oper.semAt_some

/-- The text of a number, as a string. -/
def T (q : Rat) : ByteArray := strB (ratS q)
theorem T_list (q : Rat) : (T q).data.toList = ratS q := strB_list _
theorem T_of {s : ByteArray} {q : Rat} (h : s.data.toList = ratS q) : s = T q := bytes_eq (by rw [h, T_list])
theorem T_inj {p q : Rat} (h : T p = T q) : p = q := ratS_inj (by rw [← T_list, h, T_list])
theorem T_beq (p q : Rat) : ((T p).toList == (T q).toList) = decide (p = q) := by
  rw [ByteArray.toList_eq, ByteArray.toList_eq, T_list, T_list]
  by_cases h : p = q
  · rw [h]
    simp
  · rw [decide_eq_false h]
    exact beq_false_of_ne fun e => h (ratS_inj e)
theorem T_size {q : Rat} (h : fitsQ q) : (T q).size ≤ 1000 := by
  rw [← bytes_len, T_list]
  exact ratS_len h
theorem T0 : T 0 = ⟨#[48]⟩ := by
  apply bytes_eq
  rw [T_list, show (0 : Rat) = ((0 : Int) : Rat) from rfl, ratS_int]
  show Lib.itoa ((0 : Nat) : Int) = _
  rw [Lib.itoa_nonneg, dec_zero]
/-- A result that is a number or ErrLimit. -/
def ResO (w : World) (o : Option Rat) (e : Ending) (w' : World) : Prop := (∃ v, o = some v ∧ Ret w (.tuple #[.string (T v), .int .i64 0]) e w') ∨ (o = none ∧ Ret w (.tuple #[.string ⟨#[]⟩, .int .i64 4]) e w')
theorem ResO.of {w : World} {o : Option Rat} {x : Rat} (h : o = some x) {e : Ending} {w' : World} (hr : ResO w o e w') : Ret w (.tuple #[.string (T x), .int .i64 0]) e w' := by
  rcases hr with ⟨v, h1, h2⟩ | ⟨h1, _⟩
  · rw [h] at h1
    cases h1
    exact h2
  · rw [h] at h1
    cases h1
/-- A function of two numbers. -/
structure BinFn (g : Nat) (F : Rat → Rat → Option Rat) : Prop where
  enters : ∀ args w, (callFunc g args).run Tryz.prog w = .ok (.enter g args) w
  calls : ∀ (x y : Rat) (B : Nat) (w : World), fitsQ x → fitsQ y → B ≤ w.heap.size → PQ B w → Calls Tryz.prog g #[.string (T x), .string (T y)] w (ResO w (F x y))
theorem T_good {x : Rat} (f : fitsQ x) : (T x).size ≤ 1000000 ∧ chkQ (T x).data.toList = 0 ∧ valQ (T x).data.toList = x := by
  have := T_size f
  rw [T_list, ratS_num]
  exact ⟨by omega, chkQ_fits f, rfl⟩
theorem resO_of (C : Rat → Rat → Prop) [∀ x y, Decidable (C x y)] (f : Rat → Rat → Rat) (F : Rat → Rat → Option Rat) (hF : ∀ x y, F x y = if C x y then some (f x y) else none) {x y : Rat} (hx : fitsQ x) (hy : fitsQ y) {w w' : World} {e : Ending}
    (h : Ret w (pairV (qopS C f (T x).data.toList (T y).data.toList) (qopE C (T x).data.toList (T y).data.toList)) e w') : ResO w (F x y) e w' := by
  obtain ⟨_, a1, a2⟩ := T_good hx
  obtain ⟨_, b1, b2⟩ := T_good hy
  unfold qopS qopE at h
  rw [if_pos (zero_bothQ a1 b1), if_pos (zero_bothQ a1 b1), a2, b2] at h
  rw [hF]
  by_cases hc : C x y
  · rw [if_pos hc, if_pos hc] at h
    rw [if_pos hc]
    exact .inl ⟨_, rfl, h⟩
  · rw [if_neg hc, if_neg hc] at h
    rw [if_neg hc]
    exact .inr ⟨rfl, h⟩
theorem qadd_O {x y : Rat} (hx : fitsQ x) (hy : fitsQ y) (B : Nat) (w : World) (hB : B ≤ w.heap.size) (hT : PQ B w) :
    Calls Tryz.prog 30 #[.string (T x), .string (T y)] w (ResO w (addO x y)) :=
  (qAdd_any _ _ (T_good hx).1 (T_good hy).1 B w hB hT).mono fun _ _ h => resO_of addC (· + ·) addO (fun _ _ => rfl) hx hy h
theorem qsub_O {x y : Rat} (hx : fitsQ x) (hy : fitsQ y) (B : Nat) (w : World) (hB : B ≤ w.heap.size) (hT : PQ B w) :
    Calls Tryz.prog 37 #[.string (T x), .string (T y)] w (ResO w (subO x y)) :=
  (qSub_any _ _ (T_good hx).1 (T_good hy).1 B w hB hT).mono fun _ _ h => resO_of subC (· - ·) subO (fun _ _ => rfl) hx hy h
theorem qmul_O {x y : Rat} (hx : fitsQ x) (hy : fitsQ y) (B : Nat) (w : World) (hB : B ≤ w.heap.size) (hT : PQ B w) :
    Calls Tryz.prog 55 #[.string (T x), .string (T y)] w (ResO w (mulO x y)) :=
  (qMul_any _ _ (T_good hx).1 (T_good hy).1 B w hB hT).mono fun _ _ h => resO_of mulC (· * ·) mulO (fun _ _ => rfl) hx hy h
theorem addB : BinFn 30 addO := ⟨enters_of Tryz.func30 (by kernel_rfl) rfl, fun _ _ B w hx hy hB hT => qadd_O hx hy B w hB hT⟩
theorem subB : BinFn 37 subO := ⟨enters_of Tryz.func37 (by kernel_rfl) rfl, fun _ _ B w hx hy hB hT => qsub_O hx hy B w hB hT⟩
theorem mulB : BinFn 55 mulO := ⟨enters_of Tryz.func55 (by kernel_rfl) rfl, fun _ _ B w hx hy hB hT => qmul_O hx hy B w hB hT⟩
theorem qchk_T {x : Rat} (hx : fitsQ x) (B : Nat) (w : World) (hB : B ≤ w.heap.size) (hT : PQ B w) :
    Calls Tryz.prog 54 #[.string (T x)] w (Ret w (.int .i64 0)) := by
  have h := qCheck_any _ (T_good hx).1 B w hB hT
  rw [(T_good hx).2.1] at h
  exact h
theorem qcmp_T {x y : Rat} (hx : fitsQ x) (hy : fitsQ y) (hc : cmpC x y) (B : Nat) (w : World) (hB : B ≤ w.heap.size) (hT : PQ B w) :
    Calls Tryz.prog 28 #[.string (T x), .string (T y)] w (Ret w (.tuple #[.int .i64 (cmpR x y), .int .i64 0])) :=
  qcmp_to (T_list x) (T_list y) hx hy hc B w hB hT
end Go.Proofs.YtgddookioipjiaaGreatDoor
namespace Go.KP
open Go
/-- **A region that draws its order: quiet in the class C.** -/
theorem region_class {P : Program} {C : World → Prop} {id : Nat} {Q : Exit → Act → World → Prop} {a : Act} {w : World} {l : List Oper} (hm : P.follows .mixedOrders = true) (hno : Region.noSelect l.toArray = true)
    (hlex : Region.lexFrom .any l.toArray l.length 0 (Array.replicate l.length false) = true) (hC : C { w with drawn := w.drawn + 1 })
    (h : wpQuiet P l.toArray C (fun a' => ∀ w', C w' → Q .normal a' w') l a) : (Code.region id l.toArray true).wp P Q a w := by
  refine wp_region_any hm ?_
  have h1 := wpAnyQ_lex (P := P) (C := C) (md := .any) hno l 0 (Array.replicate l.length false) a (by simp) hlex h
  have e : l.toArray.size = l.length := by simp
  rw [e]
  exact wpAny_of_quiet (C := C) (Q := fun a' => ∀ w', C w' → Q .normal a' w') (fun _ w' hw h => h w' hw) _ _ _ _ hC h1
end Go.KP
namespace Go.Proofs.YtgddookioipjiaaGreatDoor
open Go.RowKit Go.KP Go.KI Go.Shelf
attribute [local go_sem] Oper.semAt_some

abbrev rpairV (n d : ByteArray) : Value := .agg #[.string n, .string d]
abbrev rpairO (n d : ByteArray) : Obj := .cells #[.string n, .string d] 57
def numB (q : Rat) : ByteArray := strB (Lib.itoa q.num)
def denB (q : Rat) : ByteArray := strB (Lib.itoa (q.den : Int))
theorem exit_rpair {f : Func} {R : Ending → World → Prop} {a : Act} {W : World} {b : Nat} {t : Tmp} {n d : ByteArray} (hf : f.results = #[.cell t 57]) (hb : W.heap[b]? = some (rpairO n d)) (h2 : a.tmps[t]? = some (.pointer (some ⟨b, 0, none⟩))) (hd : a.defers = []) (hR : R (.returned (rpairV n d)) W) :
    bodyPost Tryz.prog f R .ret a W := by
  have hcell := fun o => cell_blk hb o
  refine bodyPost_ret ?_ hd hR
  simp [results, hf, go_sem, hcell, h2]
set_option maxRecDepth 100000 in
set_option maxHeartbeats 4000000 in
theorem rOf_T {q : Rat} (fq : fitsQ q) (B : Nat) (w : World) (hB : B ≤ w.heap.size) (hT : PQ B w) :
    Calls Tryz.prog 40 #[.string (T q)] w (Ret w (rpairV (numB q) (denB q))) := by
  have HT := hide hT
  have H1 : Hid (∀ w, B ≤ w.heap.size → PQ B w → Calls Tryz.prog 94 #[.string (T q)] w (Ret w (.tuple #[.string (numB q), .string (denB q), .int .i64 0]))) := hide (fun w hB hT => by
    have h := qParts_any (T q) (T_good fq).1 B w hB hT
    obtain ⟨_, g2, g3⟩ := T_good fq
    unfold partsR at h
    rw [if_pos g2, g3] at h
    exact h)
  obtain ⟨X, hX⟩ : ∃ X, X = T q := ⟨_, rfl⟩
  obtain ⟨N, hN⟩ : ∃ X, X = numB q := ⟨_, rfl⟩
  obtain ⟨D, hD⟩ : ∃ X, X = denB q := ⟨_, rfl⟩
  rw [← hX, ← hN, ← hD] at H1 ⊢
  clear hX hN hD hT fq
  have X0 := hide (heap1 w (rpairO ⟨#[]⟩ ⟨#[]⟩))
  go_enter Tryz.func40, Tryz.ntmps40
  go_wp2_with fail
  refine (H1.out _ (Nat.le_trans hB X0.out.2.2.size) (HT.out.on X0.out.2.2 hB)).mono ?_
  rintro e w1 ⟨rfl, hb1⟩
  have A1 := hide (below_blk hb1 X0.out.1 (lt_blk X0.out.1))
  have HB1 := hide (X0.out.2.2.trans (hb1.mono X0.out.2.2.size))
  have a0 := cell_blk A1.out 0
  have a1 := cell_blk A1.out 1
  have f0 := froz_blk A1.out 0
  have f1 := froz_blk A1.out 1
  have al := lt_blk A1.out
  clear hb1
  go_wp2_with fail
  exact exit_rpair rfl (set2 A1.out _ _).1 rfl rfl ⟨rfl, (HB1.out.setCell (p := ⟨w.heap.size, 0, none⟩) (Nat.le_refl _) _).setCell (p := ⟨w.heap.size, 1, none⟩) (Nat.le_refl _) _⟩
/-- A row of numbers' texts in the memory. -/
def NumsAt (w : World) (b : Nat) (l : List Rat) : Prop := b < w.heap.size ∧ ∀ (i : Nat) q, l[i]? = some q → w.cell? ⟨b, i, none⟩ = some (.string (T q))
theorem NumsAt.below {w w2 : World} {b : Nat} {l : List Rat} {n : Nat} (h : NumsAt w b l) (hb : Below n w w2) (hn : b < n) : NumsAt w2 b l :=
  ⟨Nat.lt_of_lt_of_le h.1 hb.size, fun i q hq => by rw [← h.2 i q hq]; exact hb.cell (p := ⟨b, i, none⟩) hn⟩
/-- Numbers whose roots can be taken: parts of at most 90 digits. -/
def roomy (q : Rat) : Prop := fitsQ q ∧ (Lib.decDigits q.num.natAbs).length ≤ 90 ∧ (Lib.decDigits q.den).length ≤ 90
theorem roomy_of {q : Rat} {p : Nat} (h : sz p q) (hp : p ≤ 90) : roomy q := by
  exact ⟨sz_fits h (by rw [most_eq]; omega), (dec_len_le (n := 90) (by omega)).2 (sz_mono h hp).1, (dec_len_le (n := 90) (by omega)).2 (sz_mono h hp).2⟩
set_option maxRecDepth 100000 in
set_option maxHeartbeats 8000000 in
theorem rCheck_ok (b1 b2 : Nat) (l1 l2 : List Rat) (n1 : l1.length ≤ 1000) (n2 : l2.length ≤ 1000) (h1 : ∀ q ∈ l1, roomy q) (h2 : ∀ q ∈ l2, ¬ q.num < 0) (B : Nat) (w : World) (c1 : NumsAt w b1 l1) (c2 : NumsAt w b2 l2) (hB : B ≤ w.heap.size) (hT : PQ B w) :
    Calls Tryz.prog 39 #[.slice (some ⟨b1, 0, none⟩) l1.length l1.length, .slice (some ⟨b2, 0, none⟩) l2.length l2.length] w (Ret w (.int .i64 0)) := by
  have HT := hide hT
  obtain ⟨n, hn⟩ : ∃ n, n = l1.length := ⟨_, rfl⟩
  obtain ⟨m, hm⟩ : ∃ n, n = l2.length := ⟨_, rfl⟩
  rw [← hn] at n1 ⊢
  rw [← hm] at n2 ⊢
  have C1 := hide c1
  have C2 := hide c2
  have N1 := hide hn
  have N2 := hide hm
  have R1 := hide h1
  have R2 := hide h2
  clear c1 c2 hn hm h1 h2 hT
  go_enter Tryz.func39, Tryz.ntmps39
  go_wp2_with fail
  go_loopw [13] (fun i wr => ∃ k : Nat, k ≤ n ∧ i = .int .i64 k ∧ Hid (Below w.heap.size w wr)) (fun i _ => n - (intOf i).toNat)
  case atStart => exact ⟨0, Nat.zero_le _, rfl, Below.refl _ _⟩
  case round =>
    obtain ⟨k, hk, rfl, hin⟩ := hrel
    obtain ⟨wo, hwo⟩ : ∃ wo, wo = wr := ⟨_, rfl⟩
    subst hwo
    by_cases hlt : k < n
    · have hki : (k : Int) < (n : Int) := by omega
      have hk0 : (0 : Int) ≤ (k : Int) := by omega
      obtain ⟨q, hs⟩ : ∃ s, l1[k]? = some s := ⟨_, List.getElem?_eq_getElem (by rw [← N1.out]; exact hlt)⟩
      have hq := R1.out q (List.mem_of_getElem? hs)
      have hcell := (C1.out.below hin.out C1.out.1).2 k q hs
      have HC : Hid (∀ w, B ≤ w.heap.size → PQ B w → Calls Tryz.prog 54 #[.string (T q)] w (Ret w (.int .i64 0))) := hide (fun w hB hT => by
        have h := qCheck_any (T q) (T_good hq.1).1 B w hB hT
        rw [(T_good hq.1).2.1] at h
        exact h)
      have HO := hide (fun w hB hT => rOf_T hq.1 B w hB hT)
      obtain ⟨D, hD⟩ : ∃ X, X = denB q := ⟨_, rfl⟩
      obtain ⟨N, hN⟩ : ∃ X, X = numB q := ⟨_, rfl⟩
      have HTP := hide (fun w => trimPrefix_any N w)
      rw [show N.data.toList = Lib.itoa q.num by rw [hN]; exact strB_list _, digs_itoa] at HTP
      have hDs : (D.size : Int) ≤ 90 := by
        have := hq.2.2
        rw [hD]
        unfold denB
        rw [strB_size, Lib.itoa_nonneg]
        omega
      obtain ⟨M, hM⟩ : ∃ X, X = strB (Lib.decDigits q.num.natAbs) := ⟨_, rfl⟩
      have hMs : (M.size : Int) ≤ 90 := by
        have := hq.2.1
        rw [hM, strB_size]
        omega
      have hmx : ((90 : Int) < max (M.size : Int) (D.size : Int)) = False := eq_false (by omega)
      obtain ⟨X, hX⟩ : ∃ X, X = T q := ⟨_, rfl⟩
      rw [← hM] at HTP
      rw [← hN, ← hD] at HO
      rw [← hX] at HO HC hcell
      clear hs hq hD hN hM hX hlt
      go_wp2_with fail
      refine (HC.out _ (Nat.le_trans hB hin.out.size) (HT.out.on hin.out hB)).mono ?_
      rintro e w1 ⟨rfl, hb1⟩
      have HB1 := hide (hin.out.trans (hb1.mono hin.out.size))
      clear hb1 hcell
      go_wp2_with fail
      refine (HO.out _ (Nat.le_trans hB HB1.out.size) (HT.out.on HB1.out hB)).mono ?_
      rintro e w2 ⟨rfl, hb2⟩
      have X2 := hide (heap1 w2 (rpairO N D))
      have G2 := hide X2.out.1
      have HB2 := hide (HB1.out.trans ((hb2.trans (X2.out.2.2.mono hb2.size)).mono HB1.out.size))
      clear hb2
      go_wp2_with fail
      obtain ⟨W, hW⟩ : ∃ W, W = w2.alloc (rpairO N D) := ⟨_, rfl⟩
      rw [← hW] at G2 HB2 ⊢
      clear hW X2
      have HTC := hide (fun (x : Of (Below W.heap.size W)) => show Calls Tryz.prog 92 #[.string N, .string ⟨#[45]⟩] x.w fun e w' => e = .returned (.string M) ∧ Cls (Below W.heap.size W) w' from (HTP.out x.w).mono fun _ _ ⟨h, hb⟩ => ⟨h, by rw [← hb]; exact Cls.mk x.h⟩)
      have hx1 : ∀ x : Of (Below W.heap.size W), ∀ o, x.w.cell? ⟨w2.heap.size, o, none⟩ = W.cell? ⟨w2.heap.size, o, none⟩ := fun x o => x.h.cell (p := ⟨w2.heap.size, o, none⟩) (lt_blk G2.out)
      have cc1 := fun o => cell_blk G2.out o
      have kn : Nonempty (Of (Below W.heap.size W)) := ⟨⟨_, Below.refl _ _⟩⟩
      refine region_class (C := Cls (Below W.heap.size W)) (by kernel_rfl) (by kernel_rfl) (by kernel_rfl) (Cls.mk (Below.refl _ _).drew) ?_
      repeat (go_big_quiet_step (first | rfl | with_reducible exact HTC.out _))
      refine wpQuiet_nil ?_
      intro w3 hcl
      have HB3 := hide (HB2.out.trans (hcl.out.mono HB2.out.size))
      clear hcl hx1 cc1 HTC kn
      go_wp2_with fail
      go_roundw
      case rel => exact ⟨k + 1, by omega, by simp, HB3.out⟩
      case measure => simp [intOf]; omega
    · obtain rfl : k = n := by omega
      have hki : ((k : Int) < (k : Int)) = False := eq_false (by omega)
      clear hlt
      go_wp2_with fail
      go_loopw [36] (fun i wr => ∃ k : Nat, k ≤ m ∧ i = .int .i64 k ∧ wr = wo) (fun i _ => m - (intOf i).toNat)
      case atStart => exact ⟨0, Nat.zero_le _, rfl, rfl⟩
      case round =>
        obtain ⟨j, hj, rfl, rfl⟩ := hrel
        by_cases hlt : j < m
        · have hji : (j : Int) < (m : Int) := by omega
          have hj0 : (0 : Int) ≤ (j : Int) := by omega
          obtain ⟨q, hs⟩ : ∃ s, l2[j]? = some s := ⟨_, List.getElem?_eq_getElem (by rw [← N2.out]; exact hlt)⟩
          have hq := R2.out q (List.mem_of_getElem? hs)
          have hcell := (C2.out.below hin.out C2.out.1).2 j q hs
          have HN := hide (rNegative_at (T q) wr)
          have e : ((T q).data.toList.head? == some 45) = false := by
            rw [T_list]
            simp only [beq_eq_false_iff_ne, ne_eq]
            exact fun e => by have := ratS_head.1 e; omega
          rw [e] at HN
          clear hs hq e hlt
          go_wp2_with fail
          refine HN.out.mono ?_
          rintro e w1 ⟨rfl, rfl⟩
          go_wp2_with fail
          go_roundw
          case rel => exact ⟨j + 1, by omega, by simp, trivial⟩
          case measure => simp [intOf]; omega
        · obtain rfl : j = m := by omega
          have hji : ((j : Int) < (j : Int)) = False := eq_false (by omega)
          clear hlt
          go_wp2_with fail
          go_ret
          exact ⟨rfl, hin.out⟩
/-- What Normal returns of a positive number. -/
def normC (q : Rat) : Rat := Rat.divInt (normN (q.num.toNat * q.den)).1 q.den
def normL (q : Rat) : Nat := (normN (q.num.toNat * q.den)).2
set_option maxRecDepth 100000 in
set_option maxHeartbeats 8000000 in
theorem rNormal_small {q : Rat} (fq : roomy q) (h0 : 0 < q.num) (hs : (numB q).size + (denB q).size ≤ 17) (B : Nat) (w : World) (hB : B ≤ w.heap.size) (hT : PR B w) :
    Calls Tryz.prog 14 #[.string (T q)] w (Ret w (.tuple #[.string (T (normC q)), .string (strB (Lib.itoa (normL q))), .int .i64 0])) := by
  have HT := hide hT
  have X0 := hide (heap2 w (.cells #[.string (T q)] 22) (.cells #[.string (T q)] 22))
  have HC := hide (rCheck_ok w.heap.size (w.heap.size + 1) [q] [q] (by simp) (by simp) (fun x hx => by simp at hx; rw [hx]; exact fq) (fun x hx => by simp at hx; rw [hx]; omega) B _ ⟨lt_blk X0.out.1, fun i x hx => by
    cases i with
    | zero => simp at hx; rw [← hx]; exact cell_blk X0.out.1 0
    | succ i => simp at hx⟩ ⟨lt_blk X0.out.2.1, fun i x hx => by
    cases i with
    | zero => simp at hx; rw [← hx]; exact cell_blk X0.out.2.1 0
    | succ i => simp at hx⟩ (Nat.le_trans hB X0.out.2.2.2.size) (hT.pq.on X0.out.2.2.2 hB))
  have HO := hide (fun w hB hT => rOf_T fq.1 B w hB hT)
  have hn : q.num = ((q.num.toNat : Nat) : Int) := by omega
  obtain ⟨n, hnn⟩ : ∃ n, n = q.num.toNat := ⟨_, rfl⟩
  obtain ⟨d, hdd⟩ : ∃ n, n = q.den := ⟨_, rfl⟩
  have hd0 : 0 < d := by rw [hdd]; exact q.den_pos
  have hn0 : 0 < n := by omega
  obtain ⟨N, hN⟩ : ∃ X, X = numB q := ⟨_, rfl⟩
  obtain ⟨D, hD⟩ : ∃ X, X = denB q := ⟨_, rfl⟩
  have eN : N.data.toList = Lib.itoa (n : Int) := by rw [hN]; unfold numB; rw [strB_list, hn, ← hnn]
  have eD : D.data.toList = Lib.itoa (d : Int) := by rw [hD]; unfold denB; rw [strB_list, ← hdd]
  rw [← hN, ← hD] at hs HO
  have szN : (Lib.decDigits n).length = N.size := by rw [← bytes_len, eN, Lib.itoa_nonneg]
  have szD : (Lib.decDigits d).length = D.size := by rw [← bytes_len, eD, Lib.itoa_nonneg]
  have p1 := dec_lt n
  have p2 := dec_lt d
  have hprod : n * d < 1000000000000000000 := by
    have h1 : n * d ≤ 10 ^ (Lib.decDigits n).length * 10 ^ (Lib.decDigits d).length := Nat.mul_le_mul (Nat.le_of_lt p1) (Nat.le_of_lt p2)
    rw [← Nat.pow_add] at h1
    have h2 : 10 ^ ((Lib.decDigits n).length + (Lib.decDigits d).length) ≤ 10 ^ 17 := Nat.pow_le_pow_right (by omega) (by omega)
    have h3 : (10 : Nat) ^ 17 = 100000000000000000 := by decide
    omega
  have gN : chkI N.data.toList = 0 ∧ valI N.data.toList = (n : Int) := by rw [eN]; exact ⟨chk_fits (fits_nat.2 (by omega)), val_itoa _⟩
  have gD : chkI D.data.toList = 0 ∧ valI D.data.toList = (d : Int) := by rw [eD]; exact ⟨chk_fits (fits_nat.2 (by omega)), val_itoa _⟩
  have H1 := hide (fun w => rNative_yes N gN.1 (by have := dec_len_pos d; omega) w)
  have H2 := hide (fun w => rNative_yes D gD.1 (by have := dec_len_pos n; omega) w)
  rw [gN.2] at H1
  rw [gD.2] at H2
  have HN := hide (fun w hB hT => rNativeNormal_any n d hn0 hd0 hprod B w hB hT)
  have eV : T (normC q) = strB (ratS (Rat.divInt (normN (n * d)).1 d)) := by unfold T normC; rw [← hnn, ← hdd]
  have eL : strB (Lib.itoa (normL q)) = strB (Lib.itoa (normN (n * d)).2) := by unfold normL; rw [← hnn, ← hdd]
  rw [eV, eL]
  obtain ⟨V1, hV1⟩ : ∃ V, V = strB (ratS (Rat.divInt (normN (n * d)).1 d)) := ⟨_, rfl⟩
  obtain ⟨V2, hV2⟩ : ∃ V, V = strB (Lib.itoa (normN (n * d)).2) := ⟨_, rfl⟩
  rw [← hV1, ← hV2] at HN ⊢
  have hz : (N.toList == [48]) = false := (lit_eq eN).2 (by
    rw [Lib.itoa_nonneg, ← dec_zero]
    exact fun e => by have := dec_inj e; omega)
  obtain ⟨X, hX⟩ : ∃ X, X = T q := ⟨_, rfl⟩
  rw [← hX] at HC HO X0 ⊢
  have hsz : (N.size : Int) + (D.size : Int) ≤ 17 := by omega
  clear eV eL hV1 hV2 gN gD hprod p1 p2 szN szD eN eD hN hD hn hnn hdd hs fq h0 hT hX
  go_enter Tryz.func14, Tryz.ntmps14
  go_wp2_with fail
  refine HC.out.mono ?_
  rintro e w1 ⟨rfl, hb1⟩
  have HB1 := hide (X0.out.2.2.2.trans (hb1.mono X0.out.2.2.2.size))
  clear hb1 HC X0
  go_wp2_with fail
  refine (HO.out _ (Nat.le_trans hB HB1.out.size) (HT.out.on HB1.out hB).pq).mono ?_
  rintro e w2 ⟨rfl, hb2⟩
  have X2 := hide (heap1 w2 (rpairO N D))
  have G2 := hide X2.out.1
  have HB2 := hide (HB1.out.trans ((hb2.trans (X2.out.2.2.mono hb2.size)).mono HB1.out.size))
  clear hb2 X2
  have k0 := cell_blk G2.out 0
  have k1 := cell_blk G2.out 1
  have kl := lt_blk G2.out
  go_wp2_with fail
  refine (H1.out _).mono ?_
  rintro e w3 ⟨rfl, hb3⟩
  have G3 := hide (below_blk hb3 G2.out (lt_blk G2.out))
  have HB3 := hide (HB2.out.trans (hb3.mono HB2.out.size))
  clear hb3 k0 k1 kl
  have k1 := cell_blk G3.out 1
  have kl := lt_blk G3.out
  go_wp2_with fail
  refine (H2.out _).mono ?_
  rintro e w4 ⟨rfl, hb4⟩
  have HB4 := hide (HB3.out.trans (hb4.mono HB3.out.size))
  clear hb4 k1 kl
  go_wp2_with fail
  refine (HN.out _ (Nat.le_trans hB HB4.out.size) (HT.out.on HB4.out hB)).mono ?_
  rintro e w5 ⟨rfl, hb5⟩
  have HB5 := hide (HB4.out.trans (hb5.mono HB4.out.size))
  clear hb5
  go_wp2_with fail
  go_ret3
  exact ⟨rfl, HB5.out⟩
end Go.Proofs.YtgddookioipjiaaGreatDoor
namespace Go.Proofs.YtgddookioipjiaaGreatDoor
open Go.RowKit Go.KP Go.KI Go.Shelf
attribute [local go_sem] Oper.semAt_some

set_option maxRecDepth 100000 in
set_option maxHeartbeats 2000000 in
theorem Root_small (s : ByteArray) (n : Nat) (B : Nat) (w : World) (c1 : chkI s.data.toList = 0) (hs : s.size ≤ 18) (hn : valI s.data.toList = (n : Int)) (h0 : 0 < n) (hB : B ≤ w.heap.size) (hT : P10 B w) :
    Calls Tryz.prog 81 #[.string s] w (Ret w (pairV (Lib.itoa ((rootN n : Nat) : Int)) 0)) := by
  have HT := hide hT
  have H1 := hide (check_any s (by omega) w)
  rw [c1] at H1
  have HSR := hide (fun w2 (hb : Below w.heap.size w w2) => smallRoot_any s n B w2 c1 hs hn h0 (Nat.le_trans hB hb.size) (hT.on hb hB))
  have HRD := hide (fun w => read_good s c1 w)
  have hsi := (chk_ok c1).1
  rw [hn, Lib.itoa_nonneg] at hsi
  have hne : s.data.toList ≠ [] := by rw [hsi]; exact decDigits_ne _
  obtain ⟨hp, hh⟩ := bytes_head hne
  have hp0 : (0 : Int) < (s.size : Int) := by omega
  have h45 : ((s[0].toNat : Int) == 45) = false := by
    have h1 : s[0] ≠ 45 := fun e => by
      rw [e, hsi] at hh
      exact dec_head45 _ hh
    have : s[0].toNat ≠ 45 := fun h => h1 (UInt8.toNat_inj.1 h)
    simp only [beq_eq_false_iff_ne, ne_eq]
    omega
  have hz : (s.toList == [48]) = false := by
    rw [ByteArray.toList_eq]
    have : s.data.toList ≠ [48] := fun e => by
      have h2 := hn
      rw [e, ← itoa_zero, val_itoa] at h2
      omega
    simpa using this
  have hl18 : (s.size : Int) ≤ 18 := by omega
  clear hsi hne hh c1 hs hn hT
  have hfd : ∀ (w : World) (m : Bool) (a : Option Addr) (n c : Nat), (Instr.field 128 (.agg #[.bool m, .slice a n c]) 1).run Tryz.prog w = .ok (.slice a n c) w := fun _ _ _ _ _ => by kernel_rfl
  go_enter Tryz.func81, Tryz.ntmps81
  go_wp2_with fail
  refine H1.out.mono ?_
  rintro e w1 ⟨rfl, hb1⟩
  have HB1 := hide hb1
  clear hb1 H1
  go_wp2_with fail
  refine (HRD.out _).mono ?_
  rintro e w2 ⟨m1, a1, l1, rfl, hb2, o1, n1, q1, k1⟩
  obtain ⟨av, cv, hvf, _, _⟩ := o1.form
  subst hvf
  have HB2 := hide (HB1.out.trans (hb2.mono HB1.out.size))
  clear hb2 HRD o1 n1 q1 HB1 k1
  go_wp2_with fail
  refine (HSR.out _ HB2.out).mono ?_
  rintro e w3 ⟨rfl, hb3⟩
  have HB3 := hide (HB2.out.trans (hb3.mono HB2.out.size))
  clear hb3 HSR HB2
  go_wp2_with fail
  refine bodyPost_ret (results_tmp2 rfl _ _ _) rfl ?_
  exact ⟨rfl, HB3.out⟩
end Go.Proofs.YtgddookioipjiaaGreatDoor
namespace Go.Proofs.YtgddookioipjiaaGreatDoor
open Go.RowKit Go.KP Go.KI Go.Shelf
attribute [local go_sem] Oper.semAt_some

theorem dv_zeros (k : Nat) : dv ([49] ++ List.replicate k 48) = 10 ^ k := by
  have hz : ∀ n, dv (List.replicate n (48 : UInt8)) = 0 := by
    intro n
    induction n with
    | zero => rfl
    | succ n ih => rw [List.replicate_succ', dv_snoc, ih]; rfl
  rw [dv_append, hz, List.length_replicate]
  show (0 * 10 + (49 - 48)) * 10 ^ k + 0 = 10 ^ k
  omega
/-- The text from which the root is sought. -/
theorem start_text (k : Nat) (hk : k ≤ 200) : chkI ([49] ++ List.replicate k 48) = 0 ∧ valI ([49] ++ List.replicate k 48) = ((10 ^ k : Nat) : Int) := by
  have e : [49] ++ List.replicate k 48 = Lib.itoa ((10 ^ k : Nat) : Int) := by
    rw [Lib.itoa_nonneg]
    have h := dec_of (l := [49] ++ List.replicate k 48) (by simp) (fun c hc => by
      rcases List.mem_append.1 hc with h | h
      · simp at h; rw [h]; rfl
      · rw [List.eq_of_mem_replicate h]; rfl) (fun _ => by simp)
    rw [dv_zeros] at h
    exact h
  rw [e, val_itoa]
  refine ⟨chk_fits (fits_small (n := 201) (by rw [most_eq]; omega) ?_), rfl⟩
  rw [Int.natAbs_natCast]
  exact (Nat.pow_lt_pow_iff_right (by omega)).2 (by omega)
theorem root_start {n k len : Nat} (h : n < 10 ^ len) (hk : len ≤ 2 * k) : rootN n ≤ 10 ^ k := by
  refine root_le_of ?_
  have h1 : (10 : Nat) ^ len ≤ 10 ^ (2 * k) := Nat.pow_le_pow_right (by omega) hk
  have h2 : (10 : Nat) ^ (2 * k) = 10 ^ k * 10 ^ k := by rw [← Nat.pow_add]; congr 1; omega
  have h3 : 10 ^ k * 10 ^ k ≤ (10 ^ k + 1) * (10 ^ k + 1) := Nat.mul_le_mul (by omega) (by omega)
  omega
theorem two_lt : Norm 1000000000 [2] := ⟨fun z hz => by simp at hz; omega, .inr (by decide)⟩
set_option maxRecDepth 100000 in
set_option maxHeartbeats 8000000 in
theorem Root_long (s : ByteArray) (n : Nat) (B : Nat) (w : World) (c1 : chkI s.data.toList = 0) (hs : 18 < s.size) (hn : valI s.data.toList = (n : Int)) (h0 : 0 < n) (hB : B ≤ w.heap.size) (hT : P10 B w) :
    Calls Tryz.prog 81 #[.string s] w (Ret w (pairV (resS ((rootN n : Nat) : Int)) (resE ((rootN n : Nat) : Int)))) := by
  have HT := hide hT
  have l1' := (chk_digs c1).2
  rw [bytes_len] at l1'
  have H1 := hide (check_any s (by omega) w)
  rw [c1] at H1
  have HRD := hide (fun w => read_good s c1 w)
  have hsi := (chk_ok c1).1
  rw [hn, Lib.itoa_nonneg] at hsi
  have hne : s.data.toList ≠ [] := by rw [hsi]; exact decDigits_ne _
  obtain ⟨hp, hh⟩ := bytes_head hne
  have hp0 : (0 : Int) < (s.size : Int) := by omega
  have h45 : ((s[0].toNat : Int) == 45) = false := by
    have h1 : s[0] ≠ 45 := fun e => by
      rw [e, hsi] at hh
      exact dec_head45 _ hh
    have : s[0].toNat ≠ 45 := fun h => h1 (UInt8.toNat_inj.1 h)
    simp only [beq_eq_false_iff_ne, ne_eq]
    omega
  have hz : (s.toList == [48]) = false := by
    rw [ByteArray.toList_eq]
    have : s.data.toList ≠ [48] := fun e => by
      have h2 := hn
      rw [e, ← itoa_zero, val_itoa] at h2
      omega
    simpa using this
  have hl18 : ((s.size : Int) ≤ 18) = False := eq_false (by omega)
  obtain ⟨k, hk⟩ : ∃ k, k = (s.size + 1) / 2 := ⟨_, rfl⟩
  have hki : ((s.size : Int) + 1) / 2 = (k : Int) := by omega
  have hkl : k ≤ 200 := by omega
  obtain ⟨st1, st2⟩ := start_text k hkl
  obtain ⟨rp, hrp⟩ : ∃ rp, rp = strB (Lib.repeatL [48] k) := ⟨_, rfl⟩
  have hrpl : rp.data.toList = List.replicate k 48 := by rw [hrp, strB_list, repeat48]
  have hrps : rp.size ≤ 200 := by rw [← bytes_len, hrpl, List.length_replicate]; exact hkl
  have HRP := hide (fun w => repeat_any ⟨#[48]⟩ k w (by omega) (by decide))
  rw [show (⟨#[48]⟩ : ByteArray).data.toList = [48] from rfl, ← hrp] at HRP
  have hcat : ((⟨#[49]⟩ : ByteArray) ++ rp).data.toList = [49] ++ List.replicate k 48 := by
    rw [← hrpl]
    simp
  rw [← hcat] at st1 st2
  have HRX := hide (fun w => read_good (⟨#[49]⟩ ++ rp) st1 w)
  have HST := hide (show rootN n ≤ 10 ^ k by
    refine root_start (len := s.size) ?_ (by omega)
    have := dec_lt n
    rw [← hsi, bytes_len] at this
    exact this)
  have hcs : (9223372036854775807 < (⟨#[49]⟩ : ByteArray).size + rp.size) = False := eq_false (by
    have : (⟨#[49]⟩ : ByteArray).size = 1 := rfl
    omega)
  have HS2 := hide st2; have H0 := hide h0; have HN := hide hn
  have hfd : ∀ (w : World) (m : Bool) (a : Option Addr) (n c : Nat), (Instr.field 128 (.agg #[.bool m, .slice a n c]) 1).run Tryz.prog w = .ok (.slice a n c) w := fun _ _ _ _ _ => by kernel_rfl
  clear hsi hne hh c1 hs hn hT l1' hk st1 st2 hrp hrpl hcat h0
  go_enter Tryz.func81, Tryz.ntmps81
  go_wp2_with fail
  refine H1.out.mono ?_
  rintro e w1 ⟨rfl, hb1⟩
  have HB1 := hide hb1
  clear hb1 H1
  go_wp2_with fail
  refine (HRD.out _).mono ?_
  rintro e w2 ⟨m1, a1, l1, rfl, hb2, o1, n1, q1, k1⟩
  obtain ⟨av, cv, hvf, _, _⟩ := o1.form
  subst hvf
  have HB2 := hide (HB1.out.trans (hb2.mono HB1.out.size))
  have O1 := hide (LimbAt.of_own o1); have N1 := hide n1
  have E1 := hide (show lv 1000000000 l1 = n by
    have h := HN.out
    rw [← q1] at h
    have := valS_abs m1 (lv 1000000000 l1)
    rw [h] at this
    omega)
  clear hb2 HRD o1 n1 q1 HB1
  go_wp2_with fail
  refine (HRP.out _).mono ?_
  rintro e w3 ⟨rfl, hb3⟩
  have O3 := hide ((O1.out.below hb3 (Nat.le_refl _)).mono hb3.size)
  have HB3 := hide (HB2.out.trans (hb3.mono HB2.out.size))
  clear hb3 HRP HB2 O1
  go_wp2_with fail
  refine (HRX.out _).mono ?_
  rintro e w4 ⟨m2, a2, l2, rfl, hb4, o2, n2, q2, k2⟩
  obtain ⟨av2, cv2, hvf, _, _⟩ := o2.form
  subst hvf
  have O4 := hide ((O3.out.below hb4 (Nat.le_refl _)).mono hb4.size)
  have HB4 := hide (HB3.out.trans (hb4.mono HB3.out.size))
  have O2 := hide (LimbAt.of_own o2); have N2 := hide n2
  have E2 := hide (show rootN n ≤ lv 1000000000 l2 by
    rw [HS2.out] at q2
    have := valS_abs m2 (lv 1000000000 l2)
    rw [q2, Int.natAbs_natCast] at this
    rw [← this]
    exact HST.out)
  clear hb4 o2 n2 q2 HRX O3 HB3
  go_wp2_with fail
  clear hfd
  go_loopw [6] (fun p wr => ∃ (ap : Option Addr) (cp : Nat) (x : List Nat), p = .slice ap x.length cp ∧ x.length ≤ 50 ∧ Hid (LimbAt wr.heap.size wr (.slice ap x.length cp) x ∧ Norm 1000000000 x ∧ rootN n ≤ lv 1000000000 x ∧ Below w4.heap.size w4 wr)) (fun p wr => lv 1000000000 (limbsAt wr p))
  case atStart => exact ⟨av2, cv2, l2, rfl, by omega, O2.out, N2.out, E2.out, Below.refl _ _⟩
  case round =>
    clear O2 N2 E2 k2
    obtain ⟨ap, cp, x, rfl, hx, hin⟩ := hrel
    have I1 := hide hin.out.1; have N3 := hide hin.out.2.1; have RX := hide hin.out.2.2.1; have HBW := hide hin.out.2.2.2
    clear hin
    have HM0 := hide (limbsAt_eq I1.out)
    have hxp : 0 < lv 1000000000 x := Nat.lt_of_lt_of_le (root_pos H0.out) RX.out
    have hxne : x ≠ [] := fun e => by rw [e] at hxp; exact absurd hxp (by decide)
    have HXP := hide hxp
    have HD := hide (divide_any (.slice av l1.length cv) (.slice ap x.length cp) l1 x wr.heap.size wr ((O4.out.below HBW.out (Nat.le_refl _)).mono HBW.out.size) I1.out (Nat.le_refl _) N1.out N3.out hxne (by omega) (by omega))
    clear hxp hxne
    go_wp2_with fail
    refine HD.out.mono ?_
    rintro e w5 ⟨vq, vr, q, r, rfl, hb5, oq, or_, nq, nr, eq, er, lq, lr⟩
    obtain ⟨aq, cq, hvf⟩ := oq.form
    subst hvf
    obtain ⟨ar, cr, hvf⟩ := or_.form
    subst hvf
    rw [E1.out] at eq
    have J1 := hide ((I1.out.below hb5 (Nat.le_refl _)).mono hb5.size)
    have HB5 := hide (HBW.out.trans (hb5.mono HBW.out.size))
    have HC := hide (combine_any 118 plusP plusFn (.slice ap x.length cp) (.slice aq q.length cq) x q w5.heap.size w5 J1.out oq (Nat.le_refl _) N3.out.lt nq.lt (by omega) (by omega))
    have hsum := plus_lv N3.out.lt nq.lt
    rw [eq] at hsum
    obtain ⟨l3, hl3⟩ : ∃ l, l = trimL (combL plusP x q) := ⟨_, rfl⟩
    rw [← hl3] at HC hsum
    have h3l : l3.length ≤ 200 := by
      have := hsum.2.2
      omega
    have N4 := hide hsum.1; have E3 := hide hsum.2.1
    clear hb5 oq or_ nq nr eq er lq lr HD I1 HBW hsum hl3
    go_wp2_with fail
    refine HC.out.mono ?_
    rintro e w6 ⟨v3, rfl, hb6, o3⟩
    obtain ⟨av3, cv3, hvf, _, _⟩ := o3.form
    subst hvf
    obtain ⟨g0, gs0, gb0⟩ := heap1 w6 (rowO [2])
    have HBa := hide ((hb6.trans (gb0.mono hb6.size)))
    have HD2 := hide (divide_any (.slice av3 l3.length cv3) (.slice (some ⟨w6.heap.size, 0, none⟩) 1 1) l3 [2] (w6.alloc (rowO [2])).heap.size (w6.alloc (rowO [2])) (LimbAt.of_own (o3.keep gb0)) (row_limbs g0 (by unfold maxLen; simp)) (Nat.le_refl _) N4.out two_lt (by simp) (by omega) (by simp))
    have HB6 := hide (HB5.out.trans (HBa.out.mono HB5.out.size))
    have J2 := hide ((J1.out.below HBa.out (Nat.le_refl _)).mono HBa.out.size)
    clear hb6 o3 g0 gs0 gb0 HC HB5 J1 HBa
    go_wp2_with fail
    refine HD2.out.mono ?_
    rintro e w7 ⟨vq, vr, q2, r2, rfl, hb7, oq, or_, nq, nr, eq, er, lq, lr⟩
    obtain ⟨aq2, cq2, hvf⟩ := oq.form
    subst hvf
    obtain ⟨ar2, cr2, hvf⟩ := or_.form
    subst hvf
    have eq2 : lv 1000000000 q2 = (lv 1000000000 x + n / lv 1000000000 x) / 2 := by
      rw [eq, E3.out]
      rfl
    have J3 := hide ((J2.out.below hb7 (Nat.le_refl _)).mono hb7.size)
    have HB7 := hide (HB6.out.trans (hb7.mono HB6.out.size))
    have HCM := hide (compare_any (.slice aq2 q2.length cq2) (.slice ap x.length cp) q2 x w7.heap.size w7 oq J3.out (Nat.le_refl _) nq N3.out (by omega) (by omega))
    have OQ := hide oq; have NQ := hide nq; have EQ := hide eq2
    clear hb7 oq or_ nq nr eq er lr HD2 HB6 J2 eq2
    go_wp2_with fail
    refine HCM.out.mono ?_
    rintro e w8 ⟨rc, rfl, hcr, hb8⟩
    have J4 := hide ((J3.out.below hb8 (Nat.le_refl _)).mono hb8.size)
    have OQ8 := hide ((OQ.out.below hb8 (Nat.le_refl _)).mono hb8.size)
    have HB8 := hide (HB7.out.trans (hb8.mono HB7.out.size))
    clear hb8 HCM HB7 J3 OQ
    by_cases hge : lv 1000000000 x ≤ lv 1000000000 q2
    · have hr0 : 0 ≤ rc := by
        rcases Int.lt_or_le rc 0 with h | h
        · have := hcr.1.1 h
          omega
        · exact h
      have HEN := hide (newton_end (n := n) HXP.out RX.out (by rw [← EQ.out]; exact hge))
      have HR := hide (result_any false (.slice ap x.length cp) x w8.heap.size w8 J4.out (Nat.le_refl _) N3.out (by omega) ((HT.out.on (HB4.out.trans (HB8.out.mono HB4.out.size)) hB).mono (Nat.le_trans hB (HB4.out.trans (HB8.out.mono HB4.out.size)).size)))
      rw [show valS false (lv 1000000000 x) = ((rootN n : Nat) : Int) by rw [HEN.out]; rfl] at HR
      have HBF := hide (HB4.out.trans (HB8.out.mono HB4.out.size))
      clear hge hcr
      go_wp2_with fail
      refine HR.out.mono ?_
      rintro e w9 ⟨rfl, hb9⟩
      have HB9 := hide (HBF.out.trans (hb9.mono HBF.out.size))
      clear hb9 HR
      go_wp2_with fail
      refine bodyPost_ret (results_tmp2 rfl _ _ _) rfl ?_
      exact ⟨rfl, HB9.out⟩
    · have hr0 : (0 ≤ rc) = False := eq_false (fun h => by
        have h1 : rc < 0 := hcr.1.2 (by omega)
        omega)
      have HLT := hide (show lv 1000000000 q2 < lv 1000000000 x by omega)
      have HGE := hide (show rootN n ≤ lv 1000000000 q2 by rw [EQ.out]; exact newton_ge HXP.out)
      have hql : q2.length ≤ 50 := by
        have := norm_le NQ.out N3.out.lt (Nat.le_of_lt HLT.out)
        omega
      clear hge hcr
      go_wp2_with fail
      go_roundw
      case rel => exact ⟨aq2, cq2, q2, rfl, hql, OQ8.out, NQ.out, HGE.out, HB8.out⟩
      case measure =>
        rw [limbsAt_eq OQ8.out, HM0.out]
        exact HLT.out
/-- Root at good texts. -/
theorem Root_to {s r : ByteArray} {n : Nat} (h1 : s.data.toList = Lib.itoa (n : Int)) (h3 : r.data.toList = Lib.itoa ((rootN n : Nat) : Int)) (f1 : fits (n : Int)) (h0 : 0 < n) (B : Nat) (w : World) (hB : B ≤ w.heap.size) (hT : P10 B w) :
    Calls Tryz.prog 81 #[.string s] w (Ret w (pairT r)) := by
  have c1 : chkI s.data.toList = 0 := by rw [h1]; exact chk_fits f1
  have hv : valI s.data.toList = (n : Int) := by rw [h1, val_itoa]
  have ff : fits ((rootN n : Nat) : Int) := by
    refine fits_of_le f1 ?_
    rw [Int.natAbs_natCast, Int.natAbs_natCast]
    obtain ⟨g1, _⟩ := rootN_spec n
    have hr := root_pos h0
    have : rootN n * 1 ≤ rootN n * rootN n := Nat.mul_le_mul_left _ hr
    omega
  by_cases hl : s.size ≤ 18
  · have e := Root_small s n B w c1 hl hv h0 hB hT
    rw [pairV, strB_eq h3] at e
    exact e
  · have e := Root_long s n B w c1 (by omega) hv h0 hB hT
    rw [pairV, (res_fit ff).1, (res_fit ff).2, strB_eq h3] at e
    exact e
end Go.Proofs.YtgddookioipjiaaGreatDoor
namespace Go.KI
open Go
/-- Is an integer a square? -/
def sqI (n : Nat) : Bool := decide (rootN n * rootN n = n)
theorem rootN_sq (t : Nat) : rootN (t * t) = t := rootN_eq (Nat.le_refl _) (by
  have : (t + 1) * (t + 1) = t * t + 2 * t + 1 := by grind
  omega)
theorem sqI_iff (n : Nat) : sqI n = true ↔ ∃ t, t * t = n := by
  unfold sqI
  rw [decide_eq_true_iff]
  constructor
  · intro h
    exact ⟨_, h⟩
  · rintro ⟨t, rfl⟩
    rw [rootN_sq]
/-- The root of a number, if it is rational. -/
def sqR (q : Rat) : Option Rat := if sqI q.num.toNat = true ∧ sqI q.den = true then some (((rootN q.num.toNat : Nat) : Rat) / ((rootN q.den : Nat) : Rat)) else none
theorem sq_parts (r : Rat) : (r * r).num = r.num * r.num ∧ (r * r).den = r.den * r.den := by
  have h1 := divInt_mul r r
  have hd : 0 < (r.den : Int) * r.den := dens_pos r r
  have h2 := divInt_parts (r.num * r.num) hd
  rw [h1] at h2
  have hc : Nat.gcd (r.num * r.num).natAbs ((r.den : Int) * r.den).natAbs = 1 := by
    rw [Int.natAbs_mul, Int.natAbs_mul, Int.natAbs_natCast]
    have h3 : Nat.Coprime r.num.natAbs r.den := r.reduced
    exact (Nat.Coprime.mul_right (Nat.Coprime.mul_left h3 h3) (Nat.Coprime.mul_left h3 h3))
  rw [hc] at h2
  refine ⟨by simpa using h2.1, ?_⟩
  have h3 := h2.2
  rw [show ((1 : Nat) : Int) = 1 from rfl, Int.ediv_one] at h3
  exact_mod_cast h3
theorem rat_quot (q : Rat) : (q.num : Rat) / ((q.den : Nat) : Rat) = q := by
  have h := Rat.num_divInt_den q
  rw [Rat.divInt_eq_div] at h
  exact h
theorem sqR_some {q r : Rat} (h : 0 ≤ q) : sqR q = some r ↔ (0 ≤ r ∧ r * r = q) := by
  have hn : 0 ≤ q.num := Rat.num_nonneg.2 h
  unfold sqR
  constructor
  · intro he
    split at he
    · next hs =>
      obtain ⟨h1, h2⟩ := hs
      unfold sqI at h1 h2
      rw [decide_eq_true_iff] at h1 h2
      have hr := Option.some.inj he
      have hd0 : 0 < rootN q.den := root_pos q.den_pos
      have e1 : ((rootN q.num.toNat : Nat) : Rat) * ((rootN q.num.toNat : Nat) : Rat) = (q.num : Rat) := by
        have : ((rootN q.num.toNat * rootN q.num.toNat : Nat) : Rat) = ((q.num.toNat : Nat) : Rat) := by rw [h1]
        rw [← Rat.natCast_mul, this]
        have e : ((q.num.toNat : Nat) : Int) = q.num := by omega
        rw [← Rat.intCast_natCast, e]
      have e2 : ((rootN q.den : Nat) : Rat) * ((rootN q.den : Nat) : Rat) = ((q.den : Nat) : Rat) := by rw [← Rat.natCast_mul, h2]
      have hq := rat_quot q
      have hp : (0 : Rat) < ((rootN q.den : Nat) : Rat) := by exact_mod_cast hd0
      have h0 : (0 : Rat) ≤ ((rootN q.num.toNat : Nat) : Rat) := by exact_mod_cast Nat.zero_le _
      subst hr
      generalize ((rootN q.num.toNat : Nat) : Rat) = a at h0 e1 ⊢
      generalize ((rootN q.den : Nat) : Rat) = b at hp e2 ⊢
      rw [← e1, ← e2] at hq
      clear h1 h2 e1 e2 he hd0 hn
      have hi : 0 < b⁻¹ := Rat.inv_pos.2 hp
      refine ⟨by rw [Rat.div_def]; exact Rat.mul_nonneg h0 (Rat.le_of_lt hi), ?_⟩
      rw [← hq]
      have hb : b ≠ 0 := fun e => by rw [e] at hp; exact absurd hp Rat.lt_irrefl
      rw [Rat.div_def, Rat.div_def, Rat.inv_mul_rev]
      grind
    · cases he
  · rintro ⟨h0, rfl⟩
    obtain ⟨e1, e2⟩ := sq_parts r
    have hr : 0 ≤ r.num := Rat.num_nonneg.2 h0
    have e3 : (r.num * r.num).toNat = r.num.toNat * r.num.toNat := by
      rw [Int.toNat_mul hr hr]
    have k1 : rootN (r * r).num.toNat = r.num.toNat := by rw [e1, e3, rootN_sq]
    have k2 : rootN (r * r).den = r.den := by rw [e2, rootN_sq]
    have s1 : sqI (r * r).num.toNat = true := (sqI_iff _).2 ⟨r.num.toNat, by rw [e1, e3]⟩
    have s2 : sqI (r * r).den = true := (sqI_iff _).2 ⟨r.den, by rw [e2]⟩
    rw [if_pos ⟨s1, s2⟩, k1, k2]
    congr 1
    have e : ((r.num.toNat : Nat) : Int) = r.num := by omega
    rw [← Rat.intCast_natCast, e]
    exact rat_quot r
theorem sq_inj {r s : Rat} (hr : 0 ≤ r) (hs : 0 ≤ s) (h : r * r = s * s) : r = s := by
  have h1 : (r - s) * (r + s) = 0 := by grind
  rcases Rat.mul_eq_zero.1 h1 with h2 | h2
  · grind
  · have : r = 0 := by grind
    have : s = 0 := by grind
    grind
theorem sqR_sq {r : Rat} (h : 0 ≤ r) : sqR (r * r) = some r := (sqR_some (by
  have := sq_parts r
  exact Rat.mul_nonneg h h)).2 ⟨h, rfl⟩
end Go.KI
