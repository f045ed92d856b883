/-
  Texts of the integers, laid together: Ja, Jb, Jo, Jp, Jq, Steps, Jg.
-/
import Derived.Test.YtgddookioipjiaaGreatDoorZ3
import Derived.Test.YtgddookioipjiaaGreatDoorZ13
namespace Go.Proofs.YtgddookioipjiaaGreatDoor
open Go.RowKit Go.KP Go.KI Go.Shelf
attribute [local go_sem] Oper.semAt_some

theorem iB_T (z : Int) : iB z = T (z : Rat) := by
  apply bytes_eq
  rw [iB_list, T_list, ratS_int]
theorem sz_int {z : Int} {p : Nat} (h : z.natAbs < 10 ^ p) (hp : 1 ≤ p) : sz p (z : Rat) :=
  ⟨h, Nat.lt_of_lt_of_le (show (1 : Nat) < 10 ^ 1 by decide) (Nat.pow_le_pow_right (by omega) hp)⟩
theorem fitsQ_int {z : Int} (h : fits z) : fitsQ (z : Rat) := ⟨h, fits_one⟩
set_option maxRecDepth 100000 in
theorem rmul_I {x y : Int} (f1 : fits x) (f2 : fits y) (f3 : fits (x * y)) (B : Nat) (w : World) (hB : B ≤ w.heap.size) (hT : P10 B w) :
    Calls Tryz.prog 43 #[.string (iB x), .string (iB y)] w (Ret w (.string (iB (x * y)))) := by
  have HT := hide hT
  have H1 := hide (fun w hB hT => pMul_I f1 f2 f3 B w hB hT)
  clear f1 f2 f3 hT
  generalize iB (x * y) = Z at H1 ⊢
  generalize iB x = X at H1 ⊢
  generalize iB y = Y at H1 ⊢
  go_enter Tryz.func43, Tryz.ntmps43
  go_wp2_with fail
  refine (H1.out _ hB HT.out).mono ?_
  rintro e w1 ⟨rfl, hb1⟩
  have HB1 := hide hb1
  clear hb1
  go_wp2_with fail
  go_ret
  exact ⟨rfl, HB1.out⟩
set_option maxRecDepth 100000 in
theorem rquot_I {x y : Int} (f1 : fits x) (f2 : fits y) (hy : 0 < y) (B : Nat) (w : World) (hB : B ≤ w.heap.size) (hT : P10 B w) :
    Calls Tryz.prog 85 #[.string (iB x), .string (iB y)] w (Ret w (.tuple #[.string (iB (x / y)), .string (iB (x % y))])) := by
  have HT := hide hT
  have H1 := hide (fun w hB hT => pDivide_I f1 f2 hy B w hB hT)
  clear f1 f2 hy hT
  generalize iB (x / y) = Z at H1 ⊢
  generalize iB (x % y) = R at H1 ⊢
  generalize iB x = X at H1 ⊢
  generalize iB y = Y at H1 ⊢
  go_enter Tryz.func85, Tryz.ntmps85
  go_wp2_with fail
  refine (H1.out _ hB HT.out).mono ?_
  rintro e w1 ⟨rfl, hb1⟩
  have HB1 := hide hb1
  clear hb1
  go_wp2_with fail
  refine bodyPost_ret (results_tmp2 rfl _ _ _) rfl ?_
  exact ⟨rfl, HB1.out⟩
set_option maxRecDepth 100000 in
theorem rfraction_I {x y : Int} (f1 : fits x) (f2 : fits y) (hy : y ≠ 0) (B : Nat) (w : World) (hB : B ≤ w.heap.size) (hT : PQ B w) :
    Calls Tryz.prog 46 #[.string (iB x), .string (iB y)] w (Ret w (.string (T ((x : Rat) / (y : Rat))))) := by
  have HT := hide hT
  have hc : cmpC (x : Rat) (y : Rat) := by
    refine ⟨?_, ?_⟩
    · show fits (x * 1)
      rw [Int.mul_one]
      exact f1
    · show fits (y * 1)
      rw [Int.mul_one]
      exact f2
  have hy0 : (y : Rat) ≠ 0 := fun e => hy (by exact_mod_cast e)
  have H1 : Hid (∀ w, B ≤ w.heap.size → PQ B w → Calls Tryz.prog 26 #[.string (iB x), .string (iB y)] w (Ret w (.tuple #[.string (T ((x : Rat) / (y : Rat))), .int .i64 0]))) :=
    hide (fun w hB hT => qdiv_to (by rw [iB_T, T_list]) (by rw [iB_T, T_list]) (fitsQ_int f1) (fitsQ_int f2) hy0 hc B w hB hT)
  clear f1 f2 hy hT hc hy0
  generalize T ((x : Rat) / (y : Rat)) = Z at H1 ⊢
  generalize iB x = X at H1 ⊢
  generalize iB y = Y at H1 ⊢
  go_enter Tryz.func46, Tryz.ntmps46
  go_wp2_with fail
  refine (H1.out _ hB HT.out).mono ?_
  rintro e w1 ⟨rfl, hb1⟩
  have HB1 := hide hb1
  clear hb1
  go_wp2_with fail
  go_ret
  exact ⟨rfl, HB1.out⟩
set_option maxRecDepth 100000 in
set_option maxHeartbeats 4000000 in
theorem rexact_I {n : Nat} (f : fits (n : Int)) (B : Nat) (w : World) (hB : B ≤ w.heap.size) (hT : P10 B w) :
    Calls Tryz.prog 45 #[.string (iB (n : Int))] w (Ret w (.tuple #[.string (iB ((rootN n : Nat) : Int)), .bool (sqI n)])) := by
  have HT := hide hT
  obtain ⟨r1, r2⟩ := rootN_spec n
  have hsz : (iB (n : Int)).size = (Lib.decDigits n).length := by rw [← bytes_len, iB_nonneg (by omega), Int.natAbs_natCast]
  by_cases hs : (iB (n : Int)).size ≤ 17
  · have hn : n < 100000000000000000 := (dec_len_le (n := 17) (by omega)).1 (by omega)
    have HN : Hid (∀ w, Calls Tryz.prog 41 #[.string (iB (n : Int))] w (Ret w (.tuple #[.int .i64 (n : Int), .bool true]))) := hide (fun w => by
      have h := rNative_yes (iB (n : Int)) (by rw [iB_list]; exact chk_fits f) hs w
      rw [iB_list, val_itoa] at h
      exact h)
    have HR := hide (fun w => rNativeRoot_any n (by omega) w)
    have hr : rootN n < 1000000000 := by
      refine Nat.lt_of_not_le fun h => ?_
      have := Nat.mul_le_mul h h
      omega
    have HI : Hid (∀ w, B ≤ w.heap.size → P10 B w → Calls Tryz.prog 57 #[.int .i64 ((rootN n : Nat) : Int)] w (Ret w (.string (iB ((rootN n : Nat) : Int))))) := hide (fun w _ hT => itoa_any ((rootN n : Nat) : Int) (by omega) (by omega) B w hT)
    have e : sqI n = (((rootN n : Nat) : Int) * ((rootN n : Nat) : Int) == (n : Int)) := by
      unfold sqI
      rw [Bool.eq_iff_iff]
      simp only [decide_eq_true_iff, beq_iff_eq]
      constructor
      · intro h; exact_mod_cast h
      · intro h; exact_mod_cast h
    rw [e]
    have hm : (rootN n) * (rootN n) < 1000000000000000000 := by omega
    have hmi : ((rootN n : Nat) : Int) * ((rootN n : Nat) : Int) < 1000000000000000000 := by
      have h : ((rootN n * rootN n : Nat) : Int) < 1000000000000000000 := by omega
      rw [Int.natCast_mul] at h
      exact h
    have hm0 : (0 : Int) ≤ ((rootN n : Nat) : Int) * ((rootN n : Nat) : Int) := Int.mul_nonneg (by omega) (by omega)
    generalize iB ((rootN n : Nat) : Int) = R at HI ⊢
    generalize ((rootN n : Nat) : Int) = r at HR HI hmi hm0 ⊢
    have v1 : IntKind.i64.wrap (r * r) = r * r := IntWalk.i64_in _ (by omega)
    obtain ⟨b, hb⟩ : ∃ b, b = (r * r == (n : Int)) := ⟨_, rfl⟩
    rw [← hb]
    have HB := hide hb
    generalize iB (n : Int) = X at HN ⊢
    clear hm hmi hm0 hr hn hs hsz e r1 r2 f hT hb
    go_enter Tryz.func45, Tryz.ntmps45
    go_wp2_with fail
    refine (HN.out _).mono ?_
    rintro e w1 ⟨rfl, hb1⟩
    have HB1 := hide hb1
    clear hb1
    go_wp2_with fail
    refine (HR.out _).mono ?_
    rintro e w2 ⟨rfl, hb2⟩
    have HB2 := hide (HB1.out.trans (hb2.mono HB1.out.size))
    clear hb2
    go_wp2_with fail
    refine (HI.out _ (Nat.le_trans hB HB2.out.size) (HT.out.on HB2.out hB)).mono ?_
    rintro e w3 ⟨rfl, hb3⟩
    have HB3 := hide (HB2.out.trans (hb3.mono HB2.out.size))
    clear hb3
    go_wp2_with fail
    refine bodyPost_ret (results_tmp2 rfl _ _ _) rfl ?_
    exact ⟨by rw [HB.out]; rfl, HB3.out⟩
  · have h0 : 0 < n := Nat.pos_of_ne_zero fun e => hs (by rw [e] at hsz; rw [show (Lib.decDigits 0).length = 1 by rw [dec_zero]; rfl] at hsz; rw [e]; omega)
    have fr : fits ((rootN n : Nat) : Int) := fits_of_le f (by
      rw [Int.natAbs_natCast, Int.natAbs_natCast]
      have := root_pos h0
      exact Nat.le_trans (Nat.le_mul_of_pos_left _ this) r1)
    have frr : fits (((rootN n : Nat) : Int) * ((rootN n : Nat) : Int)) := fits_of_le f (by rw [Int.natAbs_mul, Int.natAbs_natCast, Int.natAbs_natCast]; exact r1)
    have HN := hide (fun w => rNative_no (iB (n : Int)) (by omega) w)
    have HR := hide (fun w hB hT => Root_to (iB_list _) (iB_list _) f h0 B w hB hT)
    have HM := hide (fun w hB hT => rmul_I fr fr frr B w hB hT)
    have e : ((iB (((rootN n : Nat) : Int) * ((rootN n : Nat) : Int))).toList == (iB (n : Int)).toList) = sqI n := by
      rw [ByteArray.toList_eq, ByteArray.toList_eq, iB_list, iB_list]
      unfold sqI
      rw [Bool.eq_iff_iff]
      simp only [decide_eq_true_iff, beq_iff_eq]
      constructor
      · intro h; have := itoa_inj h; exact_mod_cast this
      · intro h; congr 1; exact_mod_cast h
    clear hs hsz h0 fr frr r1 r2 f hT
    generalize iB (((rootN n : Nat) : Int) * ((rootN n : Nat) : Int)) = Q at HM e
    generalize iB ((rootN n : Nat) : Int) = R at HR HM ⊢
    generalize iB (n : Int) = X at HN HR e ⊢
    generalize sqI n = b at e ⊢
    go_enter Tryz.func45, Tryz.ntmps45
    go_wp2_with fail
    refine (HN.out _).mono ?_
    rintro e w1 ⟨rfl, hb1⟩
    have HB1 := hide hb1
    clear hb1
    go_wp2_with fail
    refine (HR.out _ (Nat.le_trans hB HB1.out.size) (HT.out.on HB1.out hB)).mono ?_
    rintro e w2 ⟨rfl, hb2⟩
    have HB2 := hide (HB1.out.trans (hb2.mono HB1.out.size))
    clear hb2
    go_wp2_with fail
    refine (HM.out _ (Nat.le_trans hB HB2.out.size) (HT.out.on HB2.out hB)).mono ?_
    rintro e w3 ⟨rfl, hb3⟩
    have HB3 := hide (HB2.out.trans (hb3.mono HB2.out.size))
    clear hb3
    go_wp2_with fail
    refine bodyPost_ret (results_tmp2 rfl _ _ _) rfl ?_
    exact ⟨rfl, HB3.out⟩
end Go.Proofs.YtgddookioipjiaaGreatDoor
namespace Go.KI
open Go
theorem sqR_eq (q : Rat) : sqR q = if sqI q.num.toNat = true ∧ sqI q.den = true then some (((rootN q.num.toNat : Nat) : Rat) / ((rootN q.den : Nat) : Rat)) else none := rfl
end Go.KI
namespace Go.Proofs.YtgddookioipjiaaGreatDoor
open Go.RowKit Go.KP Go.KI Go.Shelf
attribute [local go_sem] Oper.semAt_some

/-- A root that may be missing. -/
def rootT : Option Rat → ByteArray
  | some x => T x
  | none => ⟨#[]⟩
def rootB : Option Rat → Bool
  | some _ => true
  | none => false
theorem fits_root {n : Nat} (h : fits (n : Int)) : fits ((rootN n : Nat) : Int) := by
  rcases Nat.eq_zero_or_pos n with h0 | h0
  · subst h0
    have e : rootN 0 = 0 := rootN_eq (by omega) (by omega)
    rw [e]
    exact h
  · refine fits_of_le h ?_
    rw [Int.natAbs_natCast, Int.natAbs_natCast]
    exact Nat.le_trans (Nat.le_mul_of_pos_left _ (root_pos h0)) (rootN_spec n).1
set_option maxRecDepth 100000 in
set_option maxHeartbeats 4000000 in
theorem rrootOf_T {q : Rat} (fq : fitsQ q) (h0 : 0 ≤ q.num) (B : Nat) (w : World) (hB : B ≤ w.heap.size) (hT : PQ B w) :
    Calls Tryz.prog 53 #[rpairV (numB q) (denB q)] w (Ret w (.tuple #[.string (rootT (sqR q)), .bool (rootB (sqR q))])) := by
  have HT := hide hT
  have hn : q.num = ((q.num.toNat : Nat) : Int) := by omega
  have eN : numB q = iB ((q.num.toNat : Nat) : Int) := by rw [← hn]; rfl
  have eD : denB q = iB ((q.den : Nat) : Int) := rfl
  have fn : fits ((q.num.toNat : Nat) : Int) := by rw [← hn]; exact fq.1
  have fd : fits ((q.den : Nat) : Int) := fq.2
  have hd0 : ((rootN q.den : Nat) : Int) ≠ 0 := by have := root_pos q.den_pos; omega
  have H1 := hide (fun w hB hT => rexact_I fn B w hB hT)
  have H2 := hide (fun w hB hT => rexact_I fd B w hB hT)
  have H3 := hide (fun w hB hT => rfraction_I (fits_root fn) (fits_root fd) hd0 B w hB hT)
  rw [eN, eD]
  have hS := sqR_eq q
  rw [show (((rootN q.num.toNat : Nat) : Int) : Rat) = ((rootN q.num.toNat : Nat) : Rat) from rfl, show (((rootN q.den : Nat) : Int) : Rat) = ((rootN q.den : Nat) : Rat) from rfl] at H3
  generalize ((rootN q.num.toNat : Nat) : Rat) / ((rootN q.den : Nat) : Rat) = R at H3 hS
  generalize sqR q = S at hS ⊢
  generalize sqI q.num.toNat = b1 at H1 hS
  generalize sqI q.den = b2 at H2 hS
  generalize iB ((rootN q.num.toNat : Nat) : Int) = X1 at H1 H3
  generalize iB ((rootN q.den : Nat) : Int) = X2 at H2 H3
  generalize iB ((q.num.toNat : Nat) : Int) = N at H1 ⊢
  generalize iB ((q.den : Nat) : Int) = D at H2 ⊢
  have X0 := hide (heap1 w (rpairO N D))
  clear fn fd hd0 eN eD hn fq h0 hT
  have hk : (b1 = false ∧ S = none) ∨ (b1 = true ∧ b2 = false ∧ S = none) ∨ (b1 = true ∧ b2 = true ∧ S = some R) := by
    cases b1 <;> cases b2 <;> simp [hS]
  clear hS
  rcases hk with ⟨rfl, rfl⟩ | ⟨rfl, rfl, rfl⟩ | ⟨rfl, rfl, rfl⟩
  all_goals
    dsimp only [rootT, rootB]
    go_enter Tryz.func53, Tryz.ntmps53
    go_wp2_with fail
    refine (H1.out _ (Nat.le_trans hB X0.out.2.2.size) (HT.out.p10.on X0.out.2.2 hB)).mono ?_
    rintro e w1 ⟨rfl, hb1⟩
    have G0 := hide (below_blk hb1 (X0.out.1) (lt_blk (X0.out.1)))
    have HB1 := hide (Below.trans (X0.out.2.2) (hb1.mono (X0.out.2.2).size))
    clear hb1
    have q0_0 := cell_blk G0.out 0
    have q0_1 := cell_blk G0.out 1
    have q0_l := lt_blk G0.out
    go_wp2_with fail
    refine (H2.out _ (Nat.le_trans hB HB1.out.size) (HT.out.p10.on HB1.out hB)).mono ?_
    rintro e w2 ⟨rfl, hb2⟩
    clear q0_0 q0_1 q0_l
    have G0 := hide (below_blk hb2 G0.out (lt_blk G0.out))
    have HB2 := hide (Below.trans (HB1.out) (hb2.mono (HB1.out).size))
    clear hb2
    have q0_0 := cell_blk G0.out 0
    have q0_1 := cell_blk G0.out 1
    have q0_l := lt_blk G0.out
    go_wp2_with fail
    first
    | (refine bodyPost_ret (results_tmp2 rfl _ _ _) rfl ?_
       exact ⟨rfl, HB2.out⟩)
    | skip
  refine (H3.out _ (Nat.le_trans hB HB2.out.size) (HT.out.on HB2.out hB)).mono ?_
  rintro e w3 ⟨rfl, hb3⟩
  have HB3 := hide (HB2.out.trans (hb3.mono HB2.out.size))
  clear hb3
  go_wp2_with fail
  refine bodyPost_ret (results_tmp2 rfl _ _ _) rfl ?_
  exact ⟨rfl, HB3.out⟩
/-- A row of some numbers as check sees it. -/
theorem nums1 {w : World} {b : Nat} {p : Rat} (h : w.heap[b]? = some (.cells #[.string (T p)] 22 (0, 0))) : NumsAt w b [p] := by
  refine ⟨lt_blk h, fun i x hx => ?_⟩
  match i with
  | 0 => simp at hx; rw [← hx]; exact cell_blk h 0
  | i + 1 => simp at hx
theorem nums2 {w : World} {b : Nat} {p q : Rat} (h : w.heap[b]? = some (.cells #[.string (T p), .string (T q)] 22 (0, 0))) : NumsAt w b [p, q] := by
  refine ⟨lt_blk h, fun i x hx => ?_⟩
  match i with
  | 0 => simp at hx; rw [← hx]; exact cell_blk h 0
  | 1 => simp at hx; rw [← hx]; exact cell_blk h 1
  | i + 2 => simp at hx
theorem T_num0 (q : Rat) : ((T q).toList == [48]) = decide (q.num = 0) := by
  rw [list_is (T_list q)]
  have h0 : ratS 0 = [48] := by rw [← T_list, T0]
  refine decide_eq_decide.2 ⟨fun e => by rw [ratS_inj (e.trans h0.symm)]; rfl, fun e => by rw [Rat.num_eq_zero.1 e, h0]⟩
set_option maxRecDepth 100000 in
set_option maxHeartbeats 8000000 in
theorem rRatio_T {p q : Rat} (rp : roomy p) (rq : roomy q) (p0 : 0 ≤ p.num) (q0 : 0 < q.num) (hc : cmpC p q) (B : Nat) (w : World) (hB : B ≤ w.heap.size) (hT : PQ B w) :
    Calls Tryz.prog 18 #[.string (T p), .string (T q)] w (Ret w (.tuple #[.string (rootT (sqR (p / q))), .bool (rootB (sqR (p / q))), .int .i64 0])) := by
  have HT := hide hT
  have X0 := hide (heap2 w (.cells #[.string (T p), .string (T q)] 22) (.cells #[.string (T p), .string (T q)] 22))
  have HC := hide (rCheck_ok w.heap.size (w.heap.size + 1) [p, q] [p, q] (by simp) (by simp) (fun x hx => by simp at hx; rcases hx with rfl | rfl; exact rp; exact rq) (fun x hx => by simp at hx; rcases hx with rfl | rfl <;> omega) B _ (nums2 X0.out.1) (nums2 X0.out.2.1) (Nat.le_trans hB X0.out.2.2.2.size) (hT.on X0.out.2.2.2 hB))
  have hq0 : q ≠ 0 := fun e => by rw [e] at q0; exact absurd q0 (by decide)
  have hz := T_num0 q
  rw [decide_eq_false (by omega)] at hz
  have HD : Hid (∀ w, B ≤ w.heap.size → PQ B w → Calls Tryz.prog 26 #[.string (T p), .string (T q)] w (Ret w (.tuple #[.string (T (p / q)), .int .i64 0]))) :=
    hide (fun w hB hT => qdiv_to (T_list p) (T_list q) rp.1 rq.1 hq0 hc B w hB hT)
  have hpos : 0 ≤ (p / q).num := by
    rw [Rat.num_nonneg, Rat.div_def]
    exact Rat.mul_nonneg (Rat.num_nonneg.1 p0) (Rat.le_of_lt (Rat.inv_pos.2 (Rat.not_le.1 fun h => by have h2 := Rat.num_nonneg.2 (show 0 ≤ -q by grind); rw [Rat.neg_num] at h2; omega)))
  have ff : fitsQ (p / q) := by
    have h := divInt_div p q
    have hq1 : 0 < q.num * (p.den : Int) := Int.mul_pos q0 (by have := p.den_pos; omega)
    rw [← h]
    exact divInt_fits hq1 hc.1 hc.2
  have HO := hide (fun w hB hT => rOf_T ff B w hB hT)
  have HR := hide (fun w hB hT => rrootOf_T ff hpos B w hB hT)
  generalize rootT (sqR (p / q)) = RT at HR ⊢
  generalize rootB (sqR (p / q)) = RB at HR ⊢
  generalize numB (p / q) = N at HO HR
  generalize denB (p / q) = D at HO HR
  generalize T (p / q) = Z at HO HD
  clear rp rq p0 q0 hc hq0 hpos ff hT
  generalize T p = X at X0 HC HD ⊢
  generalize T q = Y at X0 HC HD hz ⊢
  go_enter Tryz.func18, Tryz.ntmps18
  go_wp2_with fail
  refine HC.out.mono ?_
  rintro e w1 ⟨rfl, hb1⟩
  have HB1 := hide (Below.trans (X0.out.2.2.2) (hb1.mono (X0.out.2.2.2).size))
  clear hb1
  go_wp2_with fail
  refine (HD.out _ (Nat.le_trans hB HB1.out.size) (HT.out.on HB1.out hB)).mono ?_
  rintro e w2 ⟨rfl, hb2⟩
  have HB2 := hide (Below.trans (HB1.out) (hb2.mono (HB1.out).size))
  clear hb2
  go_wp2_with fail
  refine (HO.out _ (Nat.le_trans hB HB2.out.size) (HT.out.on HB2.out hB)).mono ?_
  rintro e w3 ⟨rfl, hb3⟩
  have HB3 := hide (Below.trans (HB2.out) (hb3.mono (HB2.out).size))
  clear hb3
  go_wp2_with fail
  refine (HR.out _ (Nat.le_trans hB HB3.out.size) (HT.out.on HB3.out hB)).mono ?_
  rintro e w4 ⟨rfl, hb4⟩
  have HB4 := hide (Below.trans (HB3.out) (hb4.mono (HB3.out).size))
  clear hb4
  go_wp2_with fail
  refine bodyPost_ret (results_tmp3 rfl _ _ _) rfl ?_
  exact ⟨rfl, HB4.out⟩
end Go.Proofs.YtgddookioipjiaaGreatDoor
namespace Go.KI
open Go
theorem num_is (q : Rat) : (q.num : Rat) = q * ((q.den : Nat) : Rat) := by
  have h := rat_quot q
  have hd : ((q.den : Nat) : Rat) ≠ 0 := by
    have := Rat.natCast_pos.2 q.den_pos
    exact fun e => by rw [e] at this; exact Rat.lt_irrefl this
  exact (Rat.div_mul_cancel hd).symm.trans (by rw [h])
theorem le_by {a b c : Rat} (hc : 0 < c) (h : a * c ≤ b * c) : a ≤ b := Rat.le_of_mul_le_mul_right h hc
theorem lt_by {a b c : Rat} (hc : 0 < c) (h : a * c < b * c) : a < b := Rat.lt_of_mul_lt_mul_right h (Rat.le_of_lt hc)
/-- How many units a root has: the whole root of f q / u². -/
def unitsN (q u : Rat) (f : Nat) : Nat := rootN ((q.num * ((u.den : Int) * u.den) * f / ((q.den : Int) * (u.num * u.num))).toNat)
theorem root_between (n d : Nat) (hd : 0 < d) : rootN (n / d) * rootN (n / d) * d ≤ n ∧ n < (rootN (n / d) + 1) * (rootN (n / d) + 1) * d := by
  obtain ⟨h1, h2⟩ := rootN_spec (n / d)
  exact ⟨(Nat.le_div_iff_mul_le hd).1 h1, (Nat.div_lt_iff_lt_mul hd).1 h2⟩
theorem unitsN_spec {q u : Rat} (f : Nat) (hq : 0 ≤ q.num) (hu : 0 < u.num) :
    ((unitsN q u f : Nat) : Rat) * ((unitsN q u f : Nat) : Rat) * (u * u) ≤ (f : Rat) * q ∧ (f : Rat) * q < (((unitsN q u f : Nat) : Rat) + 1) * (((unitsN q u f : Nat) : Rat) + 1) * (u * u) := by
  have e1 : q.num * ((u.den : Int) * u.den) * f = ((q.num.toNat * (u.den * u.den) * f : Nat) : Int) := by
    simp only [Int.natCast_mul]
    rw [Int.toNat_of_nonneg hq]
  have e2 : (q.den : Int) * (u.num * u.num) = ((q.den * (u.num.toNat * u.num.toNat) : Nat) : Int) := by
    simp only [Int.natCast_mul]
    rw [Int.toNat_of_nonneg (Int.le_of_lt hu)]
  have eU : unitsN q u f = rootN (q.num.toNat * (u.den * u.den) * f / (q.den * (u.num.toNat * u.num.toNat))) := by
    unfold unitsN
    rw [e1, e2, ← Int.natCast_ediv, Int.toNat_natCast]
  have hup : 0 < u.num.toNat := by omega
  have hd : 0 < q.den * (u.num.toNat * u.num.toNat) := Nat.mul_pos q.den_pos (Nat.mul_pos hup hup)
  obtain ⟨h1, h2⟩ := root_between (q.num.toNat * (u.den * u.den) * f) _ hd
  rw [← eU] at h1 h2
  have g1 := Rat.natCast_le_natCast.2 h1
  have g2 := Rat.natCast_lt_natCast.2 h2
  simp only [Rat.natCast_mul, Rat.natCast_add] at g1 g2
  have c1 : ((q.num.toNat : Nat) : Rat) = q * ((q.den : Nat) : Rat) := by
    rw [← num_is, ← Rat.intCast_natCast, Int.toNat_of_nonneg hq]
  have c2 : ((u.num.toNat : Nat) : Rat) = u * ((u.den : Nat) : Rat) := by
    rw [← num_is, ← Rat.intCast_natCast, Int.toNat_of_nonneg (Int.le_of_lt hu)]
  rw [c1, c2] at g1 g2
  have p1 := Rat.natCast_pos.2 q.den_pos
  have p2 := Rat.natCast_pos.2 u.den_pos
  generalize ((unitsN q u f : Nat) : Rat) = r at g1 g2 ⊢
  generalize ((q.den : Nat) : Rat) = a at g1 g2 p1
  generalize ((u.den : Nat) : Rat) = b at g1 g2 p2
  generalize (f : Rat) = F at g1 g2 ⊢
  have one : ((1 : Nat) : Rat) = 1 := rfl
  rw [one] at g2
  clear c1 c2 hd hup eU e1 e2 h1 h2 hq hu one
  have pp : 0 < a * (b * b) := Rat.mul_pos p1 (Rat.mul_pos p2 p2)
  refine ⟨le_by pp ?_, lt_by pp ?_⟩
  · have l : r * r * (u * u) * (a * (b * b)) = r * r * (a * (u * b * (u * b))) := by grind
    have m : F * q * (a * (b * b)) = q * a * (b * b) * F := by grind
    rw [l, m]
    exact g1
  · have l : (r + 1) * (r + 1) * (u * u) * (a * (b * b)) = (r + 1) * (r + 1) * (a * (u * b * (u * b))) := by grind
    have m : F * q * (a * (b * b)) = q * a * (b * b) * F := by grind
    rw [l, m]
    exact g2
/-- The multiple that Floor returns. -/
def floorR (q u : Rat) : Rat := ((unitsN q u 1 : Nat) : Rat) * u
theorem floor_law {q u : Rat} (hq : 0 ≤ q.num) (hu : 0 < u.num) : floorR q u / u = ((unitsN q u 1 : Nat) : Rat) ∧ 0 ≤ floorR q u ∧ floorR q u * floorR q u ≤ q ∧ q < (floorR q u + u) * (floorR q u + u) := by
  obtain ⟨h1, h2⟩ := unitsN_spec 1 hq hu
  have up : 0 < u := by
    rcases Rat.le_iff_lt_or_eq.1 (Rat.num_nonneg.1 (Int.le_of_lt hu)) with h | h
    · exact h
    · rw [← h] at hu; exact absurd hu (by decide)
  have un : u ≠ 0 := Rat.ne_of_gt up
  have r0 : (0 : Rat) ≤ ((unitsN q u 1 : Nat) : Rat) := Rat.natCast_nonneg
  unfold floorR
  have one : ((1 : Nat) : Rat) = 1 := rfl
  rw [one, Rat.one_mul] at h1 h2
  refine ⟨Rat.mul_div_cancel un, Rat.mul_nonneg r0 (Rat.le_of_lt up), ?_, ?_⟩
  · generalize ((unitsN q u 1 : Nat) : Rat) = r at *
    have : r * u * (r * u) = r * r * (u * u) := by grind
    rw [this]
    exact h1
  · generalize ((unitsN q u 1 : Nat) : Rat) = r at *
    have : (r * u + u) * (r * u + u) = (r + 1) * (r + 1) * (u * u) := by grind
    rw [this]
    exact h2
/-- The multiple that Nearest returns. -/
def nearR (q u : Rat) : Rat := (((unitsN q u 4 + 1) / 2 : Nat) : Rat) * u
theorem pos_num {u : Rat} (hu : 0 < u.num) : 0 < u := by
  rcases Rat.le_iff_lt_or_eq.1 (Rat.num_nonneg.1 (Int.le_of_lt hu)) with h | h
  · exact h
  · rw [← h] at hu; exact absurd hu (by decide)
theorem sq_le {a b : Rat} (ha : 0 ≤ a) (h : a ≤ b) : a * a ≤ b * b :=
  Rat.le_trans (Rat.mul_le_mul_of_nonneg_left h ha) (Rat.mul_le_mul_of_nonneg_right h (Rat.le_trans ha h))
theorem sq_lt {a b : Rat} (ha : 0 ≤ a) (h : a < b) : a * a < b * b := by
  have h1 : a * a ≤ a * b := Rat.mul_le_mul_of_nonneg_left (Rat.le_of_lt h) ha
  have hb : 0 < b := by grind
  have h2 : a * b < b * b := Rat.mul_lt_mul_of_pos_right h hb
  grind
theorem near_law {q u : Rat} (hq : 0 ≤ q.num) (hu : 0 < u.num) : nearR q u / u = (((unitsN q u 4 + 1) / 2 : Nat) : Rat) ∧ q < (nearR q u + u / 2) * (nearR q u + u / 2) ∧ ((nearR q u - u / 2) * (nearR q u - u / 2) ≤ q ∨ nearR q u - u / 2 < 0) := by
  obtain ⟨h1, h2⟩ := unitsN_spec 4 hq hu
  have up := pos_num hu
  have un : u ≠ 0 := Rat.ne_of_gt up
  unfold nearR
  have eh : u / 2 = (1 / 2) * u := by grind
  rw [eh]
  obtain ⟨h, hh⟩ : ∃ h, h = unitsN q u 4 := ⟨_, rfl⟩
  rw [← hh] at h1 h2 ⊢
  obtain ⟨n, hn⟩ : ∃ n, n = (h + 1) / 2 := ⟨_, rfl⟩
  rw [← hn]
  have b1 : 2 * n ≤ h + 1 := by omega
  have b2 : h + 1 ≤ 2 * n + 1 := by omega
  have c1 := Rat.natCast_le_natCast.2 b1
  have c2 := Rat.natCast_le_natCast.2 b2
  simp only [Rat.natCast_mul, Rat.natCast_add] at c1 c2
  have one : ((1 : Nat) : Rat) = 1 := rfl
  have two : ((2 : Nat) : Rat) = 2 := rfl
  have four : ((4 : Nat) : Rat) = 4 := rfl
  rw [one, two] at c1 c2
  rw [four] at h1 h2
  have n0 : (0 : Rat) ≤ (n : Rat) := Rat.natCast_nonneg
  have k0 : (0 : Rat) ≤ (h : Rat) := Rat.natCast_nonneg
  have hnn : n = 0 ∨ 1 ≤ n := by omega
  refine ⟨Rat.mul_div_cancel un, ?_, ?_⟩
  · generalize (n : Rat) = N at *
    generalize (h : Rat) = H at *
    have e : (N * u + 1 / 2 * u) * (N * u + 1 / 2 * u) = (2 * N + 1) * (2 * N + 1) * (u * u) * (1 / 4) := by grind
    rw [e]
    have l : (H + 1) * (H + 1) ≤ (2 * N + 1) * (2 * N + 1) := sq_le (by grind) (by grind)
    have l2 := Rat.mul_le_mul_of_nonneg_right l (c := u * u) (Rat.le_of_lt (Rat.mul_pos up up))
    grind
  · rcases hnn with h0 | h0
    · right
      rw [h0]
      have : (((0 : Nat) : Rat)) = 0 := rfl
      rw [this]
      grind
    · left
      have c3 := Rat.natCast_le_natCast.2 h0
      rw [one] at c3
      generalize (n : Rat) = N at *
      generalize (h : Rat) = H at *
      have e : (N * u - 1 / 2 * u) * (N * u - 1 / 2 * u) = (2 * N - 1) * (2 * N - 1) * (u * u) * (1 / 4) := by grind
      rw [e]
      have l : (2 * N - 1) * (2 * N - 1) ≤ H * H := sq_le (by grind) (by grind)
      have l2 := Rat.mul_le_mul_of_nonneg_right l (c := u * u) (Rat.le_of_lt (Rat.mul_pos up up))
      grind
def decN (q : Rat) (S : Nat) : Nat := rootN ((q.num * S * S / (q.den : Int)).toNat)
theorem decN_spec {q : Rat} (hq : 0 ≤ q.num) (S : Nat) : ((decN q S : Nat) : Rat) * ((decN q S : Nat) : Rat) ≤ q * ((S : Rat) * S) ∧ q * ((S : Rat) * S) < (((decN q S : Nat) : Rat) + 1) * (((decN q S : Nat) : Rat) + 1) := by
  have e1 : q.num * (S : Int) * S = ((q.num.toNat * S * S : Nat) : Int) := by
    simp only [Int.natCast_mul]
    rw [Int.toNat_of_nonneg hq]
  have eU : decN q S = rootN (q.num.toNat * S * S / q.den) := by
    unfold decN
    rw [e1, ← Int.natCast_ediv, Int.toNat_natCast]
  obtain ⟨h1, h2⟩ := root_between (q.num.toNat * S * S) _ q.den_pos
  rw [← eU] at h1 h2
  have g1 := Rat.natCast_le_natCast.2 h1
  have g2 := Rat.natCast_lt_natCast.2 h2
  simp only [Rat.natCast_mul, Rat.natCast_add] at g1 g2
  have c1 : ((q.num.toNat : Nat) : Rat) = q * ((q.den : Nat) : Rat) := by
    rw [← num_is, ← Rat.intCast_natCast, Int.toNat_of_nonneg hq]
  rw [c1] at g1 g2
  have p1 := Rat.natCast_pos.2 q.den_pos
  have one : ((1 : Nat) : Rat) = 1 := rfl
  rw [one] at g2
  generalize ((decN q S : Nat) : Rat) = r at g1 g2 ⊢
  generalize ((q.den : Nat) : Rat) = a at g1 g2 p1
  generalize (S : Rat) = s at g1 g2 ⊢
  refine ⟨le_by p1 (by grind), lt_by p1 (by grind)⟩
def lowR (q : Rat) (S : Nat) : Rat := ((decN q S : Nat) : Rat) / (S : Rat)
def highR (q : Rat) (S : Nat) : Rat := if sqR q = some (lowR q S) then lowR q S else (((decN q S + 1 : Nat)) : Rat) / (S : Rat)
theorem lt_of_sq {a b : Rat} (hb : 0 ≤ b) (h : a * a < b * b) : a < b := by
  rcases Classical.em (a < b) with h1 | h1
  · exact h1
  · have := sq_le hb (Rat.not_lt.1 h1)
    grind
theorem nat_lt_of {a b : Nat} (h : (a : Rat) * a < (b : Rat) * b) : a < b := Rat.natCast_lt_natCast.1 (lt_of_sq Rat.natCast_nonneg h)
theorem low_facts {q : Rat} (hq : 0 ≤ q.num) {S : Nat} (hS : 0 < S) : 0 ≤ lowR q S ∧ lowR q S * (S : Rat) = ((decN q S : Nat) : Rat) ∧ lowR q S * lowR q S ≤ q ∧ q < (lowR q S + 1 / (S : Rat)) * (lowR q S + 1 / (S : Rat)) ∧ (((decN q S + 1 : Nat)) : Rat) / (S : Rat) = lowR q S + 1 / (S : Rat) := by
  obtain ⟨h1, h2⟩ := decN_spec hq S
  have sp := Rat.natCast_pos.2 hS
  have sn : (S : Rat) ≠ 0 := Rat.ne_of_gt sp
  have k0 : (0 : Rat) ≤ ((decN q S : Nat) : Rat) := Rat.natCast_nonneg
  have one : ((1 : Nat) : Rat) = 1 := rfl
  have e0 : lowR q S * (S : Rat) = ((decN q S : Nat) : Rat) := Rat.div_mul_cancel sn
  have e1 : (lowR q S + 1 / (S : Rat)) * (S : Rat) = ((decN q S : Nat) : Rat) + 1 := by rw [Rat.add_mul, e0, Rat.div_mul_cancel sn]
  have e2 : (((decN q S + 1 : Nat)) : Rat) / (S : Rat) = lowR q S + 1 / (S : Rat) := by
    rw [Rat.natCast_add, one, ← e1, Rat.mul_div_cancel sn]
  have ll : 0 ≤ lowR q S := by
    unfold lowR
    rw [Rat.div_def]
    exact Rat.mul_nonneg k0 (Rat.le_of_lt (Rat.inv_pos.2 sp))
  refine ⟨ll, e0, ?_, ?_, e2⟩
  · generalize lowR q S + 1 / (S : Rat) = H at *
    generalize lowR q S = L at *
    generalize ((decN q S : Nat) : Rat) = r at *
    generalize (S : Rat) = s at *
    refine le_by (Rat.mul_pos sp sp) ?_
    rw [show L * L * (s * s) = L * s * (L * s) by grind, e0]
    exact h1
  · generalize lowR q S + 1 / (S : Rat) = H at *
    generalize lowR q S = L at *
    generalize ((decN q S : Nat) : Rat) = r at *
    generalize (S : Rat) = s at *
    refine lt_by (Rat.mul_pos sp sp) ?_
    rw [show H * H * (s * s) = H * s * (H * s) by grind, e1]
    exact h2
theorem lowexact_iff {q : Rat} (hq : 0 ≤ q.num) {S : Nat} (hS : 0 < S) : sqR q = some (lowR q S) ↔ lowR q S * lowR q S = q := by
  rw [sqR_some (Rat.num_nonneg.1 hq)]
  exact ⟨fun h => h.2, fun h => ⟨(low_facts hq hS).1, h⟩⟩
theorem high_of {q : Rat} (hq : 0 ≤ q.num) {S : Nat} (hS : 0 < S) : highR q S = if lowR q S * lowR q S = q then lowR q S else lowR q S + 1 / (S : Rat) := by
  unfold highR
  rw [(low_facts hq hS).2.2.2.2]
  by_cases h : lowR q S * lowR q S = q
  · rw [if_pos h, if_pos ((lowexact_iff hq hS).2 h)]
  · rw [if_neg h, if_neg (fun e => h ((lowexact_iff hq hS).1 e))]
theorem dec_law {q : Rat} (hq : 0 ≤ q.num) {S : Nat} (hS : 0 < S) : lowR q S * lowR q S ≤ q ∧ q ≤ highR q S * highR q S ∧ (highR q S - lowR q S = 0 ∨ highR q S - lowR q S = 1 / (S : Rat)) ∧ (highR q S - lowR q S = 0 ↔ lowR q S * lowR q S = q) := by
  obtain ⟨h0, _, h1, h2, _⟩ := low_facts hq hS
  have sp := Rat.natCast_pos.2 hS
  have ip : 0 < 1 / (S : Rat) := by rw [Rat.div_def, Rat.one_mul]; exact Rat.inv_pos.2 sp
  rw [high_of hq hS]
  generalize 1 / (S : Rat) = i at *
  generalize lowR q S = L at *
  by_cases h : L * L = q
  · rw [if_pos h]
    refine ⟨h1, by grind, .inl (by grind), ⟨fun _ => h, fun _ => by grind⟩⟩
  · rw [if_neg h]
    refine ⟨h1, by grind, .inr (by grind), ⟨fun e => by grind, fun e => absurd e h⟩⟩
theorem dec_more {q : Rat} (hq : 0 ≤ q.num) {S : Nat} (hS : 0 < S) : lowR q S ≤ lowR q (10 * S) ∧ highR q (10 * S) ≤ highR q S := by
  have hS2 : 0 < 10 * S := by omega
  obtain ⟨a0, ae, a1, a2, _⟩ := low_facts hq hS
  obtain ⟨b0, be, b1, b2, _⟩ := low_facts hq hS2
  obtain ⟨k1, k2⟩ := decN_spec hq S
  obtain ⟨m1, m2⟩ := decN_spec hq (10 * S)
  rw [high_of hq hS, high_of hq hS2]
  have sp := Rat.natCast_pos.2 hS
  have ten : ((10 : Nat) : Rat) = 10 := rfl
  have one : ((1 : Nat) : Rat) = 1 := rfl
  have eS : ((10 * S : Nat) : Rat) = 10 * (S : Rat) := by rw [Rat.natCast_mul, ten]
  have u1 : 10 * decN q S < decN q (10 * S) + 1 := by
    refine nat_lt_of ?_
    rw [Rat.natCast_mul, Rat.natCast_add, ten, one]
    rw [eS] at m2
    generalize ((decN q (10 * S) : Nat) : Rat) = y at *
    generalize ((decN q S : Nat) : Rat) = x at *
    generalize (S : Rat) = s at *
    grind
  have u2 : decN q (10 * S) < 10 * (decN q S + 1) := by
    refine nat_lt_of ?_
    rw [Rat.natCast_mul, Rat.natCast_add, ten, one]
    rw [eS] at m1
    generalize ((decN q (10 * S) : Nat) : Rat) = y at *
    generalize ((decN q S : Nat) : Rat) = x at *
    generalize (S : Rat) = s at *
    grind
  have v1 := Rat.natCast_le_natCast.2 (show 10 * decN q S ≤ decN q (10 * S) by omega)
  have v2 := Rat.natCast_le_natCast.2 (show decN q (10 * S) + 1 ≤ 10 * (decN q S + 1) by omega)
  rw [Rat.natCast_mul, ten] at v1
  rw [Rat.natCast_mul, Rat.natCast_add, Rat.natCast_add, ten, one] at v2
  rw [eS] at be
  have lo : lowR q S ≤ lowR q (10 * S) := by
    refine le_by sp ?_
    generalize lowR q (10 * S) = L' at *
    generalize lowR q S = L at *
    generalize ((decN q (10 * S) : Nat) : Rat) = y at *
    generalize ((decN q S : Nat) : Rat) = x at *
    generalize (S : Rat) = s at *
    grind
  refine ⟨lo, ?_⟩
  have hi : lowR q (10 * S) + 1 / ((10 * S : Nat) : Rat) ≤ lowR q S + 1 / (S : Rat) := by
    rw [eS]
    have i1 : 1 / (S : Rat) * (S : Rat) = 1 := Rat.div_mul_cancel (Rat.ne_of_gt sp)
    have i2 : 1 / (10 * (S : Rat)) * (10 * (S : Rat)) = 1 := Rat.div_mul_cancel (Rat.ne_of_gt (Rat.mul_pos (by decide) sp))
    refine le_by sp ?_
    generalize 1 / (10 * (S : Rat)) = i at *
    generalize 1 / (S : Rat) = j at *
    generalize lowR q (10 * S) = L' at *
    generalize lowR q S = L at *
    generalize ((decN q (10 * S) : Nat) : Rat) = y at *
    generalize ((decN q S : Nat) : Rat) = x at *
    generalize (S : Rat) = s at *
    grind
  have jp : 0 < 1 / (S : Rat) := by rw [Rat.div_def, Rat.one_mul]; exact Rat.inv_pos.2 sp
  generalize 1 / ((10 * S : Nat) : Rat) = i at *
  generalize 1 / (S : Rat) = j at *
  generalize lowR q (10 * S) = L' at *
  generalize lowR q S = L at *
  by_cases h : L * L = q
  · have h3 : L' = L := by
      refine Rat.le_antisymm ?_ lo
      refine Rat.not_lt.1 fun h4 => ?_
      have := sq_lt a0 h4
      grind
    rw [if_pos h, h3, if_pos h]
    exact Rat.le_refl
  · rw [if_neg h]
    by_cases h5 : L' * L' = q
    · rw [if_pos h5]
      refine Rat.le_of_lt (lt_of_sq (by grind) ?_)
      grind
    · rw [if_neg h5]
      exact hi
theorem cmpT_cases (x y : Rat) : (x < y ∧ cmpR x y = -1) ∨ (x = y ∧ cmpR x y = 0) ∨ (y < x ∧ cmpR x y = 1) := by
  unfold cmpR
  by_cases h : x < y
  · rw [if_pos h]; exact .inl ⟨h, rfl⟩
  · rw [if_neg h]
    by_cases h2 : y < x
    · rw [if_pos h2]; exact .inr (.inr ⟨h2, rfl⟩)
    · rw [if_neg h2]; exact .inr (.inl ⟨Rat.le_antisymm (Rat.not_lt.1 h2) (Rat.not_lt.1 h), rfl⟩)
theorem cmpT_lt {x y : Rat} (h : x < y) : cmpR x y = -1 := if_pos h
theorem cmpT_gt {x y : Rat} (h : y < x) : cmpR x y = 1 := by
  rcases cmpT_cases x y with ⟨h1, _⟩ | ⟨h1, _⟩ | ⟨_, h1⟩
  · exact absurd h (Rat.not_lt.2 (Rat.le_of_lt h1))
  · rw [h1] at h; exact absurd h Rat.lt_irrefl
  · exact h1
theorem cmpT_same (x : Rat) : cmpR x x = 0 := by
  rcases cmpT_cases x x with ⟨h1, _⟩ | ⟨_, h1⟩ | ⟨h1, _⟩
  · exact absurd h1 Rat.lt_irrefl
  · exact h1
  · exact absurd h1 Rat.lt_irrefl
theorem cmpT_anti (x y : Rat) : cmpR y x = -cmpR x y := by
  rcases cmpT_cases x y with ⟨h1, h⟩ | ⟨h1, h⟩ | ⟨h1, h⟩ <;> rw [h]
  · exact cmpT_gt h1
  · rw [h1, cmpT_same]; rfl
  · exact cmpT_lt h1
theorem cmpT_scale {x y k : Rat} (hk : 0 < k) : cmpR (x * k) (y * k) = cmpR x y := by
  rcases cmpT_cases x y with ⟨h1, h⟩ | ⟨h1, h⟩ | ⟨h1, h⟩ <;> rw [h]
  · exact cmpT_lt (Rat.mul_lt_mul_of_pos_right h1 hk)
  · rw [h1, cmpT_same]
  · exact cmpT_gt (Rat.mul_lt_mul_of_pos_right h1 hk)
/-- The sign of a number. -/
def sgnR (x : Rat) : Int := cmpR x 0
theorem sgnR_mul (x y : Rat) : sgnR (x * y) = sgnR x * sgnR y := by
  unfold sgnR
  rcases cmpT_cases x 0 with ⟨h1, h⟩ | ⟨h1, h⟩ | ⟨h1, h⟩ <;> rcases cmpT_cases y 0 with ⟨h2, h'⟩ | ⟨h2, h'⟩ | ⟨h2, h'⟩ <;> rw [h, h']
  · refine cmpT_gt ?_
    have := Rat.mul_pos (show 0 < -x by grind) (show 0 < -y by grind)
    grind
  · rw [h2, Rat.mul_zero, cmpT_same]; rfl
  · refine cmpT_lt ?_
    have := Rat.mul_pos (show 0 < -x by grind) h2
    grind
  · rw [h1, Rat.zero_mul, cmpT_same]; rfl
  · rw [h1, Rat.zero_mul, cmpT_same]; rfl
  · rw [h1, Rat.zero_mul, cmpT_same]; rfl
  · refine cmpT_lt ?_
    have := Rat.mul_pos h1 (show 0 < -y by grind)
    grind
  · rw [h2, Rat.mul_zero, cmpT_same]; rfl
  · exact cmpT_gt (Rat.mul_pos h1 h2)
theorem sgnR_bound (x : Rat) : -1 ≤ sgnR x ∧ sgnR x ≤ 1 := by
  unfold sgnR
  rcases cmpT_cases x 0 with ⟨_, h⟩ | ⟨_, h⟩ | ⟨_, h⟩ <;> rw [h] <;> decide
/-- The order of multiples of roots. -/
def rcmpS (x y k : Int) : Int := if x < y then -1 else if y < x then 1 else if x = 0 then 0 else x * k
def rcmp (a p b q : Rat) : Int := rcmpS (sgnR a * sgnR p) (sgnR b * sgnR q) (cmpR (a * a * p) (b * b * q))
theorem rcmpS_anti (x y k : Int) : rcmpS y x (-k) = -rcmpS x y k := by
  unfold rcmpS
  by_cases h : x < y
  · rw [if_pos h, if_neg (by omega), if_pos h]; rfl
  · by_cases h2 : y < x
    · rw [if_pos h2, if_neg h, if_pos h2]
    · have : x = y := by omega
      subst this
      simp only [Int.lt_irrefl, if_false]
      by_cases h3 : x = 0
      · rw [if_pos h3, if_pos h3]; rfl
      · rw [if_neg h3, if_neg h3, Int.mul_neg]
theorem rcmp_anti (a p b q : Rat) : rcmp b q a p = -rcmp a p b q := by
  unfold rcmp
  rw [cmpT_anti (a * a * p) (b * b * q), rcmpS_anti]
theorem rcmp_own (a p : Rat) : rcmp a p a p = 0 := by
  unfold rcmp rcmpS
  rw [cmpT_same, if_neg (by omega), if_neg (by omega)]
  simp
theorem rcmpS_bound {x y k : Int} (hx : -1 ≤ x ∧ x ≤ 1) (hk : -1 ≤ k ∧ k ≤ 1) : -1 ≤ rcmpS x y k ∧ rcmpS x y k ≤ 1 := by
  unfold rcmpS
  split
  · omega
  · split
    · omega
    · split
      · omega
      · have : x = -1 ∨ x = 1 := by omega
        rcases this with rfl | rfl <;> omega
theorem rcmp_bound (a p b q : Rat) : -1 ≤ rcmp a p b q ∧ rcmp a p b q ≤ 1 := by
  refine rcmpS_bound ?_ ?_
  · rw [← sgnR_mul]
    exact sgnR_bound _
  · rcases cmpT_cases (a * a * p) (b * b * q) with ⟨_, h⟩ | ⟨_, h⟩ | ⟨_, h⟩ <;> rw [h] <;> decide
theorem rcmp_times (a p b q c : Rat) : rcmp (a * c) p (b * c) q = rcmp a p b q * sgnR c := by
  have e1 : sgnR (a * c) * sgnR p = sgnR a * sgnR p * sgnR c := by rw [sgnR_mul]; grind
  have e2 : sgnR (b * c) * sgnR q = sgnR b * sgnR q * sgnR c := by rw [sgnR_mul]; grind
  unfold rcmp
  rw [e1, e2]
  generalize sgnR a * sgnR p = x
  generalize sgnR b * sgnR q = y
  have key : c ≠ 0 → cmpR (a * c * (a * c) * p) (b * c * (b * c) * q) = cmpR (a * a * p) (b * b * q) := fun hc => by
    have cp : 0 < c * c := by
      rcases cmpT_cases c 0 with ⟨h, _⟩ | ⟨h, _⟩ | ⟨h, _⟩
      · have := Rat.mul_pos (show 0 < -c by grind) (show 0 < -c by grind)
        grind
      · exact absurd h hc
      · exact Rat.mul_pos h h
    rw [show a * c * (a * c) * p = a * a * p * (c * c) by grind, show b * c * (b * c) * q = b * b * q * (c * c) by grind, cmpT_scale cp]
  generalize cmpR (a * c * (a * c) * p) (b * c * (b * c) * q) = k2 at key ⊢
  generalize cmpR (a * a * p) (b * b * q) = k at key ⊢
  have hs : sgnR c = cmpR c 0 := rfl
  unfold rcmpS
  rcases cmpT_cases c 0 with ⟨h, h'⟩ | ⟨h, h'⟩ | ⟨h, h'⟩ <;> rw [hs, h']
  · rw [key (fun e => by rw [e] at h; exact absurd h Rat.lt_irrefl)]
    rcases Int.lt_trichotomy x y with g | g | g
    · rw [if_neg (by omega), if_pos (by omega), if_pos g]; rfl
    · subst g
      simp only [Int.lt_irrefl, if_false]
      by_cases g0 : x = 0
      · rw [if_pos (by omega), if_pos g0]; rfl
      · rw [if_neg (by omega), if_neg g0]
        grind
    · rw [if_pos (by omega), if_neg (by omega), if_pos g]; rfl
  · simp
  · rw [key (fun e => by rw [e] at h; exact absurd h Rat.lt_irrefl)]
    simp only [Int.mul_one]
theorem rcmp_ones (a b : Rat) : rcmp a 1 b 1 = cmpR a b := by
  have h1 : sgnR 1 = 1 := by decide +kernel
  unfold rcmp
  rw [h1, Int.mul_one, Int.mul_one, Rat.mul_one, Rat.mul_one]
  have ha : sgnR a = cmpR a 0 := rfl
  have hb : sgnR b = cmpR b 0 := rfl
  unfold rcmpS
  rcases cmpT_cases a 0 with ⟨x1, x2⟩ | ⟨x1, x2⟩ | ⟨x1, x2⟩ <;> rcases cmpT_cases b 0 with ⟨y1, y2⟩ | ⟨y1, y2⟩ | ⟨y1, y2⟩ <;> rw [ha, hb, x2, y2]
  · simp only [Int.lt_irrefl, if_false]
    rw [if_neg (by decide)]
    rcases cmpT_cases a b with ⟨z1, z2⟩ | ⟨z1, z2⟩ | ⟨z1, z2⟩ <;> rw [z2]
    · have := sq_lt (show 0 ≤ -b by grind) (show -b < -a by grind)
      rw [cmpT_gt (by grind)]; rfl
    · rw [z1, cmpT_same]; rfl
    · have := sq_lt (show 0 ≤ -a by grind) (show -a < -b by grind)
      rw [cmpT_lt (by grind)]; rfl
  · rw [cmpT_lt (show a < b by grind)]; rfl
  · rw [cmpT_lt (show a < b by grind)]; rfl
  · rw [cmpT_gt (show b < a by grind)]; rfl
  · rw [x1, y1, cmpT_same]; rfl
  · rw [cmpT_lt (show a < b by grind)]; rfl
  · rw [cmpT_gt (show b < a by grind)]; rfl
  · rw [cmpT_gt (show b < a by grind)]; rfl
  · simp only [Int.lt_irrefl, if_false]
    rw [if_neg (by decide), Int.one_mul]
    rcases cmpT_cases a b with ⟨z1, z2⟩ | ⟨z1, z2⟩ | ⟨z1, z2⟩ <;> rw [z2]
    · exact cmpT_lt (sq_lt (Rat.le_of_lt x1) z1)
    · rw [z1, cmpT_same]
    · exact cmpT_gt (sq_lt (Rat.le_of_lt y1) z1)
end Go.KI
namespace Go.KI
open Go
theorem sqR_none {q : Rat} (h : 0 ≤ q) : sqR q = none ↔ ∀ r, 0 ≤ r → r * r ≠ q := by
  constructor
  · intro hn r hr e
    have := (sqR_some h).2 ⟨hr, e⟩
    rw [hn] at this
    cases this
  · intro hr
    cases hs : sqR q with
    | none => rfl
    | some r =>
      obtain ⟨a, b⟩ := (sqR_some h).1 hs
      exact absurd b (hr r a)
/-- Multiplied by a square, the root is multiplied. -/
theorem sqR_times {q r : Rat} (hq : 0 ≤ q) (hr : 0 < r) : sqR (q * (r * r)) = (sqR q).map (· * r) := by
  have rn : r ≠ 0 := Rat.ne_of_gt hr
  have hq2 : 0 ≤ q * (r * r) := Rat.mul_nonneg hq (Rat.le_of_lt (Rat.mul_pos hr hr))
  cases hs : sqR q with
  | some a =>
    obtain ⟨h1, h2⟩ := (sqR_some hq).1 hs
    exact (sqR_some hq2).2 ⟨Rat.mul_nonneg h1 (Rat.le_of_lt hr), by rw [← h2]; grind⟩
  | none =>
    refine (sqR_none hq2).2 fun x hx e => ?_
    refine (sqR_none hq).1 hs (x / r) ?_ ?_
    · rw [Rat.div_def]
      exact Rat.mul_nonneg hx (Rat.le_of_lt (Rat.inv_pos.2 hr))
    · grind
/-- The root of an inverse. -/
theorem sqR_inv {q : Rat} (hq : 0 < q) : sqR q⁻¹ = (sqR q).map (fun x => x⁻¹) := by
  have hi : 0 < q⁻¹ := Rat.inv_pos.2 hq
  have qn : q ≠ 0 := Rat.ne_of_gt hq
  cases hs : sqR q with
  | some a =>
    obtain ⟨h1, h2⟩ := (sqR_some (Rat.le_of_lt hq)).1 hs
    have an : a ≠ 0 := fun e => by rw [e] at h2; grind
    have ap : 0 < a := by grind
    refine (sqR_some (Rat.le_of_lt hi)).2 ⟨Rat.le_of_lt (Rat.inv_pos.2 ap), ?_⟩
    rw [← h2, Rat.inv_mul_rev]
  | none =>
    refine (sqR_none (Rat.le_of_lt hi)).2 fun x hx e => ?_
    have xn : x ≠ 0 := fun e2 => by rw [e2] at e; grind
    have xp : 0 < x := by grind
    refine (sqR_none (Rat.le_of_lt hq)).1 hs x⁻¹ (Rat.le_of_lt (Rat.inv_pos.2 xp)) ?_
    rw [← Rat.inv_mul_rev, e, Rat.inv_inv]
theorem sqR_pos {q a : Rat} (hq : 0 < q) (h : sqR q = some a) : 0 < a ∧ a * a = q := by
  obtain ⟨h1, h2⟩ := (sqR_some (Rat.le_of_lt hq)).1 h
  have an : a ≠ 0 := fun e => by rw [e] at h2; grind
  exact ⟨by grind, h2⟩
/-- n of the normal form is 1 exactly if the number has a root. -/
theorem sq_num_den {q : Rat} (h0 : 0 < q.num) : (∃ t, t * t = q.num.toNat * q.den) ↔ ∃ r, sqR q = some r := by
  have hq : 0 ≤ q := Rat.num_nonneg.1 (Int.le_of_lt h0)
  have hn : 0 < q.num.toNat := by omega
  constructor
  · rintro ⟨t, ht⟩
    have hd : (0 : Rat) < ((q.den : Nat) : Rat) := Rat.natCast_pos.2 q.den_pos
    have hdn : ((q.den : Nat) : Rat) ≠ 0 := Rat.ne_of_gt hd
    refine ⟨((t : Nat) : Rat) / ((q.den : Nat) : Rat), (sqR_some hq).2 ⟨?_, ?_⟩⟩
    · rw [Rat.div_def]
      exact Rat.mul_nonneg Rat.natCast_nonneg (Rat.le_of_lt (Rat.inv_pos.2 hd))
    · have e := congrArg (fun n : Nat => (n : Rat)) ht
      simp only [Rat.natCast_mul] at e
      have c1 : ((q.num.toNat : Nat) : Rat) = q * ((q.den : Nat) : Rat) := by
        rw [← num_is, ← Rat.intCast_natCast, Int.toNat_of_nonneg (Int.le_of_lt h0)]
      rw [c1] at e
      generalize ((q.den : Nat) : Rat) = d at *
      generalize ((t : Nat) : Rat) = x at *
      grind
  · rintro ⟨r, hr⟩
    obtain ⟨h1, h2⟩ := (sqR_some hq).1 hr
    obtain ⟨e1, e2⟩ := sq_parts r
    have rn : 0 ≤ r.num := Rat.num_nonneg.2 h1
    refine ⟨r.num.toNat * r.den, ?_⟩
    rw [← h2, e1, e2, Int.toNat_mul rn rn]
    grind
end Go.KI
namespace Go.KI
open Go
theorem rootN_le (m : Nat) : rootN m ≤ m := by
  have h := (rootN_spec m).1
  rcases Nat.eq_zero_or_pos (rootN m) with h0 | h0
  · omega
  · exact Nat.le_trans (Nat.le_mul_of_pos_left _ h0) h
theorem ediv_toNat_le {a b : Int} : (a / b).toNat ≤ a.natAbs := by
  have := Int.natAbs_ediv_le_natAbs a b
  omega
theorem rootN_lt {m k : Nat} (h : m < 10 ^ (2 * k)) : rootN m < 10 ^ k := by
  refine Nat.lt_of_not_le fun h1 => ?_
  have h2 := Nat.mul_le_mul h1 h1
  have h3 := (rootN_spec m).1
  rw [← Nat.pow_add, show k + k = 2 * k by omega] at h2
  omega
theorem unitsN_lt {q u : Rat} {f p r k : Nat} (sq : sz p q) (su : sz r u) (hf : f < 10) (hk : p + (r + r) + 1 ≤ 2 * k) : unitsN q u f < 10 ^ k := by
  refine rootN_lt ?_
  refine Nat.lt_of_le_of_lt ediv_toNat_le ?_
  rw [Int.natAbs_mul, Int.natAbs_mul, Int.natAbs_mul, Int.natAbs_natCast, Int.natAbs_natCast]
  exact Nat.lt_of_lt_of_le (mul_pow_lt (mul_pow_lt sq.1 (mul_pow_lt su.2 su.2)) (show f < 10 ^ 1 by omega)) (Nat.pow_le_pow_right (by omega) hk)
theorem decN_lt {q : Rat} {S p r k : Nat} (sq : sz p q) (hS : S < 10 ^ r) (hk : p + r + r ≤ 2 * k) : decN q S < 10 ^ k := by
  refine rootN_lt ?_
  refine Nat.lt_of_le_of_lt ediv_toNat_le ?_
  rw [Int.natAbs_mul, Int.natAbs_mul, Int.natAbs_natCast]
  exact Nat.lt_of_lt_of_le (mul_pow_lt (mul_pow_lt sq.1 hS) hS) (Nat.pow_le_pow_right (by omega) hk)
theorem sz_natc {n p : Nat} (h : n < 10 ^ p) (hp : 1 ≤ p) : sz p ((n : Nat) : Rat) :=
  ⟨by rw [Rat.num_natCast, Int.natAbs_natCast]; exact h, by rw [Rat.den_natCast]; exact Nat.lt_of_lt_of_le (show 1 < 10 ^ 1 by decide) (Nat.pow_le_pow_right (by omega) hp)⟩
theorem floorR_sz {q u : Rat} (sq : sz 20 q) (su : sz 20 u) : sz 51 (floorR q u) := sz_mul (sz_natc (unitsN_lt (k := 31) sq su (by omega) (by omega)) (by omega)) su
theorem nearR_sz {q u : Rat} (sq : sz 20 q) (su : sz 20 u) : sz 51 (nearR q u) := by
  have h := unitsN_lt (f := 4) (k := 31) sq su (by omega) (by omega)
  exact sz_mul (sz_natc (n := (unitsN q u 4 + 1) / 2) (by omega) (by omega)) su
theorem divNat_sz {k S p : Nat} (h0 : 0 < S) (hk : k < 10 ^ p) (hS : S < 10 ^ p) : sz p (((k : Nat) : Rat) / (S : Rat)) := by
  have e : ((k : Nat) : Rat) / (S : Rat) = Rat.divInt (k : Int) (S : Int) := by rw [Rat.divInt_eq_div]; rfl
  rw [e]
  exact divInt_sz (by omega) (by rw [Int.natAbs_natCast]; exact hk) (by rw [Int.natAbs_natCast]; exact hS)
theorem lowR_sz {q : Rat} {S p r k : Nat} (sq : sz p q) (h0 : 0 < S) (hS : S < 10 ^ r) (hk : p + r + r ≤ 2 * k) (hr : r ≤ k + 1) : sz (k + 1) (lowR q S) ∧ sz (k + 1) ((((decN q S + 1 : Nat)) : Rat) / (S : Rat)) := by
  have h := decN_lt sq hS hk
  have hs2 : S < 10 ^ (k + 1) := Nat.lt_of_lt_of_le hS (Nat.pow_le_pow_right (by omega) hr)
  have e : (10 : Nat) ^ (k + 1) = 10 ^ k * 10 := Nat.pow_succ ..
  exact ⟨divNat_sz h0 (by omega) hs2, divNat_sz h0 (by omega) hs2⟩
theorem highR_sz {q : Rat} {S p r k : Nat} (sq : sz p q) (h0 : 0 < S) (hS : S < 10 ^ r) (hk : p + r + r ≤ 2 * k) (hr : r ≤ k + 1) : sz (k + 1) (highR q S) := by
  obtain ⟨a, b⟩ := lowR_sz sq h0 hS hk hr
  unfold highR
  split
  · exact a
  · exact b
end Go.KI
namespace Go.KP
open Go
section
variable {P : Program} {md : Region.Mode}

theorem any_steps {l : List Oper} {Q : Exit → Act → World → Prop} {n f : Nat} {S : Array Bool → Act → World → Prop} (hg : gateB md l 0 n = true) (hn : n ≤ l.length)
    (hS : ∀ a w, S (Array.replicate n true) a w → wpAny P md l.toArray Q f (padded (Array.replicate n true) (l.length - n)) a w)
    (hstep : ∀ (i : Nat) (o : Oper) (L : Array Bool) (a : Act) (w : World), i < n → l[i]? = some o → L.size = n → L.getD i false = false → (∀ j, waits md l.toArray i j → L.getD j false = true) → S L a w → o.wp P a w (fun a' w' => S (L.setIfInBounds i true) a' w') Q) :
    ∀ (fuel : Nat) (L : Array Bool) (a : Act), L.size = n → down md l.toArray L → (∀ j, j < 0 → j < n → L.getD j false = true) → L.toList.count false = fuel →
    ∀ w, S L a w → wpAny P md l.toArray Q (fuel + f) (padded L (l.length - n)) a w := by
  intro fuel
  induction fuel with
  | zero =>
    intro L a hL hd hk hc w h
    have : L = Array.replicate n true := by
      have hne := List.count_eq_zero.1 hc
      apply Array.ext
      · simp [hL]
      · intro i h1 h2
        rw [Array.getElem_replicate]
        cases hx : L[i] with
        | true => rfl
        | false => exact absurd (by rw [← hx]; simp) hne
    subst this
    rw [Nat.zero_add]
    exact hS a w h
  | succ fuel ih =>
    intro L a hL hd hk hc w h
    obtain ⟨j0, hj0, hjf⟩ : ∃ j, j < n ∧ L.getD j false = false := by
      have hmem : false ∈ L.toList := List.count_pos_iff.1 (by omega)
      obtain ⟨j, hj, hx⟩ := List.mem_iff_getElem.1 hmem
      refine ⟨j, by simpa [hL] using hj, ?_⟩
      have : j < L.size := by simpa using hj
      simpa [this] using hx
    have hpre : ∀ i, i ∈ Region.ready md l.toArray (padded L (l.length - n)) → i < n ∧ i ∈ Region.ready md (l.take n).toArray L := by
      intro i hi
      obtain ⟨h1, h2, h3⟩ := ready_iff.1 hi
      have hin : i < n := by
        rcases Nat.lt_or_ge i n with h | h
        · exact h
        · exfalso
          have hil : i < l.length := by simpa using h1
          rcases gate_behind hg i hil h with ⟨j, hj, hw⟩ | hall
          · have := h3 j hw
            rw [padded_f, Array.getD_eq_getD_getElem?, Array.getElem?_eq_none (by omega)] at this
            simp at this
          · have key : ∀ d j, n - j = d → j < n → L.getD j false = true := by
              intro d
              induction d using Nat.strongRecOn with
              | _ d ihd =>
                intro j hdj hj
                rcases hall j hj with h4 | h4 | ⟨m, h4, h5, h6⟩
                · exact hk j h4 hj
                · have := h3 j h4
                  rwa [padded_f] at this
                · exact hd m j (ihd (n - m) (by omega) m rfl h4) h6
            have := key _ j0 rfl hj0
            rw [hjf] at this
            cases this
      refine ⟨hin, ready_iff.2 ⟨by simp; omega, ?_, fun j hj => ?_⟩⟩
      · rwa [padded_t (by omega)] at h2
      · have := h3 j ((waits_take hin).1 hj)
        rwa [padded_f] at this
    have hback : ∀ i, i ∈ Region.ready md (l.take n).toArray L → i ∈ Region.ready md l.toArray (padded L (l.length - n)) := by
      intro i hi
      obtain ⟨h1, h2, h3⟩ := ready_iff.1 hi
      have hin : i < n := by simp at h1; omega
      refine ready_iff.2 ⟨by simp; omega, ?_, fun j hj => ?_⟩
      · rwa [padded_t (by omega)]
      · rw [padded_f]
        exact h3 j ((waits_take hin).2 hj)
    rw [Nat.add_right_comm]
    refine ⟨fun h0 => ?_, fun i hi => ?_⟩
    · obtain ⟨i, hi⟩ := some_ready hg hL j0 hj0 hjf
      have := hback i hi
      rw [h0] at this
      cases this
    · obtain ⟨hin, hr⟩ := hpre i hi
      obtain ⟨r1, r2, r3⟩ := ready_iff.1 hr
      have hiL : i < L.size := by omega
      have hfi : L.getD i false = false := by rw [← getD_tf hiL]; exact r2
      obtain ⟨b1, b2, b3⟩ := gate_before hg i hin
      have hd' : down md l.toArray (L.setIfInBounds i true) := by
        intro x y hx hxy
        have hmono : ∀ y, L.getD y false = true → (L.setIfInBounds i true).getD y false = true := by
          intro y hy
          by_cases hyi : y = i
          · subst hyi; rw [hfi] at hy; cases hy
          · simpa [Array.getD_eq_getD_getElem?, Array.getElem?_setIfInBounds_ne (Ne.symm hyi)] using hy
        by_cases hxi : x = i
        · subst hxi
          exact hmono y (r3 y ((waits_take hin).2 hxy))
        · have hx' : L.getD x false = true := by simpa [Array.getD_eq_getD_getElem?, Array.getElem?_setIfInBounds_ne (Ne.symm hxi)] using hx
          exact hmono y (hd x y hx' hxy)
      have hk' : ∀ j, j < 0 → j < n → (L.setIfInBounds i true).getD j false = true := by
        intro j h1 h2
        have hj := hk j h1 h2
        by_cases hji : j = i
        · subst hji; rw [hfi] at hj; cases hj
        · simpa [Array.getD_eq_getD_getElem?, Array.getElem?_setIfInBounds_ne (Ne.symm hji)] using hj
      have hnext : ∀ a' w', S (L.setIfInBounds i true) a' w' → wpAny P md l.toArray Q (fuel + f) ((padded L (l.length - n)).setIfInBounds i true) a' w' := by
        intro a' w' h'
        rw [padded_set hiL]
        exact ih _ a' (by simpa using hL) hd' hk' (by have := count_set hiL hfi; omega) w' h'
      unfold wpOp
      have e2 : l.toArray[i]? = some l[i] := by simp [b1]
      rw [e2]
      have hgd : l[i].guard = none := b2 _ (List.getElem?_eq_getElem b1)
      have hw1 : ∀ ys, Region.wanted l[i] ys = true := fun ys => by simp [Region.wanted, hgd]
      simp only [hw1, if_true]
      exact .inl (Oper.wp_mono hnext (hstep i l[i] L a w hin (List.getElem?_eq_getElem b1) hL hfi (fun j hj => r3 j ((waits_take hin).2 hj)) h))
/-- **A region that draws its order: its first n operations by steps, in whatever order; the rest in order.** -/
theorem region_steps {id : Nat} {Q : Exit → Act → World → Prop} {a : Act} {w : World} {l : List Oper} (n : Nat) (S : Array Bool → Act → World → Prop) (hm : P.follows .mixedOrders = true) (hn : n ≤ l.length)
    (hg : gateB .any l 0 n = true) (hs : seqB .any l n = true) (h0 : S (Array.replicate n false) a { w with drawn := w.drawn + 1 })
    (hstep : ∀ (i : Nat) (o : Oper) (L : Array Bool) (a : Act) (w : World), i < n → l[i]? = some o → L.size = n → L.getD i false = false → (∀ j, waits .any l.toArray i j → L.getD j false = true) → S L a w → o.wp P a w (fun a' w' => S (L.setIfInBounds i true) a' w') Q)
    (hend : ∀ a w, S (Array.replicate n true) a w → wpList P l.toArray Q (l.drop n) a w) : (Code.region id l.toArray true).wp P Q a w := by
  refine wp_region_any hm ?_
  have h2 := any_steps (P := P) (Q := Q) (S := S) (f := (l.drop n).length) hg hn (fun a2 w2 h3 => any_seq hs (l.drop n) n a2 w2 (fun j => by simp) (Nat.le_refl _) (by simp; omega) (hend a2 w2 h3)) hstep
    n (Array.replicate n false) a (by simp) (fun i j hi => by simp [Array.getD_eq_getD_getElem?, Array.getElem?_replicate] at hi; split at hi <;> simp at hi) (fun j hj => by omega) (by simp) _ h0
  have e : padded (Array.replicate n false) (l.length - n) = Array.replicate l.toArray.size false := by
    unfold padded
    rw [Array.replicate_append_replicate]
    congr 1
    simp
    omega
  rw [e] at h2
  have e2 : n + (l.drop n).length = l.toArray.size := by simp; omega
  rw [e2] at h2
  exact h2
theorem getD_set {L : Array Bool} {i j n : Nat} (hL : L.size = n) (hi : i < n) : (L.setIfInBounds i true).getD j false = if i = j then true else L.getD j false := by
  simp only [Array.getD_eq_getD_getElem?, Array.getElem?_setIfInBounds]
  by_cases h : i = j
  · subst h
    simp [hL, hi]
  · simp [h]
end
end Go.KP
namespace Go.Proofs.YtgddookioipjiaaGreatDoor
open Go.RowKit Go.KP Go.KI Go.Shelf
attribute [local go_sem] Oper.semAt_some

theorem roomy_sz {q : Rat} (h : roomy q) : sz 90 q := ⟨(dec_len_le (by omega)).1 h.2.1, (dec_len_le (by omega)).1 h.2.2⟩
theorem fits_mul {x y : Int} {p q : Nat} (hx : x.natAbs < 10 ^ p) (hy : y.natAbs < 10 ^ q) (h : p + q ≤ 300) : fits (x * y) ∧ (x * y).natAbs < 10 ^ (p + q) := by
  have e : (x * y).natAbs < 10 ^ (p + q) := by rw [Int.natAbs_mul]; exact mul_pow_lt hx hy
  exact ⟨fits_small (by rw [most_eq]; omega) e, e⟩
theorem num_lt {q : Rat} (h : q < 0) : q.num < 0 := by
  rcases Int.lt_or_le q.num 0 with h1 | h1
  · exact h1
  · exact absurd h (Rat.not_lt.2 (Rat.num_nonneg.1 h1))
theorem num_gt {q : Rat} (h : 0 < q) : 0 < q.num := by
  have h1 := Rat.num_nonneg.2 (Rat.le_of_lt h)
  have h2 : q.num ≠ 0 := fun e => by rw [Rat.num_eq_zero.1 e] at h; exact absurd h Rat.lt_irrefl
  omega
theorem nat_abs_lt {n p : Nat} (h : n < 10 ^ p) : ((n : Nat) : Int).natAbs < 10 ^ p := by rw [Int.natAbs_natCast]; exact h
set_option maxRecDepth 100000 in
theorem Root_zero (w : World) :
    Calls Tryz.prog 81 #[.string (iB 0)] w (Ret w (pairT (iB 0))) := by
  have c1 : chkI (iB 0).data.toList = 0 := by rw [iB_list]; exact chk_fits fits_zero
  have H1 := hide (check_any (iB 0) (by have := iB_size fits_zero; omega) w)
  rw [c1] at H1
  obtain ⟨hp, h45⟩ := iB_head 0
  have hz := iB_zero_test 0
  rw [decide_eq_true rfl] at hz
  rw [decide_eq_false (by omega)] at h45
  have hp0 : (0 : Int) < ((iB 0).size : Int) := by omega
  generalize iB 0 = X at H1 hp h45 hz hp0 ⊢
  clear c1
  go_enter Tryz.func81, Tryz.ntmps81
  go_wp2_with fail
  refine H1.out.mono ?_
  rintro e w1 ⟨rfl, hb1⟩
  have HB1 := hide hb1
  clear hb1
  go_wp2_with fail
  refine bodyPost_ret (results_tmp2 rfl _ _ _) rfl ?_
  exact ⟨rfl, HB1.out⟩
theorem rootN_zero : rootN 0 = 0 := rootN_eq (by omega) (by omega)
theorem Root_I {n : Nat} (f : fits (n : Int)) (B : Nat) (w : World) (hB : B ≤ w.heap.size) (hT : P10 B w) :
    Calls Tryz.prog 81 #[.string (iB (n : Int))] w (Ret w (pairT (iB ((rootN n : Nat) : Int)))) := by
  rcases Nat.eq_zero_or_pos n with h | h
  · subst h
    rw [rootN_zero]
    exact Root_zero w
  · exact Root_to (iB_list _) (iB_list _) f h B w hB hT
/-- A call that keeps a class of worlds. -/
theorem cls_call {f : Nat} {args : Array Value} {v : Value} {B n : Nat} {W0 : World} (hT : P10 B W0) (hB : B ≤ n) (H : ∀ w, B ≤ w.heap.size → P10 B w → Calls Tryz.prog f args w (Ret w v)) (x : Of (Below n W0)) (hx : n ≤ x.w.heap.size) :
    Calls Tryz.prog f args x.w fun e w' => e = .returned v ∧ Cls (Below n W0) w' :=
  (H x.w (by omega) (hT.on x.h hB)).mono fun _ _ ⟨h, hb⟩ => ⟨h, Cls.mk (x.h.trans (hb.mono hx))⟩
theorem set1a {w : World} {b : Nat} {u0 u1 : Value} {t : TypeId} (h : w.heap[b]? = some (.cells #[u0, u1] t (0, 0))) (v0 : Value) : (w.setCell ⟨b, 0, none⟩ v0).heap[b]? = some (.cells #[v0, u1] t (0, 0)) := by
  simp only [World.setCell, Array.getElem?_modify, h]
  simp
theorem set_oth {w : World} {b c o : Nat} {x : Obj} (h : w.heap[b]? = some x) (hne : c ≠ b) (v : Value) : (w.setCell ⟨c, o, none⟩ v).heap[b]? = some x := by
  simp only [World.setCell]
  rw [Array.getElem?_modify, if_neg hne]
  exact h
set_option maxRecDepth 100000 in
set_option maxHeartbeats 8000000 in
theorem rtimes_I {a b c d : Int} (fa : fits a) (fb : fits b) (fc : fits c) (fd : fits d) (f1 : fits (a * c)) (f2 : fits (b * d)) (B : Nat) (w : World) (hB : B ≤ w.heap.size) (hT : P10 B w) :
    Calls Tryz.prog 68 #[rpairV (iB a) (iB b), rpairV (iB c) (iB d)] w (Ret w (rpairV (iB (a * c)) (iB (b * d)))) := by
  have X0 := hide (heap3 w (rpairO (iB a) (iB b)) (rpairO (iB c) (iB d)) (rpairO ⟨#[]⟩ ⟨#[]⟩))
  obtain ⟨W0, hW0⟩ : ∃ W, W = ((w.alloc (rpairO (iB a) (iB b))).alloc (rpairO (iB c) (iB d))).alloc (rpairO ⟨#[]⟩ ⟨#[]⟩) := ⟨_, rfl⟩
  rw [← hW0] at X0
  have E1 := hide X0.out.1
  have E2 := hide X0.out.2.1
  have E3 := hide X0.out.2.2.1
  have HB0 := hide X0.out.2.2.2.2
  have hs := HB0.out.size
  have HN1 := hide (fun (o : Of (Below W0.heap.size W0)) => cls_call (hT.on HB0.out hB) (by omega) (fun w hB hT => rmul_I fa fc f1 B w hB hT) o o.h.size)
  have HN2 := hide (fun (o : Of (Below W0.heap.size W0)) => cls_call (hT.on HB0.out hB) (by omega) (fun w hB hT => rmul_I fb fd f2 B w hB hT) o o.h.size)
  generalize iB (a * c) = X at HN1 ⊢
  generalize iB (b * d) = Y at HN2 ⊢
  generalize iB a = P0 at *
  generalize iB b = P1 at *
  generalize iB c = Q0 at *
  generalize iB d = Q1 at *
  clear fa fb fc fd f1 f2 hT hs X0
  go_enter Tryz.func68, Tryz.ntmps68
  go_wp2_with fail
  rw [← hW0]
  clear hW0
  have hx1 : ∀ x : Of (Below W0.heap.size W0), ∀ o, x.w.cell? ⟨w.heap.size, o, none⟩ = W0.cell? ⟨w.heap.size, o, none⟩ := fun x o => x.h.cell (p := ⟨w.heap.size, o, none⟩) (lt_blk E1.out)
  have hx2 : ∀ x : Of (Below W0.heap.size W0), ∀ o, x.w.cell? ⟨w.heap.size + 1, o, none⟩ = W0.cell? ⟨w.heap.size + 1, o, none⟩ := fun x o => x.h.cell (p := ⟨w.heap.size + 1, o, none⟩) (lt_blk E2.out)
  have c1 := fun o => cell_blk E1.out o
  have c2 := fun o => cell_blk E2.out o
  have kn : Nonempty (Of (Below W0.heap.size W0)) := ⟨⟨_, Below.refl _ _⟩⟩
  refine region_prefix (C := Cls (Below W0.heap.size W0)) 10 (by kernel_rfl) (by decide) (by kernel_rfl) (by kernel_rfl) (by kernel_rfl) (by kernel_rfl) (Cls.mk (Below.refl _ _).drew) ?_
  simp only [List.take_succ_cons, List.take_zero, List.drop_succ_cons, List.drop_zero]
  repeat (go_big_quiet_step (first | rfl | with_reducible exact HN1.out _ | with_reducible exact HN2.out _))
  refine wpQuiet_nil ?_
  intro w1 hcl
  have hb1 := hcl.out
  have A2 := hide (below_blk hb1 E3.out (lt_blk E3.out))
  have HB1 := hide (HB0.out.trans (hb1.mono HB0.out.size))
  clear hcl hb1 hx1 hx2 c1 c2 HN1 HN2 kn
  have k0 := cell_blk A2.out 0
  have k1 := cell_blk A2.out 1
  have f0 := froz_blk A2.out 0
  have f1 := froz_blk A2.out 1
  have l6 := lt_blk A2.out
  go_wp2_with fail
  exact exit_rpair rfl (set2 A2.out _ _).1 rfl rfl ⟨rfl, (HB1.out.setCell (p := ⟨w.heap.size + 2, 0, none⟩) (show w.heap.size ≤ w.heap.size + 2 by omega) _).setCell (p := ⟨w.heap.size + 2, 1, none⟩) (show w.heap.size ≤ w.heap.size + 2 by omega) _⟩
set_option maxRecDepth 100000 in
set_option maxHeartbeats 8000000 in
theorem rover_I {a b c d : Int} (fa : fits a) (fb : fits b) (fc : fits c) (fd : fits d) (f1 : fits (a * d)) (f2 : fits (b * c)) (B : Nat) (w : World) (hB : B ≤ w.heap.size) (hT : P10 B w) :
    Calls Tryz.prog 126 #[rpairV (iB a) (iB b), rpairV (iB c) (iB d)] w (Ret w (rpairV (iB (a * d)) (iB (b * c)))) := by
  have X0 := hide (heap3 w (rpairO (iB a) (iB b)) (rpairO (iB c) (iB d)) (rpairO ⟨#[]⟩ ⟨#[]⟩))
  obtain ⟨W0, hW0⟩ : ∃ W, W = ((w.alloc (rpairO (iB a) (iB b))).alloc (rpairO (iB c) (iB d))).alloc (rpairO ⟨#[]⟩ ⟨#[]⟩) := ⟨_, rfl⟩
  rw [← hW0] at X0
  have E1 := hide X0.out.1
  have E2 := hide X0.out.2.1
  have E3 := hide X0.out.2.2.1
  have HB0 := hide X0.out.2.2.2.2
  have hs := HB0.out.size
  have HN1 := hide (fun (o : Of (Below W0.heap.size W0)) => cls_call (hT.on HB0.out hB) (by omega) (fun w hB hT => rmul_I fa fd f1 B w hB hT) o o.h.size)
  have HN2 := hide (fun (o : Of (Below W0.heap.size W0)) => cls_call (hT.on HB0.out hB) (by omega) (fun w hB hT => rmul_I fb fc f2 B w hB hT) o o.h.size)
  generalize iB (a * d) = X at HN1 ⊢
  generalize iB (b * c) = Y at HN2 ⊢
  generalize iB a = P0 at *
  generalize iB b = P1 at *
  generalize iB c = Q0 at *
  generalize iB d = Q1 at *
  clear fa fb fc fd f1 f2 hT hs X0
  go_enter Tryz.func126, Tryz.ntmps126
  go_wp2_with fail
  rw [← hW0]
  clear hW0
  have hx1 : ∀ x : Of (Below W0.heap.size W0), ∀ o, x.w.cell? ⟨w.heap.size, o, none⟩ = W0.cell? ⟨w.heap.size, o, none⟩ := fun x o => x.h.cell (p := ⟨w.heap.size, o, none⟩) (lt_blk E1.out)
  have hx2 : ∀ x : Of (Below W0.heap.size W0), ∀ o, x.w.cell? ⟨w.heap.size + 1, o, none⟩ = W0.cell? ⟨w.heap.size + 1, o, none⟩ := fun x o => x.h.cell (p := ⟨w.heap.size + 1, o, none⟩) (lt_blk E2.out)
  have c1 := fun o => cell_blk E1.out o
  have c2 := fun o => cell_blk E2.out o
  have kn : Nonempty (Of (Below W0.heap.size W0)) := ⟨⟨_, Below.refl _ _⟩⟩
  refine region_prefix (C := Cls (Below W0.heap.size W0)) 10 (by kernel_rfl) (by decide) (by kernel_rfl) (by kernel_rfl) (by kernel_rfl) (by kernel_rfl) (Cls.mk (Below.refl _ _).drew) ?_
  simp only [List.take_succ_cons, List.take_zero, List.drop_succ_cons, List.drop_zero]
  repeat (go_big_quiet_step (first | rfl | with_reducible exact HN1.out _ | with_reducible exact HN2.out _))
  refine wpQuiet_nil ?_
  intro w1 hcl
  have hb1 := hcl.out
  have A2 := hide (below_blk hb1 E3.out (lt_blk E3.out))
  have HB1 := hide (HB0.out.trans (hb1.mono HB0.out.size))
  clear hcl hb1 hx1 hx2 c1 c2 HN1 HN2 kn
  have k0 := cell_blk A2.out 0
  have k1 := cell_blk A2.out 1
  have f0 := froz_blk A2.out 0
  have f1 := froz_blk A2.out 1
  have l6 := lt_blk A2.out
  go_wp2_with fail
  exact exit_rpair rfl (set2 A2.out _ _).1 rfl rfl ⟨rfl, (HB1.out.setCell (p := ⟨w.heap.size + 2, 0, none⟩) (show w.heap.size ≤ w.heap.size + 2 by omega) _).setCell (p := ⟨w.heap.size + 2, 1, none⟩) (show w.heap.size ≤ w.heap.size + 2 by omega) _⟩
set_option maxRecDepth 100000 in
theorem rfloor_I {a b : Int} (fa : fits a) (fb : fits b) (hb : 0 < b) (B : Nat) (w : World) (hB : B ≤ w.heap.size) (hT : P10 B w) :
    Calls Tryz.prog 82 #[rpairV (iB a) (iB b)] w (Ret w (.string (iB (a / b)))) := by
  have HT := hide hT
  have H1 := hide (fun w hB hT => rquot_I fa fb hb B w hB hT)
  have X0 := hide (heap1 w (rpairO (iB a) (iB b)))
  generalize iB (a / b) = X at H1 ⊢
  generalize iB (a % b) = Y at H1
  generalize iB a = P0 at *
  generalize iB b = P1 at *
  clear fa fb hb hT
  go_enter Tryz.func82, Tryz.ntmps82
  go_wp2_with fail
  have k0 := cell_blk X0.out.1 0
  have k1 := cell_blk X0.out.1 1
  have kl := lt_blk X0.out.1
  go_wp2_with fail
  refine (H1.out _ (Nat.le_trans hB X0.out.2.2.size) (HT.out.on X0.out.2.2 hB)).mono ?_
  rintro e w1 ⟨rfl, hb1⟩
  have HB1 := hide (X0.out.2.2.trans (hb1.mono X0.out.2.2.size))
  clear hb1 k0 k1 kl
  go_wp2_with fail
  go_ret
  exact ⟨rfl, HB1.out⟩
set_option maxRecDepth 100000 in
theorem rmultiple_T {n : Int} {u : Rat} (fn : fits n) (fu : fitsQ u) (hc : mulC (n : Rat) u) (B : Nat) (w : World) (hB : B ≤ w.heap.size) (hT : PQ B w) :
    Calls Tryz.prog 72 #[.string (iB n), .string (T u)] w (Ret w (.string (T ((n : Rat) * u)))) := by
  have HT := hide hT
  have H1 := hide (fun w hB hT => qmul_to (s := iB n) (by rw [iB_T, T_list]) (T_list u) (fitsQ_int fn) fu hc B w hB hT)
  rw [show strB (ratS ((n : Rat) * u)) = T ((n : Rat) * u) from rfl] at H1
  generalize T ((n : Rat) * u) = Z at H1 ⊢
  generalize iB n = X at H1 ⊢
  generalize T u = Y at H1 ⊢
  clear fn fu hc hT
  go_enter Tryz.func72, Tryz.ntmps72
  go_wp2_with fail
  refine (H1.out _ hB HT.out).mono ?_
  rintro e w1 ⟨rfl, hb1⟩
  have HB1 := hide hb1
  clear hb1
  go_wp2_with fail
  go_ret
  exact ⟨rfl, HB1.out⟩
theorem T_head (q : Rat) : ((T q).data.toList.head? == some 45) = decide (q.num < 0) := by
  rw [T_list]
  by_cases h : q.num < 0
  · rw [decide_eq_true h, ratS_head.2 h]; rfl
  · rw [decide_eq_false h]
    exact beq_false_of_ne fun e => h (ratS_head.1 e)
set_option maxRecDepth 100000 in
theorem rSign_T (q : Rat) (w : World) : Calls Tryz.prog 66 #[.string (T q)] w (fun e w' => e = .returned (.int .i64 (sgnR q)) ∧ w' = w) := by
  have hz := T_num0 q
  have HN := hide (rNegative_at (T q) w)
  rw [T_head] at HN
  have hk : (q.num = 0 ∧ sgnR q = 0) ∨ (¬ q.num = 0 ∧ q.num < 0 ∧ sgnR q = -1) ∨ (¬ q.num = 0 ∧ ¬ q.num < 0 ∧ sgnR q = 1) := by
    rcases cmpT_cases q 0 with ⟨h, h2⟩ | ⟨h, h2⟩ | ⟨h, h2⟩
    · exact .inr (.inl ⟨by have := num_lt h; omega, num_lt h, h2⟩)
    · exact .inl ⟨by rw [h]; rfl, h2⟩
    · exact .inr (.inr ⟨by have := num_gt h; omega, by have := num_gt h; omega, h2⟩)
  obtain ⟨S, hS⟩ : ∃ S, S = sgnR q := ⟨_, rfl⟩
  rw [← hS] at hk ⊢
  rcases hk with ⟨h1, rfl⟩ | ⟨h1, h2, rfl⟩ | ⟨h1, h2, rfl⟩
  · rw [decide_eq_true h1] at hz
    generalize T q = X at hz HN ⊢
    clear h1 hS HN
    go_enter Tryz.func66, Tryz.ntmps66
    go_wp2_with fail
    go_ret
    exact ⟨rfl, rfl⟩
  · rw [decide_eq_false h1] at hz
    rw [decide_eq_true h2] at HN
    generalize T q = X at hz HN ⊢
    clear h1 h2 hS
    go_enter Tryz.func66, Tryz.ntmps66
    go_wp2_with fail
    refine HN.out.mono ?_
    rintro e w1 ⟨rfl, rfl⟩
    go_wp2_with fail
    go_ret
    exact ⟨rfl, rfl⟩
  · rw [decide_eq_false h1] at hz
    rw [decide_eq_false h2] at HN
    generalize T q = X at hz HN ⊢
    clear h1 h2 hS
    go_enter Tryz.func66, Tryz.ntmps66
    go_wp2_with fail
    refine HN.out.mono ?_
    rintro e w1 ⟨rfl, rfl⟩
    go_wp2_with fail
    go_ret
    exact ⟨rfl, rfl⟩
/-- A slot that is filled or not. -/
def sel (b : Bool) (v : Value) : Value := if b then v else undef
theorem sel_t (v : Value) : sel true v = v := rfl
theorem sel_f (v : Value) : sel false v = undef := rfl
def actU (QT UT FT QN QD UN UD VN VD PN PD : ByteArray) (bU : Nat) (y6 : Nat) (x0 x1 x2 x3 x4 x5 x6 : Bool) : Act := { tmps := #[.string QT, .string UT, .string FT, undef, undef, undef, .string ⟨#[]⟩, .pointer (some ⟨bU, 0, none⟩), sel x6 (.pointer (some ⟨y6, 0, none⟩)), undef, undef, .string UT, rpairV UN UD, sel x0 (.string QT), sel x1 (rpairV QN QD), sel x2 (rpairV UN UD), sel x3 (rpairV UN UD), sel x4 (rpairV VN VD), sel x5 (rpairV PN PD), undef, undef, undef, undef, undef, undef, undef, undef, undef, undef, undef, undef], defers := [] }
def RelU (QT UT FT QN QD UN UD VN VD PN PD : ByteArray) (bU : Nat) (W0 : World) (L : Array Bool) (F : Act) (wz : World) : Prop :=
  ∃ y6, F = actU QT UT FT QN QD UN UD VN VD PN PD bU y6 (L.getD 0 false) (L.getD 1 false) (L.getD 2 false) (L.getD 3 false) (L.getD 4 false) (L.getD 5 false) (L.getD 6 false) ∧ Below W0.heap.size W0 wz ∧ (L.getD 6 false = true → W0.heap.size ≤ y6 ∧ wz.heap[y6]? = some (rpairO ⟨#[]⟩ ⟨#[]⟩))
theorem RelU.keep {QT UT FT QN QD UN UD VN VD PN PD : ByteArray} {bU : Nat} {W0 wz wz' : World} {L L' : Array Bool} {F : Act} {y6 : Nat} (hB : Below W0.heap.size W0 wz) (h6 : L.getD 6 false = true → W0.heap.size ≤ y6 ∧ wz.heap[y6]? = some (rpairO ⟨#[]⟩ ⟨#[]⟩)) (hb : Below wz.heap.size wz wz') (e6 : L'.getD 6 false = L.getD 6 false) (hF : F = actU QT UT FT QN QD UN UD VN VD PN PD bU y6 (L'.getD 0 false) (L'.getD 1 false) (L'.getD 2 false) (L'.getD 3 false) (L'.getD 4 false) (L'.getD 5 false) (L'.getD 6 false)) : RelU QT UT FT QN QD UN UD VN VD PN PD bU W0 L' F wz' := by
  refine ⟨y6, hF, hB.trans (hb.mono hB.size), ?_⟩
  · rw [e6]
    intro h
    exact ⟨(h6 h).1, below_blk hb (h6 h).2 (lt_blk (h6 h).2)⟩
set_option maxRecDepth 100000 in
set_option maxHeartbeats 16000000 in
theorem runits_T {q u : Rat} {f : Nat} (rq : roomy q) (ru : roomy u) (hq : 0 ≤ q.num) (hu : 0 < u.num) (hf : f < 10) (B : Nat) (w : World) (hB : B ≤ w.heap.size) (hT : PQ B w) :
    Calls Tryz.prog 73 #[.string (T q), .string (T u), .string (iB (f : Int))] w (Ret w (.string (iB ((unitsN q u f : Nat) : Int)))) := by
  have HT := hide hT
  have sq := roomy_sz rq
  have su := roomy_sz ru
  have sqd : ((q.den : Nat) : Int).natAbs < 10 ^ 90 := nat_abs_lt sq.2
  have sud : ((u.den : Nat) : Int).natAbs < 10 ^ 90 := nat_abs_lt su.2
  have sf : ((f : Nat) : Int).natAbs < 10 ^ 1 := nat_abs_lt (by omega)
  have fqn : fits q.num := rq.1.1
  have fqd : fits (q.den : Int) := rq.1.2
  have fun_ : fits u.num := ru.1.1
  have fud : fits (u.den : Int) := ru.1.2
  have ff : fits (f : Int) := fits_small (n := 1) (by rw [most_eq]; omega) sf
  have b1 := fits_mul su.1 su.1 (by omega)
  have b2 := fits_mul sud sud (by omega)
  have b3 := fits_mul sq.1 b2.2 (by omega)
  have b4 := fits_mul sqd b1.2 (by omega)
  have b5 := fits_mul b3.2 sf (by omega)
  have hd0 : 0 < (q.den : Int) * (u.num * u.num) := Int.mul_pos (by have := q.den_pos; omega) (Int.mul_pos hu hu)
  have hn0 : 0 ≤ q.num * ((u.den : Int) * u.den) * f := Int.mul_nonneg (Int.mul_nonneg hq (Int.mul_nonneg (by omega) (by omega))) (by omega)
  have hz : q.num * ((u.den : Int) * u.den) * f / ((q.den : Int) * (u.num * u.num)) = (((q.num * ((u.den : Int) * u.den) * f / ((q.den : Int) * (u.num * u.num))).toNat : Nat) : Int) := by
    have := Int.ediv_nonneg hn0 (Int.le_of_lt hd0)
    omega
  have fz : fits (q.num * ((u.den : Int) * u.den) * f / ((q.den : Int) * (u.num * u.num))) := fits_of_le b5.1 (Int.natAbs_ediv_le_natAbs _ _)
  have HOU := hide (fun w hB hT => rOf_T ru.1 B w hB hT)
  have HOQ := hide (fun w hB hT => rOf_T rq.1 B w hB hT)
  have HTM := hide (fun w hB hT => rtimes_I fun_ fud fun_ fud b1.1 b2.1 B w hB hT)
  have HOV := hide (fun w hB hT => rover_I fqn fqd b1.1 b2.1 b3.1 b4.1 B w hB hT)
  have HM := hide (fun w hB hT => rmul_I b3.1 ff b5.1 B w hB hT)
  have HF := hide (fun w hB hT => rfloor_I b5.1 b4.1 hd0 B w hB hT)
  rw [hz] at fz
  have HR := hide (fun w hB hT => Root_I fz B w hB hT)
  rw [← hz] at HR
  show Calls _ _ _ _ (Ret w (.string (iB ((rootN (q.num * ((u.den : Int) * u.den) * f / ((q.den : Int) * (u.num * u.num))).toNat : Nat) : Int))))
  generalize iB ((rootN (q.num * ((u.den : Int) * u.den) * f / ((q.den : Int) * (u.num * u.num))).toNat : Nat) : Int) = R at HR ⊢
  generalize iB (q.num * ((u.den : Int) * u.den) * f / ((q.den : Int) * (u.num * u.num))) = Z at HR HF
  generalize iB (q.num * ((u.den : Int) * u.den) * f) = PN2 at HM HF
  generalize iB (q.num * ((u.den : Int) * u.den)) = PN at HM HOV
  generalize iB ((q.den : Int) * (u.num * u.num)) = PD at HF HOV
  generalize iB (u.num * u.num) = VN at HTM HOV
  generalize iB ((u.den : Int) * (u.den : Int)) = VD at HTM HOV
  rw [show numB q = iB q.num from rfl, show denB q = iB (q.den : Int) from rfl] at HOQ
  rw [show numB u = iB u.num from rfl, show denB u = iB (u.den : Int) from rfl] at HOU
  generalize iB q.num = QN at HOQ HOV
  generalize iB (q.den : Int) = QD at HOQ HOV
  generalize iB u.num = UN at HOU HTM
  generalize iB (u.den : Int) = UD at HOU HTM
  generalize iB (f : Int) = FT at HM ⊢
  generalize T q = QT at HOQ ⊢
  generalize T u = UT at HOU ⊢
  clear rq ru hq hu hf hT sq su sqd sud sf fqn fqd fun_ fud ff b1 b2 b3 b4 b5 hd0 hn0 hz fz
  go_enter Tryz.func73, Tryz.ntmps73
  go_wp2_with fail
  refine (HOU.out _ hB HT.out).mono ?_
  rintro e w1 ⟨rfl, hb1⟩
  have X1 := hide (heap1 w1 (rpairO UN UD))
  have HB2 := hide (hb1.trans (X1.out.2.2.mono hb1.size))
  have HL1 := hide hb1.size
  clear hb1
  go_wp2_with fail
  obtain ⟨W0, hW0⟩ : ∃ W, W = w1.alloc (rpairO UN UD) := ⟨_, rfl⟩
  rw [← hW0] at X1 HB2 ⊢
  have EU := hide X1.out.1
  clear hW0 X1
  have hBW : B ≤ W0.heap.size := Nat.le_trans hB HB2.out.size
  have HTW := hide (HT.out.on HB2.out hB)
  obtain ⟨bU, hbU⟩ : ∃ b, b = w1.heap.size := ⟨_, rfl⟩
  rw [← hbU] at EU HL1 ⊢
  clear hbU
  refine region_steps 7 (RelU QT UT FT QN QD UN UD VN VD PN PD bU W0) (by kernel_rfl) (by decide) (by kernel_rfl) (by kernel_rfl) ⟨0, rfl, (Below.refl _ _).drew, (fun h => by cases h)⟩ ?_ ?_
  · intro i o L F v hi ho hL hf hd hS
    obtain ⟨y6, rfl, hV, h6⟩ := hS
    have hi6 : i = 0 ∨ i = 1 ∨ i = 2 ∨ i = 3 ∨ i = 4 ∨ i = 5 ∨ i = 6 := by omega
    rcases hi6 with rfl | rfl | rfl | rfl | rfl | rfl | rfl
    all_goals
      simp only [List.getElem?_cons_zero, List.getElem?_cons_succ, Option.some.injEq] at ho
      subst ho
    · have G := fun j => getD_set (j := j) hL hi
      obtain ⟨x0, hx0⟩ : ∃ x, x = L.getD 0 false := ⟨_, rfl⟩
      obtain ⟨x1, hx1⟩ : ∃ x, x = L.getD 1 false := ⟨_, rfl⟩
      obtain ⟨x2, hx2⟩ : ∃ x, x = L.getD 2 false := ⟨_, rfl⟩
      obtain ⟨x3, hx3⟩ : ∃ x, x = L.getD 3 false := ⟨_, rfl⟩
      obtain ⟨x4, hx4⟩ : ∃ x, x = L.getD 4 false := ⟨_, rfl⟩
      obtain ⟨x5, hx5⟩ : ∃ x, x = L.getD 5 false := ⟨_, rfl⟩
      obtain ⟨x6, hx6⟩ : ∃ x, x = L.getD 6 false := ⟨_, rfl⟩
      rw [← hx0, ← hx1, ← hx2, ← hx3, ← hx4, ← hx5, ← hx6]
      have HK : Hid (∀ F, F = actU QT UT FT QN QD UN UD VN VD PN PD bU y6 true x1 x2 x3 x4 x5 x6 → RelU QT UT FT QN QD UN UD VN VD PN PD bU W0 (L.setIfInBounds 0 true) F v) := hide (fun F hF => RelU.keep hV h6 (Below.refl _ v) (by rw [G]; rfl) (by rw [hF, G, G, G, G, G, G, G, hx1, hx2, hx3, hx4, hx5, hx6]; rfl))
      unfold actU
      clear h6 hV hd hx0 hx1 hx2 hx3 hx4 hx5 hx6 G hf hL hi
      go_wp2_with fail
      exact HK.out _ rfl
    · have G := fun j => getD_set (j := j) hL hi
      obtain ⟨x0, hx0⟩ : ∃ x, x = L.getD 0 false := ⟨_, rfl⟩
      obtain ⟨x1, hx1⟩ : ∃ x, x = L.getD 1 false := ⟨_, rfl⟩
      obtain ⟨x2, hx2⟩ : ∃ x, x = L.getD 2 false := ⟨_, rfl⟩
      obtain ⟨x3, hx3⟩ : ∃ x, x = L.getD 3 false := ⟨_, rfl⟩
      obtain ⟨x4, hx4⟩ : ∃ x, x = L.getD 4 false := ⟨_, rfl⟩
      obtain ⟨x5, hx5⟩ : ∃ x, x = L.getD 5 false := ⟨_, rfl⟩
      obtain ⟨x6, hx6⟩ : ∃ x, x = L.getD 6 false := ⟨_, rfl⟩
      rw [← hx0, ← hx1, ← hx2, ← hx3, ← hx4, ← hx5, ← hx6]
      have hdep0 : x0 = true := by rw [hx0]; exact hd 0 (waitsB_iff.1 (by kernel_rfl))
      have HK : Hid (∀ (v2 : World) F, Below v.heap.size v v2 → F = actU QT UT FT QN QD UN UD VN VD PN PD bU y6 x0 true x2 x3 x4 x5 x6 → RelU QT UT FT QN QD UN UD VN VD PN PD bU W0 (L.setIfInBounds 1 true) F v2) := hide (fun v2 F hb hF => RelU.keep hV h6 hb (by rw [G]; rfl) (by rw [hF, G, G, G, G, G, G, G, hx0, hx2, hx3, hx4, hx5, hx6]; rfl))
      have HV := hide hV
      unfold actU
      clear h6 hV hd hx0 hx1 hx2 hx3 hx4 hx5 hx6 G hf hL hi
      subst hdep0
      simp only [sel_t]
      go_wp2_with fail
      refine (HOQ.out v (Nat.le_trans hBW HV.out.size) (HTW.out.on HV.out hBW)).mono ?_
      rintro e v2 ⟨rfl, hb2⟩
      have HK2 := hide (HK.out v2)
      have HB2 := hide hb2
      clear hb2 HK
      go_wp2_with fail
      exact HK2.out _ HB2.out rfl
    · have G := fun j => getD_set (j := j) hL hi
      obtain ⟨x0, hx0⟩ : ∃ x, x = L.getD 0 false := ⟨_, rfl⟩
      obtain ⟨x1, hx1⟩ : ∃ x, x = L.getD 1 false := ⟨_, rfl⟩
      obtain ⟨x2, hx2⟩ : ∃ x, x = L.getD 2 false := ⟨_, rfl⟩
      obtain ⟨x3, hx3⟩ : ∃ x, x = L.getD 3 false := ⟨_, rfl⟩
      obtain ⟨x4, hx4⟩ : ∃ x, x = L.getD 4 false := ⟨_, rfl⟩
      obtain ⟨x5, hx5⟩ : ∃ x, x = L.getD 5 false := ⟨_, rfl⟩
      obtain ⟨x6, hx6⟩ : ∃ x, x = L.getD 6 false := ⟨_, rfl⟩
      rw [← hx0, ← hx1, ← hx2, ← hx3, ← hx4, ← hx5, ← hx6]
      have HK : Hid (∀ F, F = actU QT UT FT QN QD UN UD VN VD PN PD bU y6 x0 x1 true x3 x4 x5 x6 → RelU QT UT FT QN QD UN UD VN VD PN PD bU W0 (L.setIfInBounds 2 true) F v) := hide (fun F hF => RelU.keep hV h6 (Below.refl _ v) (by rw [G]; rfl) (by rw [hF, G, G, G, G, G, G, G, hx0, hx1, hx3, hx4, hx5, hx6]; rfl))
      have e0 := below_blk hV EU.out (lt_blk EU.out)
      have l0 := lt_blk e0
      have k0_0 := cell_blk e0 0
      have k0_1 := cell_blk e0 1
      unfold actU
      clear h6 hV hd e0 hx0 hx1 hx2 hx3 hx4 hx5 hx6 G hf hL hi
      go_wp2_with fail
      exact HK.out _ rfl
    · have G := fun j => getD_set (j := j) hL hi
      obtain ⟨x0, hx0⟩ : ∃ x, x = L.getD 0 false := ⟨_, rfl⟩
      obtain ⟨x1, hx1⟩ : ∃ x, x = L.getD 1 false := ⟨_, rfl⟩
      obtain ⟨x2, hx2⟩ : ∃ x, x = L.getD 2 false := ⟨_, rfl⟩
      obtain ⟨x3, hx3⟩ : ∃ x, x = L.getD 3 false := ⟨_, rfl⟩
      obtain ⟨x4, hx4⟩ : ∃ x, x = L.getD 4 false := ⟨_, rfl⟩
      obtain ⟨x5, hx5⟩ : ∃ x, x = L.getD 5 false := ⟨_, rfl⟩
      obtain ⟨x6, hx6⟩ : ∃ x, x = L.getD 6 false := ⟨_, rfl⟩
      rw [← hx0, ← hx1, ← hx2, ← hx3, ← hx4, ← hx5, ← hx6]
      have HK : Hid (∀ F, F = actU QT UT FT QN QD UN UD VN VD PN PD bU y6 x0 x1 x2 true x4 x5 x6 → RelU QT UT FT QN QD UN UD VN VD PN PD bU W0 (L.setIfInBounds 3 true) F v) := hide (fun F hF => RelU.keep hV h6 (Below.refl _ v) (by rw [G]; rfl) (by rw [hF, G, G, G, G, G, G, G, hx0, hx1, hx2, hx4, hx5, hx6]; rfl))
      have e0 := below_blk hV EU.out (lt_blk EU.out)
      have l0 := lt_blk e0
      have k0_0 := cell_blk e0 0
      have k0_1 := cell_blk e0 1
      unfold actU
      clear h6 hV hd e0 hx0 hx1 hx2 hx3 hx4 hx5 hx6 G hf hL hi
      go_wp2_with fail
      exact HK.out _ rfl
    · have G := fun j => getD_set (j := j) hL hi
      obtain ⟨x0, hx0⟩ : ∃ x, x = L.getD 0 false := ⟨_, rfl⟩
      obtain ⟨x1, hx1⟩ : ∃ x, x = L.getD 1 false := ⟨_, rfl⟩
      obtain ⟨x2, hx2⟩ : ∃ x, x = L.getD 2 false := ⟨_, rfl⟩
      obtain ⟨x3, hx3⟩ : ∃ x, x = L.getD 3 false := ⟨_, rfl⟩
      obtain ⟨x4, hx4⟩ : ∃ x, x = L.getD 4 false := ⟨_, rfl⟩
      obtain ⟨x5, hx5⟩ : ∃ x, x = L.getD 5 false := ⟨_, rfl⟩
      obtain ⟨x6, hx6⟩ : ∃ x, x = L.getD 6 false := ⟨_, rfl⟩
      rw [← hx0, ← hx1, ← hx2, ← hx3, ← hx4, ← hx5, ← hx6]
      have hdep2 : x2 = true := by rw [hx2]; exact hd 2 (waitsB_iff.1 (by kernel_rfl))
      have hdep3 : x3 = true := by rw [hx3]; exact hd 3 (waitsB_iff.1 (by kernel_rfl))
      have HK : Hid (∀ (v2 : World) F, Below v.heap.size v v2 → F = actU QT UT FT QN QD UN UD VN VD PN PD bU y6 x0 x1 x2 x3 true x5 x6 → RelU QT UT FT QN QD UN UD VN VD PN PD bU W0 (L.setIfInBounds 4 true) F v2) := hide (fun v2 F hb hF => RelU.keep hV h6 hb (by rw [G]; rfl) (by rw [hF, G, G, G, G, G, G, G, hx0, hx1, hx2, hx3, hx5, hx6]; rfl))
      have HV := hide hV
      unfold actU
      clear h6 hV hd hx0 hx1 hx2 hx3 hx4 hx5 hx6 G hf hL hi
      subst hdep2
      subst hdep3
      simp only [sel_t]
      go_wp2_with fail
      refine (HTM.out v (Nat.le_trans hBW HV.out.size) (HTW.out.on HV.out hBW).p10).mono ?_
      rintro e v2 ⟨rfl, hb2⟩
      have HK2 := hide (HK.out v2)
      have HB2 := hide hb2
      clear hb2 HK
      go_wp2_with fail
      exact HK2.out _ HB2.out rfl
    · have G := fun j => getD_set (j := j) hL hi
      obtain ⟨x0, hx0⟩ : ∃ x, x = L.getD 0 false := ⟨_, rfl⟩
      obtain ⟨x1, hx1⟩ : ∃ x, x = L.getD 1 false := ⟨_, rfl⟩
      obtain ⟨x2, hx2⟩ : ∃ x, x = L.getD 2 false := ⟨_, rfl⟩
      obtain ⟨x3, hx3⟩ : ∃ x, x = L.getD 3 false := ⟨_, rfl⟩
      obtain ⟨x4, hx4⟩ : ∃ x, x = L.getD 4 false := ⟨_, rfl⟩
      obtain ⟨x5, hx5⟩ : ∃ x, x = L.getD 5 false := ⟨_, rfl⟩
      obtain ⟨x6, hx6⟩ : ∃ x, x = L.getD 6 false := ⟨_, rfl⟩
      rw [← hx0, ← hx1, ← hx2, ← hx3, ← hx4, ← hx5, ← hx6]
      have hdep1 : x1 = true := by rw [hx1]; exact hd 1 (waitsB_iff.1 (by kernel_rfl))
      have hdep4 : x4 = true := by rw [hx4]; exact hd 4 (waitsB_iff.1 (by kernel_rfl))
      have HK : Hid (∀ (v2 : World) F, Below v.heap.size v v2 → F = actU QT UT FT QN QD UN UD VN VD PN PD bU y6 x0 x1 x2 x3 x4 true x6 → RelU QT UT FT QN QD UN UD VN VD PN PD bU W0 (L.setIfInBounds 5 true) F v2) := hide (fun v2 F hb hF => RelU.keep hV h6 hb (by rw [G]; rfl) (by rw [hF, G, G, G, G, G, G, G, hx0, hx1, hx2, hx3, hx4, hx6]; rfl))
      have HV := hide hV
      unfold actU
      clear h6 hV hd hx0 hx1 hx2 hx3 hx4 hx5 hx6 G hf hL hi
      subst hdep1
      subst hdep4
      simp only [sel_t]
      go_wp2_with fail
      refine (HOV.out v (Nat.le_trans hBW HV.out.size) (HTW.out.on HV.out hBW).p10).mono ?_
      rintro e v2 ⟨rfl, hb2⟩
      have HK2 := hide (HK.out v2)
      have HB2 := hide hb2
      clear hb2 HK
      go_wp2_with fail
      exact HK2.out _ HB2.out rfl
    · have G := fun j => getD_set (j := j) hL hi
      obtain ⟨x0, hx0⟩ : ∃ x, x = L.getD 0 false := ⟨_, rfl⟩
      obtain ⟨x1, hx1⟩ : ∃ x, x = L.getD 1 false := ⟨_, rfl⟩
      obtain ⟨x2, hx2⟩ : ∃ x, x = L.getD 2 false := ⟨_, rfl⟩
      obtain ⟨x3, hx3⟩ : ∃ x, x = L.getD 3 false := ⟨_, rfl⟩
      obtain ⟨x4, hx4⟩ : ∃ x, x = L.getD 4 false := ⟨_, rfl⟩
      obtain ⟨x5, hx5⟩ : ∃ x, x = L.getD 5 false := ⟨_, rfl⟩
      obtain ⟨x6, hx6⟩ : ∃ x, x = L.getD 6 false := ⟨_, rfl⟩
      rw [← hx0, ← hx1, ← hx2, ← hx3, ← hx4, ← hx5, ← hx6]
      have HK : Hid (∀ F, F = actU QT UT FT QN QD UN UD VN VD PN PD bU v.heap.size x0 x1 x2 x3 x4 x5 true → RelU QT UT FT QN QD UN UD VN VD PN PD bU W0 (L.setIfInBounds 6 true) F (v.alloc (rpairO ⟨#[]⟩ ⟨#[]⟩))) := hide (fun F hF => ⟨v.heap.size, by rw [hF, G, G, G, G, G, G, G, hx0, hx1, hx2, hx3, hx4, hx5]; rfl, hV.trans ((heap1 v (rpairO ⟨#[]⟩ ⟨#[]⟩)).2.2.mono hV.size), (fun _ => ⟨hV.size, heap_alloc_new v _⟩)⟩)
      unfold actU
      clear h6 hV hd hx0 hx1 hx2 hx3 hx4 hx5 hx6 G hf hL hi
      go_wp2_with fail
      exact HK.out _ rfl
  · intro F v hS
    obtain ⟨y6, rfl, hV, h6⟩ := hS
    have Q6 : Hid (v.heap[y6]? = some (rpairO ⟨#[]⟩ ⟨#[]⟩)) := hide (h6 rfl).2
    have q6 := (h6 rfl).1
    simp only [List.drop_succ_cons, List.drop_zero]
    show wpList _ _ _ _ (actU QT UT FT QN QD UN UD VN VD PN PD bU y6 true true true true true true true) v
    unfold actU
    simp only [sel_t]
    have G8 := Q6
    have k0 := cell_blk G8.out 0
    have k1 := cell_blk G8.out 1
    have f0 := froz_blk G8.out 0
    have f1 := froz_blk G8.out 1
    have kl := lt_blk G8.out
    have HB3 := hide (HB2.out.trans (hV.mono HB2.out.size))
    have HY := hide (Nat.le_trans HB2.out.size q6)
    clear hV h6
    go_wp2_with fail
    obtain ⟨W1, hW1⟩ : ∃ W, W = (v.setCell ⟨y6, 0, none⟩ (.string PN)).setCell ⟨y6, 1, none⟩ (.string PD) := ⟨_, rfl⟩
    have G9 : Hid (W1.heap[y6]? = some (rpairO PN PD)) := hide (by rw [hW1]; exact (set2 G8.out _ _).1)
    have HB4 : Hid (Below w.heap.size w W1) := hide (by rw [hW1]; exact (HB3.out.setCell (p := ⟨y6, 0, none⟩) HY.out _).setCell (p := ⟨y6, 1, none⟩) HY.out _)
    rw [← hW1]
    clear hW1 k0 k1 f0 f1 kl G8 HB3
    have k0 := cell_blk G9.out 0
    have k1 := cell_blk G9.out 1
    have kl := lt_blk G9.out
    go_wp2_with fail
    refine (HM.out _ (Nat.le_trans hB HB4.out.size) (HT.out.on HB4.out hB).p10).mono ?_
    rintro e w5 ⟨rfl, hb5⟩
    clear k0 k1 kl
    have G10 := hide (below_blk hb5 G9.out (lt_blk G9.out))
    have HB5 := hide (HB4.out.trans (hb5.mono HB4.out.size))
    clear hb5
    have k0 := cell_blk G10.out 0
    have k1 := cell_blk G10.out 1
    have f0 := froz_blk G10.out 0
    have kl := lt_blk G10.out
    go_wp2_with fail
    obtain ⟨W2, hW2⟩ : ∃ W, W = w5.setCell ⟨y6, 0, none⟩ (.string PN2) := ⟨_, rfl⟩
    have G11 : Hid (W2.heap[y6]? = some (rpairO PN2 PD)) := hide (by rw [hW2]; exact set1a G10.out _)
    have HB6 : Hid (Below w.heap.size w W2) := hide (by rw [hW2]; exact HB5.out.setCell (p := ⟨y6, 0, none⟩) HY.out _)
    rw [← hW2]
    clear hW2 k0 k1 f0 kl G10 HB5
    have k0 := cell_blk G11.out 0
    have k1 := cell_blk G11.out 1
    have kl := lt_blk G11.out
    go_wp2_with fail
    refine (HF.out _ (Nat.le_trans hB HB6.out.size) (HT.out.on HB6.out hB).p10).mono ?_
    rintro e w7 ⟨rfl, hb7⟩
    have HB7 := hide (HB6.out.trans (hb7.mono HB6.out.size))
    clear hb7 k0 k1 kl
    go_wp2_with fail
    refine (HR.out _ (Nat.le_trans hB HB7.out.size) (HT.out.on HB7.out hB).p10).mono ?_
    rintro e w8 ⟨rfl, hb8⟩
    have HB8 := hide (HB7.out.trans (hb8.mono HB7.out.size))
    clear hb8
    go_wp2_with fail
    go_ret
    exact ⟨rfl, HB8.out⟩
end Go.Proofs.YtgddookioipjiaaGreatDoor
