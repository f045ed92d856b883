/-
  Texts of the integers, laid together: Kb.
-/
import Derived.Test.YtgddookioipjiaaGreatDoorZ16
import Derived.Test.YtgddookioipjiaaGreatDoorZ20
namespace Go.Proofs.YtgddookioipjiaaGreatDoor
open Go.RowKit Go.KP Go.KI Go.Shelf
attribute [local go_sem] Oper.semAt_some

theorem T_nat_beq (x y : Rat) (h : x ≠ y) : ((T x).toList == (T y).toList) = false := by rw [T_beq, decide_eq_false h]
/-- The square of the prime number k. -/
def sqP (k : Nat) : Nat := primes25.getD k 0 * primes25.getD k 0
theorem sqP_bounds {k : Nat} (h : k < 25) : 4 ≤ sqP k ∧ sqP k ≤ 9409 := by
  obtain ⟨h1, h2⟩ := prime_bounds h
  exact ⟨Nat.mul_le_mul h1 h1, Nat.mul_le_mul h2 h2⟩
abbrev sqRow : Obj := .cells #[.int .i64 4, .int .i64 9, .int .i64 25, .int .i64 49, .int .i64 121, .int .i64 169, .int .i64 289, .int .i64 361, .int .i64 529, .int .i64 841, .int .i64 961, .int .i64 1369, .int .i64 1681, .int .i64 1849, .int .i64 2209, .int .i64 2809, .int .i64 3481, .int .i64 3721, .int .i64 4489, .int .i64 5041, .int .i64 5329, .int .i64 6241, .int .i64 6889, .int .i64 7921, .int .i64 9409] 3
theorem sqRow_cell {w : World} {b k : Nat} (h : w.heap[b]? = some sqRow) (hk : k < 25) : w.cell? ⟨b, k, none⟩ = some (.int .i64 (sqP k)) := by
  rw [cell_blk h k]
  have key : ∀ k : Fin 25, (#[.int .i64 4, .int .i64 9, .int .i64 25, .int .i64 49, .int .i64 121, .int .i64 169, .int .i64 289, .int .i64 361, .int .i64 529, .int .i64 841, .int .i64 961, .int .i64 1369, .int .i64 1681, .int .i64 1849, .int .i64 2209, .int .i64 2809, .int .i64 3481, .int .i64 3721, .int .i64 4489, .int .i64 5041, .int .i64 5329, .int .i64 6241, .int .i64 6889, .int .i64 7921, .int .i64 9409] : Array Value)[k.val]? = some (.int .i64 ((sqP k.val : Nat) : Int)) := by
    intro k
    have hk : k.val = 0 ∨ k.val = 1 ∨ k.val = 2 ∨ k.val = 3 ∨ k.val = 4 ∨ k.val = 5 ∨ k.val = 6 ∨ k.val = 7 ∨ k.val = 8 ∨ k.val = 9 ∨ k.val = 10 ∨ k.val = 11 ∨ k.val = 12 ∨ k.val = 13 ∨ k.val = 14 ∨ k.val = 15 ∨ k.val = 16 ∨ k.val = 17 ∨ k.val = 18 ∨ k.val = 19 ∨ k.val = 20 ∨ k.val = 21 ∨ k.val = 22 ∨ k.val = 23 ∨ k.val = 24 := by omega
    rcases hk with h | h | h | h | h | h | h | h | h | h | h | h | h | h | h | h | h | h | h | h | h | h | h | h | h
    all_goals (simp only [h]; rfl)
  exact key ⟨k, hk⟩
set_option maxRecDepth 100000 in
theorem lsquares_at (w : World) : Calls Tryz.prog 24 #[] w (fun e w' => e = .returned (.slice (some ⟨w.heap.size, 0, none⟩) 25 25) ∧ w' = w.alloc sqRow) := by
  go_enter Tryz.func24, Tryz.ntmps24
  go_wp2_with fail
  go_ret
  exact ⟨rfl, rfl⟩
theorem div_not_int {n s : Nat} (hs : 0 < s) (h : ¬ n % s = 0) : ((n : Nat) : Rat) / ((s : Nat) : Rat) ≠ (((((n : Nat) : Rat) / ((s : Nat) : Rat)).floor : Int) : Rat) := by
  intro e
  have sp := Rat.natCast_pos.2 hs
  have sn := Rat.ne_of_gt sp
  obtain ⟨z, hz⟩ : ∃ z, z = (((n : Nat) : Rat) / ((s : Nat) : Rat)).floor := ⟨_, rfl⟩
  rw [← hz] at e
  have e2 : ((n : Nat) : Rat) = (z : Rat) * ((s : Nat) : Rat) := by rw [← e, Rat.div_mul_cancel sn]
  have e3 : (n : Int) = z * (s : Int) := by exact_mod_cast e2
  apply h
  have : (n : Int) % (s : Int) = 0 := by rw [e3, Int.mul_emod_left]
  omega
set_option maxRecDepth 100000 in
set_option maxHeartbeats 16000000 in
theorem lawNormal_any (q f : ByteArray) (n0 : Nat) (w : World) (hB : n0 ≤ w.heap.size) (hT : PR n0 w) :
    Calls Tryz.prog 6 #[.string q, .string f] w (Ret w (.bool true)) := by
  have HT := hide hT
  have HAW := hide (fun w hB hT => l3awake_any n0 w hB hT)
  have X0 := hide (heap1 w (.cells #[.string q, .string f] 22))
  have HF := hide (lsizes_any w.heap.size [q, f] (by simp) n0 _ (strs2 X0.out.1) (Nat.le_trans hB X0.out.2.2.size) (hT.on X0.out.2.2 hB).pq)
  clear hT
  by_cases h : ∀ s ∈ [q, f], okS s
  rotate_left
  · rw [decide_eq_false h] at HF
    clear h
    go_enter Tryz.func6, Tryz.ntmps6
    go_wp2_with fail
    refine HF.out.mono ?_
    rintro e w1 ⟨rfl, hb1⟩
    have HB1 := hide (X0.out.2.2.trans (hb1.mono X0.out.2.2.size))
    clear hb1 X0
    go_wp2_with fail
    refine (HAW.out _ (Nat.le_trans hB HB1.out.size) (HT.out.on HB1.out hB)).mono ?_
    rintro e w99 ⟨rfl, hb99⟩
    have HB99 := hide (HB1.out.trans (hb99.mono HB1.out.size))
    clear hb99
    go_wp2_with fail
    go_ret
    exact ⟨rfl, HB99.out⟩
  rw [decide_eq_true h] at HF
  obtain ⟨Q, sQ, rfl⟩ := okS_T (h q (by simp))
  obtain ⟨F, sF, rfl⟩ := okS_T (h f (by simp))
  clear h
  have fQ := sz_fits sQ (by rw [most_eq]; omega)
  have rQ := roomy_of sQ (by omega)
  have fF := sz_fits sF (by rw [most_eq]; omega)
  have rF := roomy_of sF (by omega)
  have HS0 := hide (fun w hB hT => lsign_T fQ n0 w hB hT)
  have HS1 := hide (fun w hB hT => lsign_T fF n0 w hB hT)
  by_cases g0 : sgnR Q < 0
  · clear sQ rQ fQ sF rF fF
    generalize sgnR Q = z0 at *
    go_enter Tryz.func6, Tryz.ntmps6
    go_wp2_with fail
    refine HF.out.mono ?_
    rintro e w1 ⟨rfl, hb1⟩
    have HB1 := hide (X0.out.2.2.trans (hb1.mono X0.out.2.2.size))
    clear hb1 X0
    go_wp2_with fail
    refine (HS0.out _ (Nat.le_trans hB HB1.out.size) (HT.out.on HB1.out hB).pq).mono ?_
    rintro e w2 ⟨rfl, hb2⟩
    have HB2 := hide (HB1.out.trans (hb2.mono HB1.out.size))
    clear hb2
    go_wp2_with fail
    refine (HAW.out _ (Nat.le_trans hB HB2.out.size) (HT.out.on HB2.out hB)).mono ?_
    rintro e w99 ⟨rfl, hb99⟩
    have HB99 := hide (HB2.out.trans (hb99.mono HB2.out.size))
    clear hb99
    go_wp2_with fail
    go_ret
    exact ⟨rfl, HB99.out⟩
  have nQ := sgn_nonneg g0
  replace g0 := eq_false g0
  by_cases g1 : sgnR F ≤ 0
  · clear sQ rQ fQ sF rF fF
    generalize sgnR Q = z0 at *
    generalize sgnR F = z1 at *
    go_enter Tryz.func6, Tryz.ntmps6
    go_wp2_with fail
    refine HF.out.mono ?_
    rintro e w1 ⟨rfl, hb1⟩
    have HB1 := hide (X0.out.2.2.trans (hb1.mono X0.out.2.2.size))
    clear hb1 X0
    go_wp2_with fail
    refine (HS0.out _ (Nat.le_trans hB HB1.out.size) (HT.out.on HB1.out hB).pq).mono ?_
    rintro e w2 ⟨rfl, hb2⟩
    have HB2 := hide (HB1.out.trans (hb2.mono HB1.out.size))
    clear hb2
    go_wp2_with fail
    refine (HS1.out _ (Nat.le_trans hB HB2.out.size) (HT.out.on HB2.out hB).pq).mono ?_
    rintro e w3 ⟨rfl, hb3⟩
    have HB3 := hide (HB2.out.trans (hb3.mono HB2.out.size))
    clear hb3
    go_wp2_with fail
    refine (HAW.out _ (Nat.le_trans hB HB3.out.size) (HT.out.on HB3.out hB)).mono ?_
    rintro e w99 ⟨rfl, hb99⟩
    have HB99 := hide (HB3.out.trans (hb99.mono HB3.out.size))
    clear hb99
    go_wp2_with fail
    go_ret
    exact ⟨rfl, HB99.out⟩
  have nF := sgn_pos g1
  replace g1 := eq_false g1
  obtain ⟨w1, w2, w3, w4, w5⟩ := nForm nQ
  obtain ⟨sC, lN⟩ := nForm_sz nQ (by omega) sQ
  have sN := sz_natc lN (by omega)
  have C1 := hide (fun w hB hT => rNormal_T rQ nQ n0 w hB hT)
  have C2 := hide (fun w r hr hB hT => ltimes3 sC sC sN (by omega) n0 w r hr hB hT)
  rw [w1] at C2
  have C3 := hide (fun w hB hT => lsign_T (sz_fits sC (by rw [most_eq]; omega)) n0 w hB hT)
  rw [w2] at C3
  have C5 := hide (fun w hB hT => lsign_T (sz_fits sN (by rw [most_eq]; omega)) n0 w hB hT)
  rw [show sgnR ((nL Q : Nat) : Rat) = 1 from cmpT_gt (Rat.natCast_pos.2 w3)] at C5
  have C6 := hide (fun w hB hT => qfloor_to (T_list ((nL Q : Nat) : Rat)) (sz_fits sN (by rw [most_eq]; omega)) n0 w hB hT)
  rw [floor_natc, show strB (ratS ((nL Q : Nat) : Rat)) = T ((nL Q : Nat) : Rat) from rfl] at C6
  have sQF := (okT3 sQ sF sF (by omega)).2.2
  have fp := pos_num nF
  have nQF : 0 ≤ (Q * F * F).num := Rat.num_nonneg.2 (Rat.mul_nonneg (Rat.mul_nonneg (Rat.num_nonneg.1 nQ) (Rat.le_of_lt fp)) (Rat.le_of_lt fp))
  obtain ⟨v1, v2, v3, v4, v5⟩ := nForm nQF
  obtain ⟨sD, lM⟩ := nForm_sz nQF (by omega) sQF
  have sM := sz_natc lM (by omega)
  have C7 := hide (fun w r hr hB hT => ltimes3 sQ sF sF (by omega) n0 w r hr hB hT)
  have C8 := hide (fun w hB hT => rNormal_T (roomy_of sQF (by omega)) nQF n0 w hB hT)
  have C9 := hide (fun w r hr hB hT => ltimes3 sD sD sM (by omega) n0 w r hr hB hT)
  rw [v1] at C9
  have hone : nL (Q * F * F) = 1 ↔ nL Q = 1 := by
    rw [v5, w5, show Q * F * F = Q * (F * F) by grind, sqR_times (Rat.num_nonneg.1 nQ) fp]
    cases sqR Q <;> simp
  have hz1 := T_one_test (nL Q)
  have hz2 := T_one_test (nL (Q * F * F))
  rw [decide_eq_decide.2 hone] at hz2
  have HDIV : Hid (∀ k, k < 25 → ∀ w, n0 ≤ w.heap.size → PQ n0 w → Calls Tryz.prog 26 #[.string (T ((nL Q : Nat) : Rat)), .string (T ((sqP k : Nat) : Rat))] w (Ret w (.tuple #[.string (T (((nL Q : Nat) : Rat) / ((sqP k : Nat) : Rat))), .int .i64 0]))) := hide (fun k hk w hB hT => by
    have sS : sz 4 ((sqP k : Nat) : Rat) := sz_natc (by have := sqP_bounds hk; omega) (by omega)
    exact qdiv_to (T_list _) (T_list _) (sz_fits sN (by rw [most_eq]; omega)) (sz_fits sS (by rw [most_eq]; omega)) (Rat.ne_of_gt (Rat.natCast_pos.2 (by have := sqP_bounds hk; omega))) (cmpC_of sN sS (by rw [most_eq]; omega)) n0 w hB hT)
  have HFLO : Hid (∀ k, k < 25 → ∀ w, n0 ≤ w.heap.size → PQ n0 w → Calls Tryz.prog 23 #[.string (T (((nL Q : Nat) : Rat) / ((sqP k : Nat) : Rat)))] w (Ret w (.tuple #[.string (T (((((nL Q : Nat) : Rat) / ((sqP k : Nat) : Rat)).floor : Int) : Rat)), .int .i64 0]))) := hide (fun k hk w hB hT => by
    have sS : sz 4 ((sqP k : Nat) : Rat) := sz_natc (by have := sqP_bounds hk; omega) (by omega)
    exact qfloor_to (T_list _) (sz_fits (sz_div (by omega) sN sS) (by rw [most_eq]; omega)) n0 w hB hT)
  have HOF : Hid (∀ k, k < 25 → ∀ w, n0 ≤ w.heap.size → PQ n0 w → Calls Tryz.prog 25 #[.int .i64 ((sqP k : Nat) : Int), .int .i64 1] w (Ret w (.tuple #[.string (T ((sqP k : Nat) : Rat)), .int .i64 0]))) := hide (fun k hk w hB hT => by
    have := qOf_any ((sqP k : Nat) : Int) 1 (by omega) (by have := sqP_bounds hk; omega) (by omega) (by omega) (by omega) n0 w hB hT
    rw [show Rat.divInt ((sqP k : Nat) : Int) 1 = ((sqP k : Nat) : Rat) by rw [show (1 : Int) = ((1 : Nat) : Int) from rfl, Rat.divInt_ofNat, Rat.mkRat_one]; rfl] at this
    exact this)
  have HNE : Hid (∀ k, k < 25 → ((T (((nL Q : Nat) : Rat) / ((sqP k : Nat) : Rat))).toList == (T (((((nL Q : Nat) : Rat) / ((sqP k : Nat) : Rat)).floor : Int) : Rat)).toList) = false) := hide (fun k hk => T_nat_beq _ _ (div_not_int (by have := sqP_bounds hk; omega) (w4 _ (by
    rw [List.getD_eq_getElem?_getD, List.getElem?_eq_getElem hk]
    exact List.getElem_mem hk))))
  have HSQ := hide (fun w => lsquares_at w)
  have hmx := mxe3
  obtain ⟨TD, hTD⟩ : ∃ x, x = T (nC (Q * F * F)) := ⟨_, rfl⟩
  rw [← hTD] at C8 C9
  clear hTD
  obtain ⟨TM, hTM⟩ : ∃ x, x = T ((nL (Q * F * F) : Nat) : Rat) := ⟨_, rfl⟩
  rw [← hTM] at C8 C9 hz2
  clear hTM
  obtain ⟨QF, hQF⟩ : ∃ x, x = T (Q * F * F) := ⟨_, rfl⟩
  rw [← hQF] at C7 C8 C9
  clear hQF
  obtain ⟨TC, hTC⟩ : ∃ x, x = T (nC Q) := ⟨_, rfl⟩
  rw [← hTC] at C1 C2 C3
  clear hTC
  obtain ⟨v, hv⟩ : ∃ x, x = decide (nL Q = 1) := ⟨_, rfl⟩
  rw [← hv] at hz1 hz2
  clear hv
  obtain ⟨NN, hNN⟩ : ∃ x, x = ((nL Q : Nat) : Rat) := ⟨_, rfl⟩
  rw [← hNN] at C1 C2 C5 C6 hz1 HDIV HFLO HNE
  clear hNN w1 w2 w3 w4 w5 sC lN sN sQF fp nQF v1 v2 v3 v4 v5 sD lM sM hone rQ rF sQ sF fQ fF nQ nF
  obtain ⟨TN, hTN⟩ : ∃ x, x = T NN := ⟨_, rfl⟩
  rw [← hTN] at C1 C2 C5 C6 hz1 HDIV
  clear hTN
  generalize sgnR Q = z0 at *
  generalize sgnR F = z1 at *
  generalize T Q = TQ at *
  generalize T F = TF at *
  obtain ⟨e1, e2⟩ := beqs TQ
  obtain ⟨e3, e4⟩ := beqs TN
  obtain ⟨e5, e6⟩ := beqs QF
  go_enter Tryz.func6, Tryz.ntmps6
  go_wp2_with fail
  refine HF.out.mono ?_
  rintro e w1 ⟨rfl, hb1⟩
  have HB1 := hide (X0.out.2.2.trans (hb1.mono X0.out.2.2.size))
  clear hb1 X0
  go_wp2_with fail
  refine (HS0.out _ (Nat.le_trans hB HB1.out.size) (HT.out.on HB1.out hB).pq).mono ?_
  rintro e w2 ⟨rfl, hb2⟩
  have HB2 := hide (HB1.out.trans (hb2.mono HB1.out.size))
  clear hb2
  go_wp2_with fail
  refine (HS1.out _ (Nat.le_trans hB HB2.out.size) (HT.out.on HB2.out hB).pq).mono ?_
  rintro e w3 ⟨rfl, hb3⟩
  have HB3 := hide (HB2.out.trans (hb3.mono HB2.out.size))
  clear hb3
  go_wp2_with fail
  refine (C1.out _ (Nat.le_trans hB HB3.out.size) (HT.out.on HB3.out hB)).mono ?_
  rintro e w4 ⟨rfl, hb4⟩
  have HB4 := hide (HB3.out.trans (hb4.mono HB3.out.size))
  clear hb4
  go_wp2_with fail
  have X := hide (heap1 w4 (.cells #[.string TC, .string TC, .string TN] 22))
  have HX := hide (HB4.out.trans (X.out.2.2.mono HB4.out.size))
  refine (C2.out _ w4.heap.size X.out.1 (Nat.le_trans hB HX.out.size) (HT.out.on HX.out hB).pq).mono ?_
  rintro e w5 ⟨rfl, hb5⟩
  have HB5 := hide (HX.out.trans (hb5.mono HX.out.size))
  clear hb5 X HX
  go_wp2_with fail
  refine (C3.out _ (Nat.le_trans hB HB5.out.size) (HT.out.on HB5.out hB).pq).mono ?_
  rintro e w6 ⟨rfl, hb6⟩
  have HB6 := hide (HB5.out.trans (hb6.mono HB5.out.size))
  clear hb6
  go_wp2_with fail
  refine (HS0.out _ (Nat.le_trans hB HB6.out.size) (HT.out.on HB6.out hB).pq).mono ?_
  rintro e w7 ⟨rfl, hb7⟩
  have HB7 := hide (HB6.out.trans (hb7.mono HB6.out.size))
  clear hb7
  go_wp2_with fail
  refine (C5.out _ (Nat.le_trans hB HB7.out.size) (HT.out.on HB7.out hB).pq).mono ?_
  rintro e w8 ⟨rfl, hb8⟩
  have HB8 := hide (HB7.out.trans (hb8.mono HB7.out.size))
  clear hb8
  go_wp2_with fail
  refine (C6.out _ (Nat.le_trans hB HB8.out.size) (HT.out.on HB8.out hB).pq).mono ?_
  rintro e w9 ⟨rfl, hb9⟩
  have HB9 := hide (HB8.out.trans (hb9.mono HB8.out.size))
  clear hb9
  go_wp2_with fail
  refine (HSQ.out _).mono ?_
  rintro e wS ⟨rfl, rfl⟩
  have XS := hide (heap1 w9 sqRow)
  obtain ⟨wS, hwS⟩ : ∃ W, W = w9.alloc sqRow := ⟨_, rfl⟩
  rw [← hwS] at XS ⊢
  have GS := hide XS.out.1
  have HBS := hide (HB9.out.trans (XS.out.2.2.mono HB9.out.size))
  clear XS hwS
  go_wp2_with fail
  go_loopw [80] (fun i wr => ∃ k : Nat, k ≤ 25 ∧ i = .int .i64 k ∧ Hid (Below wS.heap.size wS wr)) (fun i _ => 25 - (intOf i).toNat)
  case atStart => exact ⟨0, Nat.zero_le _, rfl, Below.refl _ _⟩
  case round =>
    obtain ⟨k, hk, rfl, hin⟩ := hrel
    obtain ⟨wo, hwo⟩ : ∃ wo, wo = wr := ⟨_, rfl⟩
    subst hwo
    have HB60 := hide (HBS.out.trans (hin.out.mono HBS.out.size))
    have HBL := hin
    clear hin
    by_cases hlt : k < 25
    · have hki : (k : Int) < 25 := by omega
      have hk0 : (0 : Int) ≤ (k : Int) := by omega
      have hcell := sqRow_cell (below_blk HBL.out GS.out (lt_blk GS.out)) hlt
      have D1 := hide (HOF.out k hlt)
      have D2 := hide (HDIV.out k hlt)
      have D3 := hide (HFLO.out k hlt)
      have hne := HNE.out k hlt
      generalize ((sqP k : Nat) : Rat) = S at D1 D2 D3 hne
      generalize T (((NN / S).floor : Int) : Rat) = FL at D3 hne
      generalize T (NN / S) = DV at D2 D3 hne
      generalize T S = TS at D1 D2
      generalize ((sqP k : Nat) : Int) = sk at hcell D1
      clear hlt
      go_wp2_with fail
      refine (D1.out _ (Nat.le_trans hB HB60.out.size) (HT.out.on HB60.out hB).pq).mono ?_
      rintro e w61 ⟨rfl, hb61⟩
      have HB61 := hide (HB60.out.trans (hb61.mono HB60.out.size))
      have HBL1 := hide (HBL.out.trans (hb61.mono HBL.out.size))
      clear hb61 hcell
      go_wp2_with fail
      refine (D2.out _ (Nat.le_trans hB HB61.out.size) (HT.out.on HB61.out hB).pq).mono ?_
      rintro e w62 ⟨rfl, hb62⟩
      have HB62 := hide (HB61.out.trans (hb62.mono HB61.out.size))
      have HBL2 := hide (HBL1.out.trans (hb62.mono HBL1.out.size))
      clear hb62
      go_wp2_with fail
      refine (D3.out _ (Nat.le_trans hB HB62.out.size) (HT.out.on HB62.out hB).pq).mono ?_
      rintro e w63 ⟨rfl, hb63⟩
      have HBL3 := hide (HBL2.out.trans (hb63.mono HBL2.out.size))
      clear hb63
      go_wp2_with fail
      go_roundw
      case rel => exact ⟨k + 1, by omega, by simp, HBL3⟩
      case measure => simp [intOf]; omega
    · obtain rfl : k = 25 := by omega
      have hki : (((25 : Nat) : Int) < 25) = False := eq_false (by omega)
      clear hlt hk HBL
      obtain ⟨w60, hw60⟩ : ∃ x, x = wo := ⟨_, rfl⟩
      subst hw60
      go_wp2_with fail
      have X := hide (heap1 w60 (.cells #[.string TQ, .string TF, .string TF] 22))
      have HX := hide (HB60.out.trans (X.out.2.2.mono HB60.out.size))
      refine (C7.out _ w60.heap.size X.out.1 (Nat.le_trans hB HX.out.size) (HT.out.on HX.out hB).pq).mono ?_
      rintro e w61 ⟨rfl, hb61⟩
      have HB61 := hide (HX.out.trans (hb61.mono HX.out.size))
      clear hb61 X HX
      go_wp2_with fail
      refine (C8.out _ (Nat.le_trans hB HB61.out.size) (HT.out.on HB61.out hB)).mono ?_
      rintro e w62 ⟨rfl, hb62⟩
      have HB62 := hide (HB61.out.trans (hb62.mono HB61.out.size))
      clear hb62
      go_wp2_with fail
      have X := hide (heap1 w62 (.cells #[.string TD, .string TD, .string TM] 22))
      have HX := hide (HB62.out.trans (X.out.2.2.mono HB62.out.size))
      refine (C9.out _ w62.heap.size X.out.1 (Nat.le_trans hB HX.out.size) (HT.out.on HX.out hB).pq).mono ?_
      rintro e w63 ⟨rfl, hb63⟩
      have HB63 := hide (HX.out.trans (hb63.mono HX.out.size))
      clear hb63 X HX
      go_wp2_with fail
      have X := hide (heap1 w63 (.cells #[.string TQ, .string TF, .string TF] 22))
      have HX := hide (HB63.out.trans (X.out.2.2.mono HB63.out.size))
      refine (C7.out _ w63.heap.size X.out.1 (Nat.le_trans hB HX.out.size) (HT.out.on HX.out hB).pq).mono ?_
      rintro e w64 ⟨rfl, hb64⟩
      have HB64 := hide (HX.out.trans (hb64.mono HX.out.size))
      clear hb64 X HX
      go_wp2_with fail
      refine (HAW.out _ (Nat.le_trans hB HB64.out.size) (HT.out.on HB64.out hB)).mono ?_
      rintro e w99 ⟨rfl, hb99⟩
      have HB99 := hide (HB64.out.trans (hb99.mono HB64.out.size))
      clear hb99
      go_wp2_with fail
      go_ret
      exact ⟨rfl, HB99.out⟩
end Go.Proofs.YtgddookioipjiaaGreatDoor
