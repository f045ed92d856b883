/-
  Texts of the integers, laid together: Jx, Kc.
-/
import Derived.Test.YtgddookioipjiaaGreatDoorZ16
import Derived.Test.YtgddookioipjiaaGreatDoorZ20
namespace Go.Proofs.YtgddookioipjiaaGreatDoor
open Go.RowKit Go.KP Go.KI Go.Shelf
attribute [local go_sem] Oper.semAt_some

abbrev rangeV (a b : ByteArray) : Value := .agg #[.string a, .string b]
abbrev rangeO (a b : ByteArray) : Obj := .cells #[.string a, .string b] 49
theorem exit_range {f : Func} {R : Ending → World → Prop} {a : Act} {W : World} {b : Nat} {t u : Tmp} {x y : ByteArray} {v : Value} (hf : f.results = #[.cell t 49, .tmp u]) (hb : W.heap[b]? = some (rangeO x y)) (h2 : a.tmps[t]? = some (.pointer (some ⟨b, 0, none⟩))) (h3 : a.tmps[u]? = some v) (hd : a.defers = []) (hR : R (.returned (.tuple #[rangeV x y, v])) W) :
    bodyPost Tryz.prog f R .ret a W := by
  have hcell := fun o => cell_blk hb o
  refine bodyPost_ret ?_ hd hR
  simp [results, hf, go_sem, hcell, h2, h3]
theorem scale_text (n : Nat) : (⟨#[49]⟩ : ByteArray) ++ strB (Lib.repeatL [48] n) = iB ((10 ^ n : Nat) : Int) := by
  apply bytes_eq
  rw [iB_list, Lib.itoa_nonneg]
  have e : ((⟨#[49]⟩ : ByteArray) ++ strB (Lib.repeatL [48] n)).data.toList = [49] ++ (strB (Lib.repeatL [48] n)).data.toList := by simp
  rw [e, strB_list, repeat48]
  have h := dec_of (l := [49] ++ List.replicate n 48) (by simp) (fun c hc => by
    rcases List.mem_append.1 hc with h | h
    · simp at h; rw [h]; rfl
    · rw [List.eq_of_mem_replicate h]; rfl) (fun _ => by simp)
  rw [dv_zeros] at h
  exact h
set_option maxRecDepth 100000 in
set_option maxHeartbeats 16000000 in
theorem rBetween_T {q : Rat} {n : Nat} (rq : roomy q) (hq : 0 ≤ q.num) (hn : n ≤ 100) (B : Nat) (w : World) (hB : B ≤ w.heap.size) (hT : PQ B w) :
    Calls Tryz.prog 33 #[.string (T q), .int .i64 n] w (Ret w (.tuple #[rangeV (T (lowR q (10 ^ n))) (T (highR q (10 ^ n))), .int .i64 0])) := by
  have HT := hide hT
  have sq := roomy_sz rq
  obtain ⟨S, hS⟩ : ∃ S, S = 10 ^ n := ⟨_, rfl⟩
  have hS0 : 0 < S := by rw [hS]; exact Nat.pow_pos (by omega)
  have hS1 : S < 10 ^ 101 := by rw [hS]; exact (Nat.pow_lt_pow_iff_right (by omega)).2 (by omega)
  have aS : ((S : Nat) : Int).natAbs < 10 ^ 101 := nat_abs_lt hS1
  have fS : fits (S : Int) := fits_small (n := 101) (by rw [most_eq]; omega) aS
  have b1 := fits_mul sq.1 aS (by omega)
  have b2 := fits_mul b1.2 aS (by omega)
  have fd : fits (q.den : Int) := rq.1.2
  have hd0 : 0 < (q.den : Int) := by have := q.den_pos; omega
  have hz : q.num * (S : Int) * S / (q.den : Int) = (((q.num * (S : Int) * S / (q.den : Int)).toNat : Nat) : Int) := by
    have := Int.ediv_nonneg (a := q.num * (S : Int) * S) (b := (q.den : Int)) (Int.mul_nonneg (Int.mul_nonneg hq (by omega)) (by omega)) (by omega)
    omega
  have fz : fits (q.num * (S : Int) * S / (q.den : Int)) := fits_of_le b2.1 (Int.natAbs_ediv_le_natAbs _ _)
  have hdl := decN_lt (k := 146) sq hS1 (by omega)
  have h7 : (10 : Nat) ^ 147 = 10 ^ 146 * 10 := Nat.pow_succ ..
  have f0 : fits ((decN q S : Nat) : Int) := fits_small (n := 147) (by rw [most_eq]; omega) (nat_abs_lt (by omega))
  have f1 : fits ((decN q S + 1 : Nat) : Int) := fits_small (n := 147) (by rw [most_eq]; omega) (nat_abs_lt (by omega))
  have X0 := hide (heap3 w (rangeO ⟨#[]⟩ ⟨#[]⟩) (.cells #[.string (T q)] 22) (.cells #[.string (T q)] 22))
  have HC := hide (rCheck_ok (w.heap.size + 1) (w.heap.size + 2) [q] [q] (by simp) (by simp) (fun x hx => by simp at hx; subst hx; exact rq) (fun x hx => by simp at hx; subst hx; omega) B _ (nums1 X0.out.2.1) (nums1 X0.out.2.2.1) (Nat.le_trans hB X0.out.2.2.2.2.size) (hT.on X0.out.2.2.2.2 hB))
  have HRP := hide (fun w => repeat_any ⟨#[48]⟩ n w (by omega) (by decide))
  have hrps : (strB (Lib.repeatL [48] n)).size ≤ 100 := by rw [strB_size, repeat48, List.length_replicate]; exact hn
  have hsc := scale_text n
  rw [show (⟨#[48]⟩ : ByteArray).data.toList = [48] from rfl] at HRP
  generalize strB (Lib.repeatL [48] n) = rp at HRP hrps hsc
  rw [← hS] at hsc ⊢
  have hcs : (9223372036854775807 < (⟨#[49]⟩ : ByteArray).size + rp.size) = False := eq_false (by
    have : (⟨#[49]⟩ : ByteArray).size = 1 := rfl
    omega)
  have hcs1 : (9223372036854775807 < 1 + rp.size) = False := eq_false (by omega)
  have HO := hide (fun w hB hT => rOf_T rq.1 B w hB hT)
  have HRO := hide (fun w hB hT => rrootOf_T rq.1 hq B w hB hT)
  have HM1 := hide (fun w hB hT => rmul_I rq.1.1 fS b1.1 B w hB hT)
  have HM2 := hide (fun w hB hT => rmul_I b1.1 fS b2.1 B w hB hT)
  have HF := hide (fun w hB hT => rfloor_I b2.1 fd hd0 B w hB hT)
  rw [hz] at fz
  have HR := hide (fun w hB hT => Root_I fz B w hB hT)
  rw [← hz] at HR
  have HL := hide (fun w hB hT => rfraction_I f0 fS (show (S : Int) ≠ 0 by omega) B w hB hT)
  have HA := hide (fun w hB hT => pAdd_I f0 (y := ((1 : Nat) : Int)) fits_one (by rw [show ((decN q S : Nat) : Int) + ((1 : Nat) : Int) = ((decN q S + 1 : Nat) : Int) by omega]; exact f1) B w hB hT)
  rw [show ((decN q S : Nat) : Int) + ((1 : Nat) : Int) = ((decN q S + 1 : Nat) : Int) by omega, lit1] at HA
  have HH := hide (fun w hB hT => rfraction_I f1 fS (show (S : Int) ≠ 0 by omega) B w hB hT)
  rw [show ((((decN q S : Nat) : Int) : Rat) / (((S : Nat) : Int) : Rat)) = lowR q S from rfl] at HL
  rw [show ((((decN q S + 1 : Nat) : Int) : Rat) / (((S : Nat) : Int) : Rat)) = ((decN q S + 1 : Nat) : Rat) / (S : Rat) from rfl] at HH
  rw [show rootN (q.num * (S : Int) * S / (q.den : Int)).toNat = decN q S from rfl] at HR
  have hn0 : ((n : Int) < 0) = False := eq_false (by omega)
  have hn1 : ((100 : Int) < (n : Int)) = False := eq_false (by omega)
  have hcase : (rootB (sqR q) = false ∧ T (highR q S) = T (((decN q S + 1 : Nat) : Rat) / (S : Rat))) ∨ (rootB (sqR q) = true ∧ ((rootT (sqR q)).toList == (T (lowR q S)).toList) = true ∧ T (highR q S) = T (lowR q S)) ∨ (rootB (sqR q) = true ∧ ((rootT (sqR q)).toList == (T (lowR q S)).toList) = false ∧ T (highR q S) = T (((decN q S + 1 : Nat) : Rat) / (S : Rat))) := by
    unfold highR
    cases hs : sqR q with
    | none => exact .inl ⟨rfl, congrArg T (if_neg (by simp))⟩
    | some r =>
      by_cases he : r = lowR q S
      · refine .inr (.inl ⟨rfl, ?_, congrArg T (if_pos (by rw [he]))⟩)
        show ((T r).toList == (T (lowR q S)).toList) = true
        rw [T_beq, decide_eq_true he]
      · refine .inr (.inr ⟨rfl, ?_, congrArg T (if_neg (fun e => he (Option.some.inj e)))⟩)
        show ((T r).toList == (T (lowR q S)).toList) = false
        rw [T_beq, decide_eq_false he]
  generalize T (highR q S) = HI at *
  generalize T (lowR q S) = L at *
  generalize T (((decN q S + 1 : Nat) : Rat) / (S : Rat)) = N1 at *
  generalize rootB (sqR q) = RB at *
  generalize rootT (sqR q) = RT at *
  generalize iB ((decN q S + 1 : Nat) : Int) = D1 at *
  generalize iB ((decN q S : Nat) : Int) = D0 at *
  generalize iB (q.num * (S : Int) * S / (q.den : Int)) = FZ at *
  generalize iB (q.num * (S : Int) * S) = M2 at *
  generalize iB (q.num * (S : Int)) = M1 at *
  generalize iB (S : Int) = SC at *
  rw [show numB q = iB q.num from rfl, show denB q = iB (q.den : Int) from rfl] at HO HRO
  generalize iB q.num = QN at *
  generalize iB (q.den : Int) = QD at *
  generalize T q = X at *
  have HCA := hide hcase
  clear rq hq hn sq hS hS0 hS1 aS fS b1 b2 fd hd0 hz fz hdl h7 f0 f1 hT hcase hrps
  go_enter Tryz.func33, Tryz.ntmps33
  go_wp2_with fail
  refine HC.out.mono ?_
  rintro e w1 ⟨rfl, hb1⟩
  have HB1 := hide (X0.out.2.2.2.2.trans (hb1.mono X0.out.2.2.2.2.size))
  have G0 := hide (below_blk hb1 X0.out.1 (lt_blk X0.out.1))
  clear hb1 X0
  go_wp2_with fail
  refine (HRP.out _).mono ?_
  rintro e w2 ⟨rfl, hb2⟩
  have G0 := hide (below_blk hb2 G0.out (lt_blk G0.out))
  have HB2 := hide (HB1.out.trans (hb2.mono HB1.out.size))
  clear hb2
  go_wp2_with fail
  refine (HO.out _ (Nat.le_trans hB HB2.out.size) (HT.out.on HB2.out hB)).mono ?_
  rintro e w3 ⟨rfl, hb3⟩
  have X3 := hide (heap1 w3 (rpairO QN QD))
  have E0 := hide (below_blk (hb3.trans (X3.out.2.2.mono hb3.size)) G0.out (lt_blk G0.out))
  have HB4 := hide (HB2.out.trans ((hb3.trans (X3.out.2.2.mono hb3.size)).mono HB2.out.size))
  clear hb3
  go_wp2_with fail
  obtain ⟨W0, hW0⟩ : ∃ W, W = w3.alloc (rpairO QN QD) := ⟨_, rfl⟩
  rw [← hW0] at X3 E0 HB4 ⊢
  have EU := hide X3.out.1
  clear hW0 X3 G0
  obtain ⟨bU, hbU⟩ : ∃ b, b = w3.heap.size := ⟨_, rfl⟩
  rw [← hbU] at EU ⊢
  clear hbU
  have hBW : B ≤ W0.heap.size := Nat.le_trans hB HB4.out.size
  have HTW := HT.out.on HB4.out hB
  have N1c := hide (fun (o : Of (Below W0.heap.size W0)) => cls_call HTW.p10 hBW HM1.out o o.h.size)
  have N2c := hide (fun (o : Of (Below W0.heap.size W0)) => cls_call HTW.p10 hBW HM2.out o o.h.size)
  have N3c := hide (fun (o : Of (Below W0.heap.size W0)) => cls_call HTW.p10 hBW HF.out o o.h.size)
  have N4c := hide (fun (o : Of (Below W0.heap.size W0)) => cls_call HTW.p10 hBW HR.out o o.h.size)
  have hx1 : ∀ x : Of (Below W0.heap.size W0), ∀ o, x.w.cell? ⟨bU, o, none⟩ = W0.cell? ⟨bU, o, none⟩ := fun x o => x.h.cell (p := ⟨bU, o, none⟩) (lt_blk EU.out)
  have c1 := fun o => cell_blk EU.out o
  have kn : Nonempty (Of (Below W0.heap.size W0)) := ⟨⟨_, Below.refl _ _⟩⟩
  clear HTW HM1 HM2 HF HR
  refine region_class (C := Cls (Below W0.heap.size W0)) (by kernel_rfl) (by kernel_rfl) (by kernel_rfl) (Cls.mk (Below.refl _ _).drew) ?_
  repeat (go_big_quiet_step (first | rfl | with_reducible exact N1c.out _ | with_reducible exact N2c.out _ | with_reducible exact N3c.out _ | with_reducible exact N4c.out _))
  refine wpQuiet_nil ?_
  intro w5 hcl
  have hb5 := hcl.out
  have E0 := hide (below_blk hb5 E0.out (lt_blk E0.out))
  have EU := hide (below_blk hb5 EU.out (lt_blk EU.out))
  have HB5 := hide (HB4.out.trans (hb5.mono HB4.out.size))
  clear hcl hb5 hx1 c1 N1c N2c N3c N4c kn hBW
  go_wp2_with fail
  refine (HL.out _ (Nat.le_trans hB HB5.out.size) (HT.out.on HB5.out hB)).mono ?_
  rintro e w6 ⟨rfl, hb6⟩
  have E0 := hide (below_blk hb6 E0.out (lt_blk E0.out))
  have EU := hide (below_blk hb6 EU.out (lt_blk EU.out))
  have HB6 := hide (HB5.out.trans (hb6.mono HB5.out.size))
  clear hb6
  have k0 := cell_blk EU.out 0
  have k1 := cell_blk EU.out 1
  have kl := lt_blk EU.out
  go_wp2_with fail
  refine (HRO.out _ (Nat.le_trans hB HB6.out.size) (HT.out.on HB6.out hB)).mono ?_
  rintro e w7 ⟨rfl, hb7⟩
  have E0 := hide (below_blk hb7 E0.out (lt_blk E0.out))
  have HB7 := hide (HB6.out.trans (hb7.mono HB6.out.size))
  clear hb7 k0 k1 kl EU
  have k0 := cell_blk E0.out 0
  have k1 := cell_blk E0.out 1
  have f0 := froz_blk E0.out 0
  have f1 := froz_blk E0.out 1
  have kl := lt_blk E0.out
  have hend : ∀ (W : World) (b : ByteArray), W.heap[w.heap.size]? = some (rangeO ⟨#[]⟩ ⟨#[]⟩) → Below w.heap.size w W → ∀ a : ByteArray, Below w.heap.size w ((W.setCell ⟨w.heap.size, 0, none⟩ (.string a)).setCell ⟨w.heap.size, 1, none⟩ (.string b)) := fun W b _ hbw a => (hbw.setCell (p := ⟨w.heap.size, 0, none⟩) (Nat.le_refl _) _).setCell (p := ⟨w.heap.size, 1, none⟩) (Nat.le_refl _) _
  have HEND := hide hend
  clear hend
  rcases HCA.out with ⟨rfl, rfl⟩ | ⟨rfl, he, rfl⟩ | ⟨rfl, he, rfl⟩
  rotate_left
  · go_wp2_with fail
    exact exit_range rfl (set2 E0.out _ _).1 rfl rfl rfl ⟨rfl, HEND.out _ _ E0.out HB7.out _⟩
  all_goals
    clear k0 k1 f0 f1 kl
    go_wp2_with fail
    refine (HA.out _ (Nat.le_trans hB HB7.out.size) (HT.out.on HB7.out hB).p10).mono ?_
    rintro e w8 ⟨rfl, hb8⟩
    have E0 := hide (below_blk hb8 E0.out (lt_blk E0.out))
    have HB8 := hide (HB7.out.trans (hb8.mono HB7.out.size))
    clear hb8
    go_wp2_with fail
    refine (HH.out _ (Nat.le_trans hB HB8.out.size) (HT.out.on HB8.out hB)).mono ?_
    rintro e w9 ⟨rfl, hb9⟩
    have E0 := hide (below_blk hb9 E0.out (lt_blk E0.out))
    have HB9 := hide (HB8.out.trans (hb9.mono HB8.out.size))
    clear hb9
    have k0 := cell_blk E0.out 0
    have k1 := cell_blk E0.out 1
    have f0 := froz_blk E0.out 0
    have f1 := froz_blk E0.out 1
    have kl := lt_blk E0.out
    go_wp2_with fail
    exact exit_range rfl (set2 E0.out _ _).1 rfl rfl rfl ⟨rfl, HEND.out _ _ E0.out HB9.out _⟩
end Go.Proofs.YtgddookioipjiaaGreatDoor
namespace Go.Proofs.YtgddookioipjiaaGreatDoor
open Go.RowKit Go.KP Go.KI Go.Shelf
attribute [local go_sem] Oper.semAt_some

theorem ex10 : T 10 = ⟨#[49, 48]⟩ := txn (n := 10) rfl (a := [49, 48]) (by decide +kernel)
/-- A unit of the last of k places. -/
def unitR (k : Nat) : Rat := 1 / ((10 ^ k : Nat) : Rat)
theorem unitR_succ (k : Nat) : unitR k / 10 = unitR (k + 1) := by
  have p1 := Rat.natCast_pos.2 (Nat.pow_pos (n := k) (show 0 < 10 by omega))
  have e : ((10 ^ (k + 1) : Nat) : Rat) = 10 * ((10 ^ k : Nat) : Rat) := by
    rw [Nat.pow_succ, Rat.natCast_mul, Rat.mul_comm]
    rfl
  unfold unitR
  rw [e]
  generalize ((10 ^ k : Nat) : Rat) = s at p1
  have sn : s ≠ 0 := Rat.ne_of_gt p1
  grind
theorem unitR_sz {k : Nat} (h : k ≤ 31) : sz 32 (unitR k) := by
  have h1 : 10 ^ k < 10 ^ 32 := (Nat.pow_lt_pow_iff_right (by omega)).2 (by omega)
  exact divNat_sz (k := 1) (Nat.pow_pos (by omega)) (by decide) h1
theorem unitR_ne (k : Nat) : unitR k ≠ 0 := by
  have p1 := Rat.natCast_pos.2 (Nat.pow_pos (n := k) (show 0 < 10 by omega))
  have sn := Rat.ne_of_gt p1
  unfold unitR
  intro e
  generalize ((10 ^ k : Nat) : Rat) = s at *
  grind
theorem T_zero_test (x : Rat) : ((T x).toList == [48]) = decide (x = 0) := by
  rw [T_num0]
  exact decide_eq_decide.2 Rat.num_eq_zero
set_option maxRecDepth 100000 in
set_option maxHeartbeats 16000000 in
theorem lawDecimals_any (q : ByteArray) (m : Nat) (hm : m < 256) (n0 : Nat) (w : World) (hB : n0 ≤ w.heap.size) (hT : PR n0 w) :
    Calls Tryz.prog 10 #[.string q, .int .u8 m] w (Ret w (.bool true)) := by
  have HT := hide hT
  have HAW := hide (fun w hB hT => l3awake_any n0 w hB hT)
  have X0 := hide (heap1 w (.cells #[.string q] 22))
  have HF := hide (lsizes_any w.heap.size [q] (by simp) n0 _ (strs1 X0.out.1) (Nat.le_trans hB X0.out.2.2.size) (hT.on X0.out.2.2 hB).pq)
  clear hT
  by_cases h : ∀ s ∈ [q], okS s
  rotate_left
  · rw [decide_eq_false h] at HF
    clear h
    go_enter Tryz.func10, Tryz.ntmps10
    go_wp2_with fail
    refine HF.out.mono ?_
    rintro e w1 ⟨rfl, hb1⟩
    have HB1 := hide (X0.out.2.2.trans (hb1.mono X0.out.2.2.size))
    clear hb1 X0
    go_wp2_with fail
    refine (HAW.out _ (Nat.le_trans hB HB1.out.size) (HT.out.on HB1.out hB)).mono ?_
    rintro e w99 ⟨rfl, hb99⟩
    have HB99 := hide (HB1.out.trans (hb99.mono HB1.out.size))
    clear hb99
    go_wp2_with fail
    go_ret
    exact ⟨rfl, HB99.out⟩
  rw [decide_eq_true h] at HF
  obtain ⟨Q, sQ, rfl⟩ := okS_T (h q (by simp))
  clear h
  have fQ := sz_fits sQ (by rw [most_eq]; omega)
  have rQ := roomy_of sQ (by omega)
  have HS0 := hide (fun w hB hT => lsign_T fQ n0 w hB hT)
  by_cases g0 : sgnR Q < 0
  · clear sQ rQ fQ
    generalize sgnR Q = z0 at *
    go_enter Tryz.func10, Tryz.ntmps10
    go_wp2_with fail
    refine HF.out.mono ?_
    rintro e w1 ⟨rfl, hb1⟩
    have HB1 := hide (X0.out.2.2.trans (hb1.mono X0.out.2.2.size))
    clear hb1 X0
    go_wp2_with fail
    refine (HS0.out _ (Nat.le_trans hB HB1.out.size) (HT.out.on HB1.out hB).pq).mono ?_
    rintro e w2 ⟨rfl, hb2⟩
    have HB2 := hide (HB1.out.trans (hb2.mono HB1.out.size))
    clear hb2
    go_wp2_with fail
    refine (HAW.out _ (Nat.le_trans hB HB2.out.size) (HT.out.on HB2.out hB)).mono ?_
    rintro e w99 ⟨rfl, hb99⟩
    have HB99 := hide (HB2.out.trans (hb99.mono HB2.out.size))
    clear hb99
    go_wp2_with fail
    go_ret
    exact ⟨rfl, HB99.out⟩
  have nQ := sgn_nonneg g0
  replace g0 := eq_false g0
  obtain ⟨k, hkd⟩ : ∃ k, k = m % 31 := ⟨_, rfl⟩
  have hk : k ≤ 30 := by omega
  have S0 : 0 < 10 ^ k := Nat.pow_pos (by omega)
  have S1 : 10 ^ k < 10 ^ 32 := (Nat.pow_lt_pow_iff_right (by omega)).2 (by omega)
  have S2 : 10 ^ (k + 1) < 10 ^ 32 := (Nat.pow_lt_pow_iff_right (by omega)).2 (by omega)
  have eS : 10 ^ (k + 1) = 10 * 10 ^ k := by rw [Nat.pow_succ, Nat.mul_comm]
  obtain ⟨d1, d2, d3, d4⟩ := dec_law nQ S0
  obtain ⟨m1, m2⟩ := dec_more nQ S0
  rw [← eS] at m1 m2
  have sL := (lowR_sz (k := 42) sQ S0 S1 (by omega) (by omega)).1
  have sH := highR_sz (k := 42) sQ S0 S1 (by omega) (by omega)
  have sL2 := (lowR_sz (k := 42) sQ (S := 10 ^ (k + 1)) (Nat.pow_pos (by omega)) S2 (by omega) (by omega)).1
  have sH2 := highR_sz (k := 42) sQ (S := 10 ^ (k + 1)) (Nat.pow_pos (by omega)) S2 (by omega) (by omega)
  have C1 := hide (fun w hB hT => rBetween_T (n := k) rQ nQ (by omega) n0 w hB hT)
  have C2 := hide (fun w hB hT => rBetween_T (n := k + 1) rQ nQ (by omega) n0 w hB hT)
  rw [show ((k + 1 : Nat) : Int) = (k : Int) + 1 by omega] at C2
  have fL := sz_fits sL (by rw [most_eq]; omega)
  have fH := sz_fits sH (by rw [most_eq]; omega)
  have fL2 := sz_fits sL2 (by rw [most_eq]; omega)
  have fH2 := sz_fits sH2 (by rw [most_eq]; omega)
  have C3 := hide (fun w hB hT => qsub_to (T_list (highR Q (10 ^ k))) (T_list (lowR Q (10 ^ k))) fH fL (subC_of sH sL (by rw [most_eq]; omega)) n0 w hB hT)
  rw [show strB (ratS (highR Q (10 ^ k) - lowR Q (10 ^ k))) = T (highR Q (10 ^ k) - lowR Q (10 ^ k)) from rfl] at C3
  have C4 := hide (fun w r hr hB hT => ltimes2 sL sL (by omega) n0 w r hr hB hT)
  have sLL := (okT2 sL sL (by omega)).2.2
  have C5 := hide (fun w hB hT => qcmp_T (sz_fits sLL (by rw [most_eq]; omega)) fQ (cmpC_of sLL sQ (by rw [most_eq]; omega)) n0 w hB hT)
  have C6 := hide (fun w r hr hB hT => ltimes2 sH sH (by omega) n0 w r hr hB hT)
  have sHH := (okT2 sH sH (by omega)).2.2
  have C7 := hide (fun w hB hT => qcmp_T (sz_fits sHH (by rw [most_eq]; omega)) fQ (cmpC_of sHH sQ (by rw [most_eq]; omega)) n0 w hB hT)
  have C8 := hide (fun w hB hT => qcmp_T fL fL2 (cmpC_of sL sL2 (by rw [most_eq]; omega)) n0 w hB hT)
  have C9 := hide (fun w hB hT => qcmp_T fH2 fH (cmpC_of sH2 sH (by rw [most_eq]; omega)) n0 w hB hT)
  have HU : Hid (∀ j, j ≤ 31 → ∀ w, n0 ≤ w.heap.size → PQ n0 w → Calls Tryz.prog 26 #[.string (T (unitR j)), .string ⟨#[49, 48]⟩] w (Ret w (.tuple #[.string (T (unitR (j + 1))), .int .i64 0]))) := hide (fun j hj w hB hT => by
    have s10 : sz 2 (10 : Rat) := ⟨by decide, by decide⟩
    have h := qdiv_to (T_list (unitR j)) (T_list 10) (sz_fits (unitR_sz hj) (by rw [most_eq]; omega)) (sz_fits s10 (by rw [most_eq]; omega)) (by decide) (cmpC_of (unitR_sz hj) s10 (by rw [most_eq]; omega)) n0 w hB hT
    rw [unitR_succ, ex10] at h
    exact h)
  have a1 : (0 < cmpR (lowR Q (10 ^ k) * lowR Q (10 ^ k)) Q) = False := eq_false (by have := cmp_le d1; omega)
  have a2 : (cmpR (highR Q (10 ^ k) * highR Q (10 ^ k)) Q < 0) = False := eq_false (by have := cmp_le d2; rw [cmpT_anti] at this; omega)
  have a3 : (0 < cmpR (lowR Q (10 ^ k)) (lowR Q (10 ^ (k + 1)))) = False := eq_false (by have := cmp_le m1; omega)
  have a4 : (0 < cmpR (highR Q (10 ^ (k + 1))) (highR Q (10 ^ k))) = False := eq_false (by have := cmp_le m2; omega)
  have t1 := T_beq (lowR Q (10 ^ k) * lowR Q (10 ^ k)) Q
  have t2 : ((T (highR Q (10 ^ k) - lowR Q (10 ^ k))).toList == [48]) = decide (lowR Q (10 ^ k) * lowR Q (10 ^ k) = Q) := (T_zero_test _).trans (decide_eq_decide.2 d4)
  have HD : ((T (highR Q (10 ^ k) - lowR Q (10 ^ k))).toList == [48]) = true ∨ (((T (highR Q (10 ^ k) - lowR Q (10 ^ k))).toList == [48]) = false ∧ T (highR Q (10 ^ k) - lowR Q (10 ^ k)) = T (unitR k)) := by
    rcases d3 with h | h
    · left
      rw [T_zero_test, decide_eq_true h]
    · right
      rw [T_zero_test, h]
      exact ⟨decide_eq_false (unitR_ne k), rfl⟩
  have hmx := mxe3
  have hm4 := mxe4
  have T10 : (⟨#[49]⟩ : ByteArray) = T (unitR 0) := by
    rw [show unitR 0 = 1 by decide +kernel, T1]
  have HT10 := hide T10
  clear T10 S0 S1 S2 eS d1 d2 d3 d4 m1 m2 fL fH fL2 fH2 sLL sHH sL sH sL2 sH2 rQ nQ sQ fQ
  generalize cmpR (lowR Q (10 ^ k) * lowR Q (10 ^ k)) Q = z5 at *
  generalize cmpR (highR Q (10 ^ k) * highR Q (10 ^ k)) Q = z6 at *
  generalize cmpR (lowR Q (10 ^ k)) (lowR Q (10 ^ (k + 1))) = z7 at *
  generalize cmpR (highR Q (10 ^ (k + 1))) (highR Q (10 ^ k)) = z8 at *
  generalize decide ((lowR Q (10 ^ k) * lowR Q (10 ^ k)) = Q) = v at *
  generalize T (highR Q (10 ^ k) - lowR Q (10 ^ k)) = D at *
  generalize T (lowR Q (10 ^ k) * lowR Q (10 ^ k)) = LL at *
  generalize T (highR Q (10 ^ k) * highR Q (10 ^ k)) = HH at *
  generalize T (lowR Q (10 ^ k)) = L1 at *
  generalize T (highR Q (10 ^ k)) = H1 at *
  generalize T (lowR Q (10 ^ (k + 1))) = L2 at *
  generalize T (highR Q (10 ^ (k + 1))) = H2 at *
  have HDD := hide HD
  clear HD
  generalize sgnR Q = z0 at *
  generalize T Q = TQ at *
  have hk1 : (m : Int) % 31 = (k : Int) := by omega
  have hk2 : (k : Int) + 1 ≤ 31 := by omega
  clear hkd
  go_enter Tryz.func10, Tryz.ntmps10
  go_wp2_with fail
  refine HF.out.mono ?_
  rintro e w1 ⟨rfl, hb1⟩
  have HB1 := hide (X0.out.2.2.trans (hb1.mono X0.out.2.2.size))
  clear hb1 X0
  go_wp2_with fail
  refine (HS0.out _ (Nat.le_trans hB HB1.out.size) (HT.out.on HB1.out hB).pq).mono ?_
  rintro e w2 ⟨rfl, hb2⟩
  have HB2 := hide (HB1.out.trans (hb2.mono HB1.out.size))
  clear hb2
  go_wp2_with fail
  refine (C1.out _ (Nat.le_trans hB HB2.out.size) (HT.out.on HB2.out hB).pq).mono ?_
  rintro e w3 ⟨rfl, hb3⟩
  have X := hide (heap1 w3 (rangeO L1 H1))
  have HB4 := hide (HB2.out.trans ((hb3.trans (X.out.2.2.mono hb3.size)).mono HB2.out.size))
  clear hb3
  go_wp2_with fail
  obtain ⟨V1, hV⟩ : ∃ W, W = w3.alloc (rangeO L1 H1) := ⟨_, rfl⟩
  rw [← hV] at X HB4  ⊢
  have G1 := hide X.out.1
  clear hV X
  obtain ⟨b1, hb1d⟩ : ∃ b, b = w3.heap.size := ⟨_, rfl⟩
  rw [← hb1d] at G1 ⊢
  clear hb1d
  obtain ⟨w4, hw4d⟩ : ∃ W, W = V1 := ⟨_, rfl⟩
  subst hw4d
  go_wp2_with fail
  refine (C2.out _ (Nat.le_trans hB HB4.out.size) (HT.out.on HB4.out hB).pq).mono ?_
  rintro e w5 ⟨rfl, hb5⟩
  have X := hide (heap1 w5 (rangeO L2 H2))
  have HB6 := hide (HB4.out.trans ((hb5.trans (X.out.2.2.mono hb5.size)).mono HB4.out.size))
  have G1 := hide (below_blk (hb5.trans (X.out.2.2.mono hb5.size)) G1.out (lt_blk G1.out))
  clear hb5
  go_wp2_with fail
  obtain ⟨V2, hV⟩ : ∃ W, W = w5.alloc (rangeO L2 H2) := ⟨_, rfl⟩
  rw [← hV] at X HB6 G1 ⊢
  have G2 := hide X.out.1
  clear hV X
  obtain ⟨b2, hb2d⟩ : ∃ b, b = w5.heap.size := ⟨_, rfl⟩
  rw [← hb2d] at G2 ⊢
  clear hb2d
  obtain ⟨w6, hw6d⟩ : ∃ W, W = V2 := ⟨_, rfl⟩
  subst hw6d
  go_wp2_with fail
  go_loopw [10, 45] (fun u i wr => ∃ j : Nat, j ≤ k ∧ u = .string (T (unitR j)) ∧ i = .int .i64 j ∧ Hid (Below w6.heap.size w6 wr)) (fun _ i _ => k - (intOf i).toNat)
  case atStart => exact ⟨0, Nat.zero_le _, by rw [HT10.out], rfl, Below.refl _ _⟩
  case round =>
    obtain ⟨j, hj, rfl, rfl, hin⟩ := hrel
    obtain ⟨wo, hwo⟩ : ∃ wo, wo = wr := ⟨_, rfl⟩
    subst hwo
    have HB60 := hide (HB6.out.trans (hin.out.mono HB6.out.size))
    have HBL := hin
    clear hin
    by_cases hlt : j < k
    · have hki : (j : Int) < (k : Int) := by omega
      have D1 := hide (HU.out j (by omega))
      obtain ⟨U2, hU2⟩ : ∃ U, U = T (unitR (j + 1)) := ⟨_, rfl⟩
      rw [← hU2] at D1
      have HU2 := hide hU2
      generalize T (unitR j) = U at D1 ⊢
      clear hlt hU2
      go_wp2_with fail
      refine (D1.out _ (Nat.le_trans hB HB60.out.size) (HT.out.on HB60.out hB).pq).mono ?_
      rintro e w61 ⟨rfl, hb61⟩
      have HBL1 := hide (HBL.out.trans (hb61.mono HBL.out.size))
      clear hb61
      go_wp2_with fail
      go_roundw
      case rel => exact ⟨j + 1, by omega, by rw [HU2.out], by simp, HBL1⟩
      case measure => simp [intOf]; omega
    · obtain rfl : j = k := by omega
      have hki : ((j : Int) < (j : Int)) = False := eq_false (by omega)
      have G1 := hide (below_blk HBL.out G1.out (lt_blk G1.out))
      have G2 := hide (below_blk HBL.out G2.out (lt_blk G2.out))
      obtain ⟨U, hU⟩ : ∃ U, U = T (unitR j) := ⟨_, rfl⟩
      rw [← hU] at HDD ⊢
      have HX : Hid ((((D.toList == [48]) = true ∧ (D.toList != [48]) = false) ∨ ((D.toList == [48]) = false ∧ (D.toList != [48]) = true ∧ D = U))) := hide (by
        rcases HDD.out with h | ⟨h, h2⟩
        · exact .inl ⟨h, by simp only [bne, h]; rfl⟩
        · exact .inr ⟨h, by simp only [bne, h]; rfl, h2⟩)
      clear hlt hj HBL HDD HU hU hk hk1 hk2 hm hki HT10
      obtain ⟨w60, hw60⟩ : ∃ x, x = wo := ⟨_, rfl⟩
      subst hw60
      have q10 := cell_blk G1.out 0
      have q11 := cell_blk G1.out 1
      have q1l := lt_blk G1.out
      have q20 := cell_blk G2.out 0
      have q21 := cell_blk G2.out 1
      have q2l := lt_blk G2.out
      rcases HX.out with ⟨x1, x2⟩ | ⟨x1, x2, rfl⟩
      all_goals
        rw [x1] at t2
        obtain ⟨e1, e2⟩ := beqs D
        rw [← t2] at t1
        clear t2
        go_wp2_with fail
        refine (C3.out _ (Nat.le_trans hB HB60.out.size) (HT.out.on HB60.out hB).pq).mono ?_
        rintro e w61 ⟨rfl, hb61⟩
        clear q10 q11 q1l q20 q21 q2l
        have G1 := hide (below_blk (hb61) G1.out (lt_blk G1.out))
        have G2 := hide (below_blk (hb61) G2.out (lt_blk G2.out))
        have HB61 := hide (HB60.out.trans (hb61.mono HB60.out.size))
        clear hb61
        have q10 := cell_blk G1.out 0
        have q11 := cell_blk G1.out 1
        have q1l := lt_blk G1.out
        have q20 := cell_blk G2.out 0
        have q21 := cell_blk G2.out 1
        have q2l := lt_blk G2.out
        go_wp2_with fail
        have X := hide (heap1 w61 (.cells #[.string L1, .string L1] 22))
        have HX2 := hide (HB61.out.trans (X.out.2.2.mono HB61.out.size))
        refine (C4.out _ w61.heap.size X.out.1 (Nat.le_trans hB HX2.out.size) (HT.out.on HX2.out hB).pq).mono ?_
        rintro e w62 ⟨rfl, hb62⟩
        have hb62 := X.out.2.2.trans (hb62.mono X.out.2.2.size)
        clear q10 q11 q1l q20 q21 q2l
        have G1 := hide (below_blk (hb62) G1.out (lt_blk G1.out))
        have G2 := hide (below_blk (hb62) G2.out (lt_blk G2.out))
        have HB62 := hide (HB61.out.trans (hb62.mono HB61.out.size))
        clear hb62 X HX2
        have q10 := cell_blk G1.out 0
        have q11 := cell_blk G1.out 1
        have q1l := lt_blk G1.out
        have q20 := cell_blk G2.out 0
        have q21 := cell_blk G2.out 1
        have q2l := lt_blk G2.out
        go_wp2_with fail
        refine (C5.out _ (Nat.le_trans hB HB62.out.size) (HT.out.on HB62.out hB).pq).mono ?_
        rintro e w63 ⟨rfl, hb63⟩
        clear q10 q11 q1l q20 q21 q2l
        have G1 := hide (below_blk (hb63) G1.out (lt_blk G1.out))
        have G2 := hide (below_blk (hb63) G2.out (lt_blk G2.out))
        have HB63 := hide (HB62.out.trans (hb63.mono HB62.out.size))
        clear hb63
        have q10 := cell_blk G1.out 0
        have q11 := cell_blk G1.out 1
        have q1l := lt_blk G1.out
        have q20 := cell_blk G2.out 0
        have q21 := cell_blk G2.out 1
        have q2l := lt_blk G2.out
        go_wp2_with fail
        have X := hide (heap1 w63 (.cells #[.string H1, .string H1] 22))
        have HX2 := hide (HB63.out.trans (X.out.2.2.mono HB63.out.size))
        refine (C6.out _ w63.heap.size X.out.1 (Nat.le_trans hB HX2.out.size) (HT.out.on HX2.out hB).pq).mono ?_
        rintro e w64 ⟨rfl, hb64⟩
        have hb64 := X.out.2.2.trans (hb64.mono X.out.2.2.size)
        clear q10 q11 q1l q20 q21 q2l
        have G1 := hide (below_blk (hb64) G1.out (lt_blk G1.out))
        have G2 := hide (below_blk (hb64) G2.out (lt_blk G2.out))
        have HB64 := hide (HB63.out.trans (hb64.mono HB63.out.size))
        clear hb64 X HX2
        have q10 := cell_blk G1.out 0
        have q11 := cell_blk G1.out 1
        have q1l := lt_blk G1.out
        have q20 := cell_blk G2.out 0
        have q21 := cell_blk G2.out 1
        have q2l := lt_blk G2.out
        go_wp2_with fail
        refine (C7.out _ (Nat.le_trans hB HB64.out.size) (HT.out.on HB64.out hB).pq).mono ?_
        rintro e w65 ⟨rfl, hb65⟩
        clear q10 q11 q1l q20 q21 q2l
        have G1 := hide (below_blk (hb65) G1.out (lt_blk G1.out))
        have G2 := hide (below_blk (hb65) G2.out (lt_blk G2.out))
        have HB65 := hide (HB64.out.trans (hb65.mono HB64.out.size))
        clear hb65
        have q10 := cell_blk G1.out 0
        have q11 := cell_blk G1.out 1
        have q1l := lt_blk G1.out
        have q20 := cell_blk G2.out 0
        have q21 := cell_blk G2.out 1
        have q2l := lt_blk G2.out
        go_wp2_with fail
        refine (C8.out _ (Nat.le_trans hB HB65.out.size) (HT.out.on HB65.out hB).pq).mono ?_
        rintro e w66 ⟨rfl, hb66⟩
        clear q10 q11 q1l q20 q21 q2l
        have G1 := hide (below_blk (hb66) G1.out (lt_blk G1.out))
        have G2 := hide (below_blk (hb66) G2.out (lt_blk G2.out))
        have HB66 := hide (HB65.out.trans (hb66.mono HB65.out.size))
        clear hb66
        have q10 := cell_blk G1.out 0
        have q11 := cell_blk G1.out 1
        have q1l := lt_blk G1.out
        have q20 := cell_blk G2.out 0
        have q21 := cell_blk G2.out 1
        have q2l := lt_blk G2.out
        go_wp2_with fail
        refine (C9.out _ (Nat.le_trans hB HB66.out.size) (HT.out.on HB66.out hB).pq).mono ?_
        rintro e w67 ⟨rfl, hb67⟩
        clear q10 q11 q1l q20 q21 q2l
        have G1 := hide (below_blk (hb67) G1.out (lt_blk G1.out))
        have G2 := hide (below_blk (hb67) G2.out (lt_blk G2.out))
        have HB67 := hide (HB66.out.trans (hb67.mono HB66.out.size))
        clear hb67
        have q10 := cell_blk G1.out 0
        have q11 := cell_blk G1.out 1
        have q1l := lt_blk G1.out
        have q20 := cell_blk G2.out 0
        have q21 := cell_blk G2.out 1
        have q2l := lt_blk G2.out
        go_wp2_with fail
        have X := hide (heap1 w67 (.cells #[.string L1, .string L1] 22))
        have HX2 := hide (HB67.out.trans (X.out.2.2.mono HB67.out.size))
        refine (C4.out _ w67.heap.size X.out.1 (Nat.le_trans hB HX2.out.size) (HT.out.on HX2.out hB).pq).mono ?_
        rintro e w68 ⟨rfl, hb68⟩
        have hb68 := X.out.2.2.trans (hb68.mono X.out.2.2.size)
        clear q10 q11 q1l q20 q21 q2l
        have G1 := hide (below_blk (hb68) G1.out (lt_blk G1.out))
        have G2 := hide (below_blk (hb68) G2.out (lt_blk G2.out))
        have HB68 := hide (HB67.out.trans (hb68.mono HB67.out.size))
        clear hb68 X HX2
        have q10 := cell_blk G1.out 0
        have q11 := cell_blk G1.out 1
        have q1l := lt_blk G1.out
        have q20 := cell_blk G2.out 0
        have q21 := cell_blk G2.out 1
        have q2l := lt_blk G2.out
        go_wp2_with fail
        refine (HAW.out _ (Nat.le_trans hB HB68.out.size) (HT.out.on HB68.out hB)).mono ?_
        rintro e w99 ⟨rfl, hb99⟩
        have HB99 := hide (HB68.out.trans (hb99.mono HB68.out.size))
        clear hb99
        go_wp2_with fail
        go_ret
        exact ⟨rfl, HB99.out⟩
end Go.Proofs.YtgddookioipjiaaGreatDoor
