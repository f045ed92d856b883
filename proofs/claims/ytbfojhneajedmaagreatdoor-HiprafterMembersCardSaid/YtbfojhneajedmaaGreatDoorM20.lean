/-
  Members: the examples of the chapter walked.; Members of any kind: the law Members walked.; Members as arguments: opened.
-/
import Derived.Test.YtbfojhneajedmaaGreatDoorM16
import Derived.Test.YtbfojhneajedmaaGreatDoorM19
import Derived.Test.YtbfojhneajedmaaGreatDoorM15
import Derived.ChangeSame
import Derived.OpenShut
namespace Go.Proofs.YtbfojhneajedmaaGreatDoor
open Go.RowKit Go.KP Go.KI Go.Shelf
attribute [local go_sem] Oper.semAt_some

theorem T_dig (u : Nat) (h : u < 10) : T ((u : Nat) : Rat) = ⟨#[UInt8.ofNat (48 + u)]⟩ := by
  apply bytes_eq
  rw [T_list, show ((u : Nat) : Rat) = (((u : Nat) : Int) : Rat) from rfl, ratS_int, Lib.itoa_nonneg, Lib.decDigits_one h]
theorem T4 : T 4 = ⟨#[52]⟩ := T_dig 4 (by omega)
theorem T3 : T 3 = ⟨#[51]⟩ := T_dig 3 (by omega)
theorem T2 : T 2 = ⟨#[50]⟩ := T_dig 2 (by omega)
theorem T1 : T 1 = ⟨#[49]⟩ := T_dig 1 (by omega)
theorem Tm4 : T (-4) = ⟨#[45, 52]⟩ := by
  apply bytes_eq
  rw [T_list, show (-4 : Rat) = (((-((4 : Nat) : Int)) : Int) : Rat) by decide +kernel, ratS_int, Lib.itoa_neg 4 (by omega), Lib.decDigits_one (by omega)]
  rfl
abbrev q32 : Rat := ⟨3, 2, by decide, by decide⟩
theorem T32 : T q32 = ⟨#[51, 47, 50]⟩ := by
  apply bytes_eq
  rw [T_list]
  unfold ratS
  rw [if_neg (by decide), show q32.num = ((3 : Nat) : Int) from rfl, Lib.itoa_nonneg, Lib.decDigits_one (by omega), show q32.den = 2 from rfl, Lib.decDigits_one (by omega)]
  rfl
abbrev pEx : V3 := ⟨4, 4, 3⟩
theorem pSz : szV 1 pEx := ⟨⟨by decide, by decide⟩, ⟨by decide, by decide⟩, ⟨by decide, by decide⟩⟩
theorem zSz : szV 1 vzero := ⟨⟨by decide, by decide⟩, ⟨by decide, by decide⟩, ⟨by decide, by decide⟩⟩
theorem exMem : Mem 6 3 0 vzero pEx 80 220 := ⟨by omega, by omega, by omega, by omega, by omega, by omega, by omega, by omega, szV_mono zSz (by omega), szV_mono pSz (by omega), by decide +kernel⟩
theorem ex_sub : vsub pEx vzero = pEx := by decide +kernel
theorem ex_side : vside pEx = ⟨-4, 4, 0⟩ := by decide +kernel
theorem ex_yes : meetsP vzero pEx ⟨2, 2, q32⟩ := by decide +kernel
theorem ex_no : ¬ meetsP vzero pEx ⟨2, 2, 1⟩ := by decide +kernel
abbrev b0 : ByteArray := ⟨#[48]⟩
abbrev b1 : ByteArray := ⟨#[49]⟩
abbrev b2 : ByteArray := ⟨#[50]⟩
abbrev b3 : ByteArray := ⟨#[51]⟩
abbrev b4 : ByteArray := ⟨#[52]⟩
abbrev bm4 : ByteArray := ⟨#[45, 52]⟩
abbrev b32 : ByteArray := ⟨#[51, 47, 50]⟩
abbrev exV : Value := .agg #[.int .i64 6, .int .i64 3, .int .i64 0, .string b0, .string b0, .string b0, .string b4, .string b4, .string b3, .int .i64 80, .int .i64 220]
abbrev exO : Obj := .cells #[.int .i64 6, .int .i64 3, .int .i64 0, .string b0, .string b0, .string b0, .string b4, .string b4, .string b3, .int .i64 80, .int .i64 220] 26
theorem exV_eq : memV 6 3 0 vzero pEx 80 220 = exV := by
  show Value.agg #[.int .i64 6, .int .i64 3, .int .i64 0, .string (T 0), .string (T 0), .string (T 0), .string (T 4), .string (T 4), .string (T 3), .int .i64 80, .int .i64 220] = _
  rw [T0, T4, T3]
theorem vp_eq : vecV pEx = spotV b4 b4 b3 := by
  show Value.agg #[.string (T 4), .string (T 4), .string (T 3)] = _
  rw [T4, T3]
theorem vs_eq : vecV ⟨-4, 4, 0⟩ = spotV bm4 b4 b0 := by
  show Value.agg #[.string (T (-4)), .string (T 4), .string (T 0)] = _
  rw [T4, T0, Tm4]
theorem vy_eq : vecV ⟨2, 2, q32⟩ = spotV b2 b2 b32 := by
  show Value.agg #[.string (T 2), .string (T 2), .string (T q32)] = _
  rw [T2, T32]
theorem vn_eq : vecV ⟨2, 2, 1⟩ = spotV b2 b2 b1 := by
  show Value.agg #[.string (T 2), .string (T 2), .string (T 1)] = _
  rw [T2, T1]
theorem lx_eq : lineV 2 vzero pEx 3 0 = .agg #[.int .i64 2, .string b0, .string b0, .string b0, .string b4, .string b4, .string b3, .int .i64 3, .int .i64 0] := by
  show Value.agg #[.int .i64 2, .string (T 0), .string (T 0), .string (T 0), .string (T 4), .string (T 4), .string (T 3), .int .i64 3, .int .i64 0] = _
  rw [T0, T4, T3]
theorem mx6 (w : World) : (Builtin.max_ #[31, 31, 31, 31, 31, 31] 31 #[.int .i64 0, .int .i64 0, .int .i64 0, .int .i64 0, .int .i64 0, .int .i64 0]).run Tryz.prog w = .ok (.int .i64 0) w := by kernel_rfl
set_option maxRecDepth 100000 in
set_option maxHeartbeats 16000000 in
theorem hawake_any (B : Nat) (w : World) (hB : B ≤ w.heap.size) (hT : PQ B w) :
    Calls Tryz.prog 18 #[] w (Ret w (.bool true)) := by
  have HT := hide hT
  have HOf := hide (fun w hB hT => hOf_to (n := 2) (by decide) exMem B w hB hT)
  rw [show kindP 2 = 6 from rfl, lx_eq, exV_eq] at HOf
  have HD := hide (fun w hB hT => hDirection_to exMem B w hB hT)
  rw [ex_sub, exV_eq, vp_eq] at HD
  have HS := hide (fun w hB hT => hSide_to exMem B w hB hT)
  rw [ex_sub, exV_eq, ex_side, vs_eq] at HS
  have HR := hide (fun w hB hT => hRise_to exMem B w hB hT)
  rw [ex_sub, exV_eq, show T pEx.z = b3 from T3] at HR
  have HM1 := hide (fun w hB hT => hMeets_to exMem (q := ⟨2, 2, q32⟩) ⟨⟨by decide +kernel, by decide +kernel⟩, ⟨by decide +kernel, by decide +kernel⟩, ⟨by decide +kernel, by decide +kernel⟩⟩ (r := true) (decide_eq_true ex_yes).symm B w hB hT)
  rw [exV_eq, vy_eq] at HM1
  have HM2 := hide (fun w hB hT => hMeets_to exMem (q := ⟨2, 2, 1⟩) ⟨⟨by decide +kernel, by decide +kernel⟩, ⟨by decide +kernel, by decide +kernel⟩, ⟨by decide +kernel, by decide +kernel⟩⟩ (r := false) (decide_eq_false ex_no).symm B w hB hT)
  rw [exV_eq, vn_eq] at HM2
  have HSP := hide (fun x y z w => lspot_at x y z w)
  have X0 := hide (heap2 w (spotO b0 b0 b0) (spotO b4 b4 b3))
  clear hT
  go_enter Tryz.func18, Tryz.ntmps18
  go_wp2_with fail
  refine (HSP.out _ _ _ _).mono ?_
  rintro e w' ⟨rfl, rfl⟩
  go_wp2_with fail
  refine (HSP.out _ _ _ _).mono ?_
  rintro e w' ⟨rfl, rfl⟩
  go_wp2_with fail
  refine (HOf.out _ (Nat.le_trans hB X0.out.2.2.2.size) (HT.out.on X0.out.2.2.2 hB)).mono ?_
  rintro e w1 ⟨rfl, hb1⟩
  have X1 := hide (heap1 w1 exO)
  have G1 := hide X1.out.1
  have HB1 := hide (X0.out.2.2.2.trans ((hb1.trans (X1.out.2.2.mono hb1.size)).mono X0.out.2.2.2.size))
  clear hb1
  go_wp2_with fail
  refine (HD.out _ (Nat.le_trans hB HB1.out.size) (HT.out.on HB1.out hB)).mono ?_
  rintro e w2 ⟨rfl, hb2⟩
  have X2 := hide (heap1 w2 (spotO b4 b4 b3))
  have hb2' := hb2.trans (X2.out.2.2.mono hb2.size)
  have G1 := hide (below_blk hb2' G1.out (lt_blk G1.out))
  have G3 := hide X2.out.1
  have HB2 := hide (HB1.out.trans (hb2'.mono HB1.out.size))
  clear hb2 hb2'
  have c := fun o => cell_blk G1.out o
  have l1 := lt_blk G1.out
  go_wp2_with fail
  refine (HS.out _ (Nat.le_trans hB HB2.out.size) (HT.out.on HB2.out hB)).mono ?_
  rintro e w3 ⟨rfl, hb3⟩
  have X3 := hide (heap1 w3 (spotO bm4 b4 b0))
  have hb3' := hb3.trans (X3.out.2.2.mono hb3.size)
  have G1 := hide (below_blk hb3' G1.out (lt_blk G1.out))
  have G3 := hide (below_blk hb3' G3.out (lt_blk G3.out))
  have G5 := hide X3.out.1
  have HB3 := hide (HB2.out.trans (hb3'.mono HB2.out.size))
  clear hb3 hb3' c l1
  have c := fun o => cell_blk G1.out o
  have l1 := lt_blk G1.out
  go_wp2_with fail
  refine (HR.out _ (Nat.le_trans hB HB3.out.size) (HT.out.on HB3.out hB)).mono ?_
  rintro e w4 ⟨rfl, hb4⟩
  have G1 := hide (below_blk hb4 G1.out (lt_blk G1.out))
  have G3 := hide (below_blk hb4 G3.out (lt_blk G3.out))
  have G5 := hide (below_blk hb4 G5.out (lt_blk G5.out))
  have HB4 := hide (HB3.out.trans (hb4.mono HB3.out.size))
  clear hb4 c l1
  have c := fun o => cell_blk G1.out o
  have l1 := lt_blk G1.out
  have HC4 := hide (fun (x : Of (Below w4.heap.size w4)) => show Calls Tryz.prog 25 #[exV, spotV b2 b2 b32] x.w fun e w' => e = .returned (.tuple #[.bool true, .int .i64 0]) ∧ Cls (Below w4.heap.size w4) w' from (HM1.out x.w (Nat.le_trans hB (Nat.le_trans HB4.out.size x.h.size)) ((HT.out.on HB4.out hB).on x.h (Nat.le_trans hB HB4.out.size))).mono fun _ _ ⟨h, hb⟩ => ⟨h, Cls.mk (x.h.trans (hb.mono (by have := x.h.size; omega)))⟩)
  have HSC := hide (fun (a b c : ByteArray) (x : Of (Below w4.heap.size w4)) => lspot_cls a b c w4.heap.size w4 (Nat.le_refl _) x)
  go_wp2_with fail
  have hx1 : ∀ x : Of (Below w4.heap.size w4), ∀ o, x.w.cell? ⟨w1.heap.size, o, none⟩ = w4.cell? ⟨w1.heap.size, o, none⟩ := fun x o => x.h.cell (p := ⟨w1.heap.size, o, none⟩) (lt_blk G1.out)
  refine region_prefix (C := Cls (Below w4.heap.size w4)) 8 (by kernel_rfl) (by decide) (by kernel_rfl) (by kernel_rfl) (by kernel_rfl) (by kernel_rfl) (Cls.mk (Below.refl _ _).drew) ?_
  simp only [List.take_succ_cons, List.take_zero, List.drop_succ_cons, List.drop_zero]
  repeat (go_big_quiet_step (first | with_reducible exact HSC.out _ _ _ _ | with_reducible exact HC4.out _))
  refine wpQuiet_nil ?_
  intro w5 hcl
  have hb := hcl.out
  have G1 := hide (below_blk hb G1.out (lt_blk G1.out))
  have G3 := hide (below_blk hb G3.out (lt_blk G3.out))
  have G5 := hide (below_blk hb G5.out (lt_blk G5.out))
  have HB5 := hide (HB4.out.trans (hb.mono HB4.out.size))
  clear hcl hb hx1 c l1 HC4 HSC
  have c := fun o => cell_blk G1.out o
  have l1 := lt_blk G1.out
  have HC5 := hide (fun (x : Of (Below w5.heap.size w5)) => show Calls Tryz.prog 25 #[exV, spotV b2 b2 b1] x.w fun e w' => e = .returned (.tuple #[.bool false, .int .i64 0]) ∧ Cls (Below w5.heap.size w5) w' from (HM2.out x.w (Nat.le_trans hB (Nat.le_trans HB5.out.size x.h.size)) ((HT.out.on HB5.out hB).on x.h (Nat.le_trans hB HB5.out.size))).mono fun _ _ ⟨h, hb⟩ => ⟨h, Cls.mk (x.h.trans (hb.mono (by have := x.h.size; omega)))⟩)
  have HSC := hide (fun (a b c : ByteArray) (x : Of (Below w5.heap.size w5)) => lspot_cls a b c w5.heap.size w5 (Nat.le_refl _) x)
  go_wp2_with fail
  have hx1 : ∀ x : Of (Below w5.heap.size w5), ∀ o, x.w.cell? ⟨w1.heap.size, o, none⟩ = w5.cell? ⟨w1.heap.size, o, none⟩ := fun x o => x.h.cell (p := ⟨w1.heap.size, o, none⟩) (lt_blk G1.out)
  refine region_prefix (C := Cls (Below w5.heap.size w5)) 8 (by kernel_rfl) (by decide) (by kernel_rfl) (by kernel_rfl) (by kernel_rfl) (by kernel_rfl) (Cls.mk (Below.refl _ _).drew) ?_
  simp only [List.take_succ_cons, List.take_zero, List.drop_succ_cons, List.drop_zero]
  repeat (go_big_quiet_step (first | with_reducible exact HSC.out _ _ _ _ | with_reducible exact HC5.out _))
  refine wpQuiet_nil ?_
  intro w6 hcl
  have hb := hcl.out
  have G1 := hide (below_blk hb G1.out (lt_blk G1.out))
  have G3 := hide (below_blk hb G3.out (lt_blk G3.out))
  have G5 := hide (below_blk hb G5.out (lt_blk G5.out))
  have HB6 := hide (HB5.out.trans (hb.mono HB5.out.size))
  clear hcl hb hx1 c l1 HC5 HSC
  have c := fun o => cell_blk G1.out o
  have l1 := lt_blk G1.out
  have HSC := hide (fun (a b c : ByteArray) (x : Of (Below w6.heap.size w6)) => lspot_cls a b c w6.heap.size w6 (Nat.le_refl _) x)
  have hmx := mx6
  have he1 : ∀ w, (Op.equalIn 10000 24 (spotV b4 b4 b3) (spotV b4 b4 b3)).run Tryz.prog w = .ok true w := fun w => by rw [eqSpot]; simp
  have he2 : ∀ w, (Op.equalIn 10000 24 (spotV bm4 b4 b0) (spotV bm4 b4 b0)).run Tryz.prog w = .ok true w := fun w => by rw [eqSpot]; simp
  go_wp2_with fail
  have hx1 : ∀ x : Of (Below w6.heap.size w6), ∀ o, x.w.cell? ⟨w1.heap.size, o, none⟩ = w6.cell? ⟨w1.heap.size, o, none⟩ := fun x o => x.h.cell (p := ⟨w1.heap.size, o, none⟩) (lt_blk G1.out)
  have hx3 : ∀ x : Of (Below w6.heap.size w6), ∀ o, x.w.cell? ⟨w2.heap.size, o, none⟩ = w6.cell? ⟨w2.heap.size, o, none⟩ := fun x o => x.h.cell (p := ⟨w2.heap.size, o, none⟩) (lt_blk G3.out)
  have hx5 : ∀ x : Of (Below w6.heap.size w6), ∀ o, x.w.cell? ⟨w3.heap.size, o, none⟩ = w6.cell? ⟨w3.heap.size, o, none⟩ := fun x o => x.h.cell (p := ⟨w3.heap.size, o, none⟩) (lt_blk G5.out)
  have c3 := fun o => cell_blk G3.out o
  have c5 := fun o => cell_blk G5.out o
  refine region_class (C := Cls (Below w6.heap.size w6)) (by kernel_rfl) (by kernel_rfl) (by kernel_rfl) (Cls.mk (Below.refl _ _).drew) ?_
  repeat (go_big_quiet_step (first | with_reducible exact HSC.out _ _ _ _))
  refine wpQuiet_nil ?_
  intro w7 hcl
  have HB7 := hide (HB6.out.trans (hcl.out.mono HB6.out.size))
  clear hcl hx1 hx3 hx5 c3 c5 c l1 HSC he1 he2 hmx
  go_wp2_with fail
  go_ret
  exact ⟨rfl, HB7.out⟩
end Go.Proofs.YtbfojhneajedmaaGreatDoor
namespace Go.Proofs.YtbfojhneajedmaaGreatDoor
open Go.RowKit Go.KP Go.KI Go.Shelf
attribute [local go_sem] Oper.semAt_some

instance (a : S3) : Decidable (tiny3 a) := by unfold tiny3; infer_instance
theorem cls_ret {g : Nat} {args : Array Value} {v : Value} {B m : Nat} {w0 : World} (h : ∀ w, B ≤ w.heap.size → PQ B w → Calls Tryz.prog g args w (Ret w v)) (hT : PQ B w0) (hB : B ≤ m) (hm : m ≤ w0.heap.size) (x : Of (Below m w0)) :
    Calls Tryz.prog g args x.w fun e w' => e = .returned v ∧ Cls (Below m w0) w' :=
  (h x.w (by have := x.h.size; omega) (hT.on x.h hB)).mono fun _ _ ⟨h, hb⟩ => ⟨h, Cls.mk (x.h.trans (hb.mono (by have := x.h.size; omega)))⟩
set_option maxRecDepth 100000 in
set_option maxHeartbeats 4000000 in
theorem r28GreatSpot_any (a : S3) (w : World) : Calls Tryz.prog 17 #[s3V a] w (Ret w (.bool (decide (¬ tiny3 a)))) := by
  have X0 := hide (heap1 w (s3O a))
  by_cases h1 : a.x.size ≤ 30
  · by_cases h2 : a.y.size ≤ 30
    · by_cases h3 : a.z.size ≤ 30
      · rw [decide_eq_false (fun e => e ⟨h1, h2, h3⟩)]
        have g1 : ((30 : Int) < (a.x.size : Int)) = False := eq_false (by omega)
        have g2 : ((30 : Int) < (a.y.size : Int)) = False := eq_false (by omega)
        have g3 : ((30 : Int) < (a.z.size : Int)) = False := eq_false (by omega)
        clear h1 h2 h3
        go_enter Tryz.func17, Tryz.ntmps17
        go_wp2_with fail
        go_ret
        exact ⟨rfl, X0.out.2.2⟩
      · rw [decide_eq_true (show ¬ tiny3 a from fun e => h3 e.2.2)]
        have g1 : ((30 : Int) < (a.x.size : Int)) = False := eq_false (by omega)
        have g2 : ((30 : Int) < (a.y.size : Int)) = False := eq_false (by omega)
        have g3 : (30 : Int) < (a.z.size : Int) := by omega
        clear h1 h2 h3
        go_enter Tryz.func17, Tryz.ntmps17
        go_wp2_with fail
        go_ret
        exact ⟨rfl, X0.out.2.2⟩
    · rw [decide_eq_true (show ¬ tiny3 a from fun e => h2 e.2.1)]
      have g1 : ((30 : Int) < (a.x.size : Int)) = False := eq_false (by omega)
      have g2 : (30 : Int) < (a.y.size : Int) := by omega
      clear h1 h2
      go_enter Tryz.func17, Tryz.ntmps17
      go_wp2_with fail
      go_ret
      exact ⟨rfl, X0.out.2.2⟩
  · rw [decide_eq_true (show ¬ tiny3 a from fun e => h1 e.1)]
    have g1 : (30 : Int) < (a.x.size : Int) := by omega
    clear h1
    go_enter Tryz.func17, Tryz.ntmps17
    go_wp2_with fail
    go_ret
    exact ⟨rfl, X0.out.2.2⟩
set_option maxRecDepth 100000 in
set_option maxHeartbeats 8000000 in
theorem r28Great_one (k f o : Int) (a b : S3) (wd dp : Int) (p : Nat) (w : World) (hp : w.heap[p]? = some (memTO k f o a b wd dp)) :
    Calls Tryz.prog 16 #[.slice (some ⟨p, 0, none⟩) 1 1] w (Ret w (.bool (decide (¬ (tiny3 a ∧ tiny3 b))))) := by
  have H1 := hide (fun w => r28GreatSpot_any a w)
  have H2 := hide (fun w => r28GreatSpot_any b w)
  have G0 := hide hp
  clear hp
  by_cases h1 : tiny3 a
  · rw [decide_eq_false (fun e => e h1)] at H1
    by_cases h2 : tiny3 b
    · rw [decide_eq_false (fun e => e h2)] at H2
      rw [decide_eq_false (fun e => e ⟨h1, h2⟩)]
      clear h1 h2
      go_enter Tryz.func16, Tryz.ntmps16
      go_wp2_with fail
      refine wp_loop_rounds 3 ?_
      rw [rounds_succ]
      have c3 := cell_blk G0.out 3
      have c4 := cell_blk G0.out 4
      have c5 := cell_blk G0.out 5
      have cl := lt_blk G0.out
      go_wp2_with fail
      refine (H1.out _).mono ?_
      rintro e w1 ⟨rfl, hb1⟩
      have G1 := hide (below_blk hb1 G0.out (lt_blk G0.out))
      have HB1 := hide hb1
      clear hb1
      clear c3 c4 c5 cl
      have c6 := cell_blk G1.out 6
      have c7 := cell_blk G1.out 7
      have c8 := cell_blk G1.out 8
      have cl := lt_blk G1.out
      go_wp2_with fail
      refine (H2.out _).mono ?_
      rintro e w2 ⟨rfl, hb2⟩
      have G2 := hide (below_blk hb2 G1.out (lt_blk G1.out))
      have HB2 := hide (Below.trans HB1.out (hb2.mono HB1.out.size))
      clear hb2
      clear c6 c7 c8 cl
      go_wp2_with fail
      rw [rounds_succ]
      go_wp2_with fail
      go_ret
      exact ⟨rfl, HB2.out⟩
    · rw [decide_eq_true h2] at H2
      rw [decide_eq_true (show ¬ (tiny3 a ∧ tiny3 b) from fun e => h2 e.2)]
      clear h1 h2
      go_enter Tryz.func16, Tryz.ntmps16
      go_wp2_with fail
      refine wp_loop_rounds 3 ?_
      rw [rounds_succ]
      have c3 := cell_blk G0.out 3
      have c4 := cell_blk G0.out 4
      have c5 := cell_blk G0.out 5
      have cl := lt_blk G0.out
      go_wp2_with fail
      refine (H1.out _).mono ?_
      rintro e w1 ⟨rfl, hb1⟩
      have G1 := hide (below_blk hb1 G0.out (lt_blk G0.out))
      have HB1 := hide hb1
      clear hb1
      clear c3 c4 c5 cl
      have c6 := cell_blk G1.out 6
      have c7 := cell_blk G1.out 7
      have c8 := cell_blk G1.out 8
      have cl := lt_blk G1.out
      go_wp2_with fail
      refine (H2.out _).mono ?_
      rintro e w2 ⟨rfl, hb2⟩
      have G2 := hide (below_blk hb2 G1.out (lt_blk G1.out))
      have HB2 := hide (Below.trans HB1.out (hb2.mono HB1.out.size))
      clear hb2
      clear c6 c7 c8 cl
      go_wp2_with fail
      go_ret
      exact ⟨rfl, HB2.out⟩
  · rw [decide_eq_true h1] at H1
    rw [decide_eq_true (show ¬ (tiny3 a ∧ tiny3 b) from fun e => h1 e.1)]
    clear h1 H2
    go_enter Tryz.func16, Tryz.ntmps16
    go_wp2_with fail
    refine wp_loop_rounds 3 ?_
    rw [rounds_succ]
    have c3 := cell_blk G0.out 3
    have c4 := cell_blk G0.out 4
    have c5 := cell_blk G0.out 5
    have cl := lt_blk G0.out
    go_wp2_with fail
    refine (H1.out _).mono ?_
    rintro e w1 ⟨rfl, hb1⟩
    have G1 := hide (below_blk hb1 G0.out (lt_blk G0.out))
    have HB1 := hide hb1
    clear hb1
    go_wp2_with fail
    go_ret
    exact ⟨rfl, HB1.out⟩
/-- Both ways to ask of the direction answer alike. -/
theorem mem_answers (k f o : Int) (a b : S3) (wd dp : Int) (ha : tiny3 a) (hb : tiny3 b) (B : Nat) : ∃ (x y z : ByteArray) (e : Int) (x2 y2 z2 : ByteArray) (e2 : Int) (s : ByteArray) (e3 : Int),
    Hid (∀ w, B ≤ w.heap.size → PQ B w → Calls Tryz.prog 19 #[memTV k f o a b wd dp] w (Ret w (.tuple #[spotV x y z, .int .i64 e]))) ∧ Hid (∀ w, B ≤ w.heap.size → PQ B w → Calls Tryz.prog 20 #[memTV k f o a b wd dp] w (Ret w (.tuple #[spotV x y z, .int .i64 e]))) ∧ Hid (∀ w, B ≤ w.heap.size → PQ B w → Calls Tryz.prog 21 #[memTV k f o a b wd dp] w (Ret w (.tuple #[spotV x2 y2 z2, .int .i64 e2]))) ∧ Hid (∀ w, B ≤ w.heap.size → PQ B w → Calls Tryz.prog 22 #[memTV k f o a b wd dp] w (Ret w (.tuple #[spotV x2 y2 z2, .int .i64 e2]))) ∧ Hid (∀ w, B ≤ w.heap.size → PQ B w → Calls Tryz.prog 23 #[memTV k f o a b wd dp] w (Ret w (.tuple #[.string s, .int .i64 e3]))) ∧ Hid (∀ w, B ≤ w.heap.size → PQ B w → Calls Tryz.prog 24 #[memTV k f o a b wd dp] w (Ret w (.tuple #[.string s, .int .i64 e3]))) := by
  by_cases he : memE k f o a b wd dp = 0
  · rcases mem_ways k f o a b wd dp ha hb with ⟨_, e⟩ | ⟨_, _, _, e⟩ | ⟨_, _, _, _, _, e⟩ | ⟨h1, h2, h3, h4, h5, h6, h7, h8, h⟩
    · rw [he] at e; cases e
    · rw [he] at e; cases e
    · rw [he] at e; cases e
    · rcases h with ⟨c1, e⟩ | ⟨_, c2, e⟩ | ⟨c1, c2, A, C, sA, sC, rfl, rfl, e⟩
      · rw [he] at e; exact absurd e.symm c1
      · rw [he] at e; exact absurd e.symm c2
      · have hAC : A ≠ C := fun q => by rw [if_pos q, he] at e; cases e
        have hm : Mem k f o A C wd dp := ⟨by omega, by omega, by omega, by omega, by omega, by omega, by omega, by omega, szV_mono sA (by omega), szV_mono sC (by omega), hAC⟩
        exact ⟨_, _, _, _, _, _, _, _, _, _, hide (fun w hB hT => hDirection_to hm B w hB hT), hide (fun w hB hT => r28Direction_to hm sA sC ha hb B w hB hT), hide (fun w hB hT => hSide_to hm B w hB hT), hide (fun w hB hT => r28Side_to hm sA sC ha hb B w hB hT), hide (fun w hB hT => hRise_to hm B w hB hT), hide (fun w hB hT => r28Rise_to hm sA sC ha hb B w hB hT)⟩
  · exact ⟨_, _, _, _, _, _, _, _, _, _, hide (fun w hB hT => hDirection_bad k f o a b wd dp ha hb he B w hB hT), hide (fun w hB hT => r28Direction_bad k f o a b wd dp ha hb he B w hB hT), hide (fun w hB hT => hSide_bad k f o a b wd dp ha hb he B w hB hT), hide (fun w hB hT => r28Side_bad k f o a b wd dp ha hb he B w hB hT), hide (fun w hB hT => hRise_bad k f o a b wd dp ha hb he B w hB hT), hide (fun w hB hT => r28Rise_bad k f o a b wd dp ha hb he B w hB hT)⟩
theorem meets_answers (k f o : Int) (a b : S3) (wd dp : Int) (ha : tiny3 a) (hb : tiny3 b) (q : S3) (hq : tiny3 q) (B : Nat) : ∃ (r : Bool) (e : Int), Hid (∀ w, B ≤ w.heap.size → PQ B w → Calls Tryz.prog 25 #[memTV k f o a b wd dp, s3V q] w (Ret w (.tuple #[.bool r, .int .i64 e]))) ∧ Hid (∀ w, B ≤ w.heap.size → PQ B w → Calls Tryz.prog 26 #[memTV k f o a b wd dp, s3V q] w (Ret w (.tuple #[.bool r, .int .i64 e]))) := by
  by_cases he : memE k f o a b wd dp = 0
  · rcases mem_ways k f o a b wd dp ha hb with ⟨_, e⟩ | ⟨_, _, _, e⟩ | ⟨_, _, _, _, _, e⟩ | ⟨h1, h2, h3, h4, h5, h6, h7, h8, h⟩
    · rw [he] at e; cases e
    · rw [he] at e; cases e
    · rw [he] at e; cases e
    · rcases h with ⟨c1, e⟩ | ⟨_, c2, e⟩ | ⟨c1, c2, A, C, sA, sC, rfl, rfl, e⟩
      · rw [he] at e; exact absurd e.symm c1
      · rw [he] at e; exact absurd e.symm c2
      · have hAC : A ≠ C := fun q => by rw [if_pos q, he] at e; cases e
        have hm : Mem k f o A C wd dp := ⟨by omega, by omega, by omega, by omega, by omega, by omega, by omega, by omega, szV_mono sA (by omega), szV_mono sC (by omega), hAC⟩
        by_cases hqe : chkS q = 0
        · obtain ⟨Q, sQ, rfl⟩ := tiny_vec hq hqe
          exact ⟨_, _, hide (fun w hB hT => hMeets_to hm (szV_mono sQ (by omega)) rfl B w hB hT), hide (fun w hB hT => r28Meets_to hm sA sC ha hb sQ rfl B w hB hT)⟩
        · exact ⟨_, _, hide (fun w hB hT => hMeets_off k f o _ _ wd dp ha hb he q hq hqe B w hB hT), hide (fun w hB hT => r28Meets_off hm sA sC ha hb q hq hqe B w hB hT)⟩
  · exact ⟨_, _, hide (fun w hB hT => hMeets_bad k f o a b wd dp ha hb he q B w hB hT), hide (fun w hB hT => r28Meets_bad k f o a b wd dp ha hb he q B w hB hT)⟩
set_option maxRecDepth 100000 in
set_option maxHeartbeats 16000000 in
theorem lawMembers_any (k f o : Int) (a b : S3) (wd dp : Int) (q : S3) (B : Nat) (w : World) (hB : B ≤ w.heap.size) (hT : PQ B w) :
    Calls Tryz.prog 3 #[memTV k f o a b wd dp, s3V q] w (Ret w (.bool true)) := by
  have HT := hide hT
  have HAW := hide (fun w hB hT => hawake_any B w hB hT)
  have HG := hide (fun p w hp => r28Great_one k f o a b wd dp p w hp)
  have HQ := hide (fun w => r28GreatSpot_any q w)
  have X0 := hide (heap3 w (memTO k f o a b wd dp) (s3O q) (memTO k f o a b wd dp))
  clear hT
  by_cases ht : tiny3 a ∧ tiny3 b
  rotate_left
  · rw [decide_eq_true ht] at HG
    clear ht
    go_enter Tryz.func3, Tryz.ntmps3
    go_wp2_with fail
    refine (HG.out _ _ X0.out.2.2.1).mono ?_
    rintro e w1 ⟨rfl, hb1⟩
    have G0 := hide (below_blk hb1 (X0.out.2.1) (lt_blk (X0.out.2.1)))
    have HB1 := hide (Below.trans (X0.out.2.2.2.2) (hb1.mono (X0.out.2.2.2.2).size))
    clear hb1
    have q0_0 := cell_blk G0.out 0
    have q0_1 := cell_blk G0.out 1
    have q0_2 := cell_blk G0.out 2
    have q0_l := lt_blk G0.out
    go_wp2_with fail
    refine (HAW.out _ (Nat.le_trans hB HB1.out.size) (HT.out.on HB1.out hB)).mono ?_
    rintro e w2 ⟨rfl, hb2⟩
    clear q0_0 q0_1 q0_2 q0_l
    have G0 := hide (below_blk hb2 G0.out (lt_blk G0.out))
    have HB2 := hide (Below.trans (HB1.out) (hb2.mono (HB1.out).size))
    clear hb2
    have q0_0 := cell_blk G0.out 0
    have q0_1 := cell_blk G0.out 1
    have q0_2 := cell_blk G0.out 2
    have q0_l := lt_blk G0.out
    go_wp2_with fail
    go_ret
    exact ⟨rfl, HB2.out⟩
  rw [decide_eq_false (fun e => e ht)] at HG
  by_cases hq : tiny3 q
  rotate_left
  · rw [decide_eq_true hq] at HQ
    clear ht hq
    go_enter Tryz.func3, Tryz.ntmps3
    go_wp2_with fail
    refine (HG.out _ _ X0.out.2.2.1).mono ?_
    rintro e w1 ⟨rfl, hb1⟩
    have G0 := hide (below_blk hb1 (X0.out.2.1) (lt_blk (X0.out.2.1)))
    have HB1 := hide (Below.trans (X0.out.2.2.2.2) (hb1.mono (X0.out.2.2.2.2).size))
    clear hb1
    have q0_0 := cell_blk G0.out 0
    have q0_1 := cell_blk G0.out 1
    have q0_2 := cell_blk G0.out 2
    have q0_l := lt_blk G0.out
    go_wp2_with fail
    refine (HQ.out _).mono ?_
    rintro e w2 ⟨rfl, hb2⟩
    clear q0_0 q0_1 q0_2 q0_l
    have G0 := hide (below_blk hb2 G0.out (lt_blk G0.out))
    have HB2 := hide (Below.trans (HB1.out) (hb2.mono (HB1.out).size))
    clear hb2
    have q0_0 := cell_blk G0.out 0
    have q0_1 := cell_blk G0.out 1
    have q0_2 := cell_blk G0.out 2
    have q0_l := lt_blk G0.out
    go_wp2_with fail
    refine (HAW.out _ (Nat.le_trans hB HB2.out.size) (HT.out.on HB2.out hB)).mono ?_
    rintro e w3 ⟨rfl, hb3⟩
    clear q0_0 q0_1 q0_2 q0_l
    have G0 := hide (below_blk hb3 G0.out (lt_blk G0.out))
    have HB3 := hide (Below.trans (HB2.out) (hb3.mono (HB2.out).size))
    clear hb3
    have q0_0 := cell_blk G0.out 0
    have q0_1 := cell_blk G0.out 1
    have q0_2 := cell_blk G0.out 2
    have q0_l := lt_blk G0.out
    go_wp2_with fail
    go_ret
    exact ⟨rfl, HB3.out⟩
  rw [decide_eq_false (fun e => e hq)] at HQ
  obtain ⟨x, y, z, d1, x2, y2, z2, d2, s, d3, HD1, HD2, HS1, HS2, HR1, HR2⟩ := mem_answers k f o a b wd dp ht.1 ht.2 B
  obtain ⟨r, d4, HM1, HM2⟩ := meets_answers k f o a b wd dp ht.1 ht.2 q hq B
  have HC1 := hide (fun w hB hT => hCheck_any k f o a b wd dp ht.1 ht.2 B w hB hT)
  have HC2 := hide (fun w hB hT => r28Check_any k f o a b wd dp ht.1 ht.2 B w hB hT)
  obtain ⟨E, hE⟩ : ∃ E, E = memE k f o a b wd dp := ⟨_, rfl⟩
  rw [← hE] at HC1 HC2
  clear ht hq hE
  go_enter Tryz.func3, Tryz.ntmps3
  go_wp2_with fail
  refine (HG.out _ _ X0.out.2.2.1).mono ?_
  rintro e w1 ⟨rfl, hb1⟩
  have G0 := hide (below_blk hb1 (X0.out.1) (lt_blk (X0.out.1)))
  have G1 := hide (below_blk hb1 (X0.out.2.1) (lt_blk (X0.out.2.1)))
  have HB1 := hide (Below.trans (X0.out.2.2.2.2) (hb1.mono (X0.out.2.2.2.2).size))
  clear hb1
  have q0_0 := cell_blk G0.out 0
  have q0_1 := cell_blk G0.out 1
  have q0_2 := cell_blk G0.out 2
  have q0_3 := cell_blk G0.out 3
  have q0_4 := cell_blk G0.out 4
  have q0_5 := cell_blk G0.out 5
  have q0_6 := cell_blk G0.out 6
  have q0_7 := cell_blk G0.out 7
  have q0_8 := cell_blk G0.out 8
  have q0_9 := cell_blk G0.out 9
  have q0_10 := cell_blk G0.out 10
  have q0_l := lt_blk G0.out
  have q1_0 := cell_blk G1.out 0
  have q1_1 := cell_blk G1.out 1
  have q1_2 := cell_blk G1.out 2
  have q1_l := lt_blk G1.out
  go_wp2_with fail
  refine (HQ.out _).mono ?_
  rintro e w2 ⟨rfl, hb2⟩
  clear q0_0 q0_1 q0_2 q0_3 q0_4 q0_5 q0_6 q0_7 q0_8 q0_9 q0_10 q1_0 q1_1 q1_2 q0_l q1_l
  have G0 := hide (below_blk hb2 G0.out (lt_blk G0.out))
  have G1 := hide (below_blk hb2 G1.out (lt_blk G1.out))
  have HB2 := hide (Below.trans (HB1.out) (hb2.mono (HB1.out).size))
  clear hb2
  have q0_0 := cell_blk G0.out 0
  have q0_1 := cell_blk G0.out 1
  have q0_2 := cell_blk G0.out 2
  have q0_3 := cell_blk G0.out 3
  have q0_4 := cell_blk G0.out 4
  have q0_5 := cell_blk G0.out 5
  have q0_6 := cell_blk G0.out 6
  have q0_7 := cell_blk G0.out 7
  have q0_8 := cell_blk G0.out 8
  have q0_9 := cell_blk G0.out 9
  have q0_10 := cell_blk G0.out 10
  have q0_l := lt_blk G0.out
  have q1_0 := cell_blk G1.out 0
  have q1_1 := cell_blk G1.out 1
  have q1_2 := cell_blk G1.out 2
  have q1_l := lt_blk G1.out
  go_wp2_with fail
  refine (HD1.out _ (Nat.le_trans hB HB2.out.size) (HT.out.on HB2.out hB)).mono ?_
  rintro e w3 ⟨rfl, hb3⟩
  clear q0_0 q0_1 q0_2 q0_3 q0_4 q0_5 q0_6 q0_7 q0_8 q0_9 q0_10 q1_0 q1_1 q1_2 q0_l q1_l
  have X := hide (heap1 w3 (spotO x y z))
  have hb3 := hb3.trans (X.out.2.2.mono hb3.size)
  have G0 := hide (below_blk hb3 G0.out (lt_blk G0.out))
  have G1 := hide (below_blk hb3 G1.out (lt_blk G1.out))
  have G2 := hide X.out.1
  have HB3 := hide (Below.trans (HB2.out) (hb3.mono (HB2.out).size))
  clear hb3 X
  have q0_0 := cell_blk G0.out 0
  have q0_1 := cell_blk G0.out 1
  have q0_2 := cell_blk G0.out 2
  have q0_3 := cell_blk G0.out 3
  have q0_4 := cell_blk G0.out 4
  have q0_5 := cell_blk G0.out 5
  have q0_6 := cell_blk G0.out 6
  have q0_7 := cell_blk G0.out 7
  have q0_8 := cell_blk G0.out 8
  have q0_9 := cell_blk G0.out 9
  have q0_10 := cell_blk G0.out 10
  have q0_l := lt_blk G0.out
  have q1_0 := cell_blk G1.out 0
  have q1_1 := cell_blk G1.out 1
  have q1_2 := cell_blk G1.out 2
  have q1_l := lt_blk G1.out
  have q2_0 := cell_blk G2.out 0
  have q2_1 := cell_blk G2.out 1
  have q2_2 := cell_blk G2.out 2
  have q2_l := lt_blk G2.out
  go_wp2_with fail
  refine (HD2.out _ (Nat.le_trans hB HB3.out.size) (HT.out.on HB3.out hB)).mono ?_
  rintro e w4 ⟨rfl, hb4⟩
  clear q0_0 q0_1 q0_2 q0_3 q0_4 q0_5 q0_6 q0_7 q0_8 q0_9 q0_10 q1_0 q1_1 q1_2 q2_0 q2_1 q2_2 q0_l q1_l q2_l
  have X := hide (heap1 w4 (spotO x y z))
  have hb4 := hb4.trans (X.out.2.2.mono hb4.size)
  have G0 := hide (below_blk hb4 G0.out (lt_blk G0.out))
  have G1 := hide (below_blk hb4 G1.out (lt_blk G1.out))
  have G2 := hide (below_blk hb4 G2.out (lt_blk G2.out))
  have G3 := hide X.out.1
  have HB4 := hide (Below.trans (HB3.out) (hb4.mono (HB3.out).size))
  clear hb4 X
  have q0_0 := cell_blk G0.out 0
  have q0_1 := cell_blk G0.out 1
  have q0_2 := cell_blk G0.out 2
  have q0_3 := cell_blk G0.out 3
  have q0_4 := cell_blk G0.out 4
  have q0_5 := cell_blk G0.out 5
  have q0_6 := cell_blk G0.out 6
  have q0_7 := cell_blk G0.out 7
  have q0_8 := cell_blk G0.out 8
  have q0_9 := cell_blk G0.out 9
  have q0_10 := cell_blk G0.out 10
  have q0_l := lt_blk G0.out
  have q1_0 := cell_blk G1.out 0
  have q1_1 := cell_blk G1.out 1
  have q1_2 := cell_blk G1.out 2
  have q1_l := lt_blk G1.out
  have q2_0 := cell_blk G2.out 0
  have q2_1 := cell_blk G2.out 1
  have q2_2 := cell_blk G2.out 2
  have q2_l := lt_blk G2.out
  have q3_0 := cell_blk G3.out 0
  have q3_1 := cell_blk G3.out 1
  have q3_2 := cell_blk G3.out 2
  have q3_l := lt_blk G3.out
  go_wp2_with fail
  refine (HS1.out _ (Nat.le_trans hB HB4.out.size) (HT.out.on HB4.out hB)).mono ?_
  rintro e w5 ⟨rfl, hb5⟩
  clear q0_0 q0_1 q0_2 q0_3 q0_4 q0_5 q0_6 q0_7 q0_8 q0_9 q0_10 q1_0 q1_1 q1_2 q2_0 q2_1 q2_2 q3_0 q3_1 q3_2 q0_l q1_l q2_l q3_l
  have X := hide (heap1 w5 (spotO x2 y2 z2))
  have hb5 := hb5.trans (X.out.2.2.mono hb5.size)
  have G0 := hide (below_blk hb5 G0.out (lt_blk G0.out))
  have G1 := hide (below_blk hb5 G1.out (lt_blk G1.out))
  have G2 := hide (below_blk hb5 G2.out (lt_blk G2.out))
  have G3 := hide (below_blk hb5 G3.out (lt_blk G3.out))
  have G4 := hide X.out.1
  have HB5 := hide (Below.trans (HB4.out) (hb5.mono (HB4.out).size))
  clear hb5 X
  have q0_0 := cell_blk G0.out 0
  have q0_1 := cell_blk G0.out 1
  have q0_2 := cell_blk G0.out 2
  have q0_3 := cell_blk G0.out 3
  have q0_4 := cell_blk G0.out 4
  have q0_5 := cell_blk G0.out 5
  have q0_6 := cell_blk G0.out 6
  have q0_7 := cell_blk G0.out 7
  have q0_8 := cell_blk G0.out 8
  have q0_9 := cell_blk G0.out 9
  have q0_10 := cell_blk G0.out 10
  have q0_l := lt_blk G0.out
  have q1_0 := cell_blk G1.out 0
  have q1_1 := cell_blk G1.out 1
  have q1_2 := cell_blk G1.out 2
  have q1_l := lt_blk G1.out
  have q2_0 := cell_blk G2.out 0
  have q2_1 := cell_blk G2.out 1
  have q2_2 := cell_blk G2.out 2
  have q2_l := lt_blk G2.out
  have q3_0 := cell_blk G3.out 0
  have q3_1 := cell_blk G3.out 1
  have q3_2 := cell_blk G3.out 2
  have q3_l := lt_blk G3.out
  have q4_0 := cell_blk G4.out 0
  have q4_1 := cell_blk G4.out 1
  have q4_2 := cell_blk G4.out 2
  have q4_l := lt_blk G4.out
  go_wp2_with fail
  refine (HS2.out _ (Nat.le_trans hB HB5.out.size) (HT.out.on HB5.out hB)).mono ?_
  rintro e w6 ⟨rfl, hb6⟩
  clear q0_0 q0_1 q0_2 q0_3 q0_4 q0_5 q0_6 q0_7 q0_8 q0_9 q0_10 q1_0 q1_1 q1_2 q2_0 q2_1 q2_2 q3_0 q3_1 q3_2 q4_0 q4_1 q4_2 q0_l q1_l q2_l q3_l q4_l
  have X := hide (heap1 w6 (spotO x2 y2 z2))
  have hb6 := hb6.trans (X.out.2.2.mono hb6.size)
  have G0 := hide (below_blk hb6 G0.out (lt_blk G0.out))
  have G1 := hide (below_blk hb6 G1.out (lt_blk G1.out))
  have G2 := hide (below_blk hb6 G2.out (lt_blk G2.out))
  have G3 := hide (below_blk hb6 G3.out (lt_blk G3.out))
  have G4 := hide (below_blk hb6 G4.out (lt_blk G4.out))
  have G5 := hide X.out.1
  have HB6 := hide (Below.trans (HB5.out) (hb6.mono (HB5.out).size))
  clear hb6 X
  have q0_0 := cell_blk G0.out 0
  have q0_1 := cell_blk G0.out 1
  have q0_2 := cell_blk G0.out 2
  have q0_3 := cell_blk G0.out 3
  have q0_4 := cell_blk G0.out 4
  have q0_5 := cell_blk G0.out 5
  have q0_6 := cell_blk G0.out 6
  have q0_7 := cell_blk G0.out 7
  have q0_8 := cell_blk G0.out 8
  have q0_9 := cell_blk G0.out 9
  have q0_10 := cell_blk G0.out 10
  have q0_l := lt_blk G0.out
  have q1_0 := cell_blk G1.out 0
  have q1_1 := cell_blk G1.out 1
  have q1_2 := cell_blk G1.out 2
  have q1_l := lt_blk G1.out
  have q2_0 := cell_blk G2.out 0
  have q2_1 := cell_blk G2.out 1
  have q2_2 := cell_blk G2.out 2
  have q2_l := lt_blk G2.out
  have q3_0 := cell_blk G3.out 0
  have q3_1 := cell_blk G3.out 1
  have q3_2 := cell_blk G3.out 2
  have q3_l := lt_blk G3.out
  have q4_0 := cell_blk G4.out 0
  have q4_1 := cell_blk G4.out 1
  have q4_2 := cell_blk G4.out 2
  have q4_l := lt_blk G4.out
  have q5_0 := cell_blk G5.out 0
  have q5_1 := cell_blk G5.out 1
  have q5_2 := cell_blk G5.out 2
  have q5_l := lt_blk G5.out
  go_wp2_with fail
  refine (HR1.out _ (Nat.le_trans hB HB6.out.size) (HT.out.on HB6.out hB)).mono ?_
  rintro e w7 ⟨rfl, hb7⟩
  clear q0_0 q0_1 q0_2 q0_3 q0_4 q0_5 q0_6 q0_7 q0_8 q0_9 q0_10 q1_0 q1_1 q1_2 q2_0 q2_1 q2_2 q3_0 q3_1 q3_2 q4_0 q4_1 q4_2 q5_0 q5_1 q5_2 q0_l q1_l q2_l q3_l q4_l q5_l
  have G0 := hide (below_blk hb7 G0.out (lt_blk G0.out))
  have G1 := hide (below_blk hb7 G1.out (lt_blk G1.out))
  have G2 := hide (below_blk hb7 G2.out (lt_blk G2.out))
  have G3 := hide (below_blk hb7 G3.out (lt_blk G3.out))
  have G4 := hide (below_blk hb7 G4.out (lt_blk G4.out))
  have G5 := hide (below_blk hb7 G5.out (lt_blk G5.out))
  have HB7 := hide (Below.trans (HB6.out) (hb7.mono (HB6.out).size))
  clear hb7
  have q0_0 := cell_blk G0.out 0
  have q0_1 := cell_blk G0.out 1
  have q0_2 := cell_blk G0.out 2
  have q0_3 := cell_blk G0.out 3
  have q0_4 := cell_blk G0.out 4
  have q0_5 := cell_blk G0.out 5
  have q0_6 := cell_blk G0.out 6
  have q0_7 := cell_blk G0.out 7
  have q0_8 := cell_blk G0.out 8
  have q0_9 := cell_blk G0.out 9
  have q0_10 := cell_blk G0.out 10
  have q0_l := lt_blk G0.out
  have q1_0 := cell_blk G1.out 0
  have q1_1 := cell_blk G1.out 1
  have q1_2 := cell_blk G1.out 2
  have q1_l := lt_blk G1.out
  have q2_0 := cell_blk G2.out 0
  have q2_1 := cell_blk G2.out 1
  have q2_2 := cell_blk G2.out 2
  have q2_l := lt_blk G2.out
  have q3_0 := cell_blk G3.out 0
  have q3_1 := cell_blk G3.out 1
  have q3_2 := cell_blk G3.out 2
  have q3_l := lt_blk G3.out
  have q4_0 := cell_blk G4.out 0
  have q4_1 := cell_blk G4.out 1
  have q4_2 := cell_blk G4.out 2
  have q4_l := lt_blk G4.out
  have q5_0 := cell_blk G5.out 0
  have q5_1 := cell_blk G5.out 1
  have q5_2 := cell_blk G5.out 2
  have q5_l := lt_blk G5.out
  go_wp2_with fail
  refine (HR2.out _ (Nat.le_trans hB HB7.out.size) (HT.out.on HB7.out hB)).mono ?_
  rintro e w8 ⟨rfl, hb8⟩
  clear q0_0 q0_1 q0_2 q0_3 q0_4 q0_5 q0_6 q0_7 q0_8 q0_9 q0_10 q1_0 q1_1 q1_2 q2_0 q2_1 q2_2 q3_0 q3_1 q3_2 q4_0 q4_1 q4_2 q5_0 q5_1 q5_2 q0_l q1_l q2_l q3_l q4_l q5_l
  have G0 := hide (below_blk hb8 G0.out (lt_blk G0.out))
  have G1 := hide (below_blk hb8 G1.out (lt_blk G1.out))
  have G2 := hide (below_blk hb8 G2.out (lt_blk G2.out))
  have G3 := hide (below_blk hb8 G3.out (lt_blk G3.out))
  have G4 := hide (below_blk hb8 G4.out (lt_blk G4.out))
  have G5 := hide (below_blk hb8 G5.out (lt_blk G5.out))
  have HB8 := hide (Below.trans (HB7.out) (hb8.mono (HB7.out).size))
  clear hb8
  have q0_0 := cell_blk G0.out 0
  have q0_1 := cell_blk G0.out 1
  have q0_2 := cell_blk G0.out 2
  have q0_3 := cell_blk G0.out 3
  have q0_4 := cell_blk G0.out 4
  have q0_5 := cell_blk G0.out 5
  have q0_6 := cell_blk G0.out 6
  have q0_7 := cell_blk G0.out 7
  have q0_8 := cell_blk G0.out 8
  have q0_9 := cell_blk G0.out 9
  have q0_10 := cell_blk G0.out 10
  have q0_l := lt_blk G0.out
  have q1_0 := cell_blk G1.out 0
  have q1_1 := cell_blk G1.out 1
  have q1_2 := cell_blk G1.out 2
  have q1_l := lt_blk G1.out
  have q2_0 := cell_blk G2.out 0
  have q2_1 := cell_blk G2.out 1
  have q2_2 := cell_blk G2.out 2
  have q2_l := lt_blk G2.out
  have q3_0 := cell_blk G3.out 0
  have q3_1 := cell_blk G3.out 1
  have q3_2 := cell_blk G3.out 2
  have q3_l := lt_blk G3.out
  have q4_0 := cell_blk G4.out 0
  have q4_1 := cell_blk G4.out 1
  have q4_2 := cell_blk G4.out 2
  have q4_l := lt_blk G4.out
  have q5_0 := cell_blk G5.out 0
  have q5_1 := cell_blk G5.out 1
  have q5_2 := cell_blk G5.out 2
  have q5_l := lt_blk G5.out
  go_wp2_with fail
  refine (HM1.out _ (Nat.le_trans hB HB8.out.size) (HT.out.on HB8.out hB)).mono ?_
  rintro e w9 ⟨rfl, hb9⟩
  clear q0_0 q0_1 q0_2 q0_3 q0_4 q0_5 q0_6 q0_7 q0_8 q0_9 q0_10 q1_0 q1_1 q1_2 q2_0 q2_1 q2_2 q3_0 q3_1 q3_2 q4_0 q4_1 q4_2 q5_0 q5_1 q5_2 q0_l q1_l q2_l q3_l q4_l q5_l
  have G0 := hide (below_blk hb9 G0.out (lt_blk G0.out))
  have G1 := hide (below_blk hb9 G1.out (lt_blk G1.out))
  have G2 := hide (below_blk hb9 G2.out (lt_blk G2.out))
  have G3 := hide (below_blk hb9 G3.out (lt_blk G3.out))
  have G4 := hide (below_blk hb9 G4.out (lt_blk G4.out))
  have G5 := hide (below_blk hb9 G5.out (lt_blk G5.out))
  have HB9 := hide (Below.trans (HB8.out) (hb9.mono (HB8.out).size))
  clear hb9
  have q0_0 := cell_blk G0.out 0
  have q0_1 := cell_blk G0.out 1
  have q0_2 := cell_blk G0.out 2
  have q0_3 := cell_blk G0.out 3
  have q0_4 := cell_blk G0.out 4
  have q0_5 := cell_blk G0.out 5
  have q0_6 := cell_blk G0.out 6
  have q0_7 := cell_blk G0.out 7
  have q0_8 := cell_blk G0.out 8
  have q0_9 := cell_blk G0.out 9
  have q0_10 := cell_blk G0.out 10
  have q0_l := lt_blk G0.out
  have q1_0 := cell_blk G1.out 0
  have q1_1 := cell_blk G1.out 1
  have q1_2 := cell_blk G1.out 2
  have q1_l := lt_blk G1.out
  have q2_0 := cell_blk G2.out 0
  have q2_1 := cell_blk G2.out 1
  have q2_2 := cell_blk G2.out 2
  have q2_l := lt_blk G2.out
  have q3_0 := cell_blk G3.out 0
  have q3_1 := cell_blk G3.out 1
  have q3_2 := cell_blk G3.out 2
  have q3_l := lt_blk G3.out
  have q4_0 := cell_blk G4.out 0
  have q4_1 := cell_blk G4.out 1
  have q4_2 := cell_blk G4.out 2
  have q4_l := lt_blk G4.out
  have q5_0 := cell_blk G5.out 0
  have q5_1 := cell_blk G5.out 1
  have q5_2 := cell_blk G5.out 2
  have q5_l := lt_blk G5.out
  go_wp2_with fail
  refine (HM2.out _ (Nat.le_trans hB HB9.out.size) (HT.out.on HB9.out hB)).mono ?_
  rintro e w10 ⟨rfl, hb10⟩
  clear q0_0 q0_1 q0_2 q0_3 q0_4 q0_5 q0_6 q0_7 q0_8 q0_9 q0_10 q1_0 q1_1 q1_2 q2_0 q2_1 q2_2 q3_0 q3_1 q3_2 q4_0 q4_1 q4_2 q5_0 q5_1 q5_2 q0_l q1_l q2_l q3_l q4_l q5_l
  have G0 := hide (below_blk hb10 G0.out (lt_blk G0.out))
  have G1 := hide (below_blk hb10 G1.out (lt_blk G1.out))
  have G2 := hide (below_blk hb10 G2.out (lt_blk G2.out))
  have G3 := hide (below_blk hb10 G3.out (lt_blk G3.out))
  have G4 := hide (below_blk hb10 G4.out (lt_blk G4.out))
  have G5 := hide (below_blk hb10 G5.out (lt_blk G5.out))
  have HB10 := hide (Below.trans (HB9.out) (hb10.mono (HB9.out).size))
  clear hb10
  have q0_0 := cell_blk G0.out 0
  have q0_1 := cell_blk G0.out 1
  have q0_2 := cell_blk G0.out 2
  have q0_3 := cell_blk G0.out 3
  have q0_4 := cell_blk G0.out 4
  have q0_5 := cell_blk G0.out 5
  have q0_6 := cell_blk G0.out 6
  have q0_7 := cell_blk G0.out 7
  have q0_8 := cell_blk G0.out 8
  have q0_9 := cell_blk G0.out 9
  have q0_10 := cell_blk G0.out 10
  have q0_l := lt_blk G0.out
  have q1_0 := cell_blk G1.out 0
  have q1_1 := cell_blk G1.out 1
  have q1_2 := cell_blk G1.out 2
  have q1_l := lt_blk G1.out
  have q2_0 := cell_blk G2.out 0
  have q2_1 := cell_blk G2.out 1
  have q2_2 := cell_blk G2.out 2
  have q2_l := lt_blk G2.out
  have q3_0 := cell_blk G3.out 0
  have q3_1 := cell_blk G3.out 1
  have q3_2 := cell_blk G3.out 2
  have q3_l := lt_blk G3.out
  have q4_0 := cell_blk G4.out 0
  have q4_1 := cell_blk G4.out 1
  have q4_2 := cell_blk G4.out 2
  have q4_l := lt_blk G4.out
  have q5_0 := cell_blk G5.out 0
  have q5_1 := cell_blk G5.out 1
  have q5_2 := cell_blk G5.out 2
  have q5_l := lt_blk G5.out
  clear q0_0 q0_1 q0_2 q0_3 q0_4 q0_5 q0_6 q0_7 q0_8 q0_9 q0_10 q1_0 q1_1 q1_2 q2_0 q2_1 q2_2 q3_0 q3_1 q3_2 q4_0 q4_1 q4_2 q5_0 q5_1 q5_2 q0_l q1_l q2_l q3_l q4_l q5_l
  have hTn := HT.out.on HB10.out hB
  have hBn := Nat.le_trans hB HB10.out.size
  have K1 := hide (fun x => cls_ret (m := w10.heap.size) (w0 := w10) HC1.out hTn hBn (Nat.le_refl _) x)
  have K2 := hide (fun x => cls_ret (m := w10.heap.size) (w0 := w10) HC2.out hTn hBn (Nat.le_refl _) x)
  have K3 := hide (fun x => cls_ret (m := w10.heap.size) (w0 := w10) HAW.out hTn hBn (Nat.le_refl _) x)
  clear hTn hBn
  have fx0 : ∀ x : Of (Below w10.heap.size w10), ∀ o, x.w.cell? ⟨w.heap.size, o, none⟩ = w10.cell? ⟨w.heap.size, o, none⟩ := fun x o => x.h.cell (p := ⟨w.heap.size, o, none⟩) (lt_blk G0.out)
  have c0 := fun o => cell_blk G0.out o
  have fx2 : ∀ x : Of (Below w10.heap.size w10), ∀ o, x.w.cell? ⟨w3.heap.size, o, none⟩ = w10.cell? ⟨w3.heap.size, o, none⟩ := fun x o => x.h.cell (p := ⟨w3.heap.size, o, none⟩) (lt_blk G2.out)
  have c2 := fun o => cell_blk G2.out o
  have fx3 : ∀ x : Of (Below w10.heap.size w10), ∀ o, x.w.cell? ⟨w4.heap.size, o, none⟩ = w10.cell? ⟨w4.heap.size, o, none⟩ := fun x o => x.h.cell (p := ⟨w4.heap.size, o, none⟩) (lt_blk G3.out)
  have c3 := fun o => cell_blk G3.out o
  have fx4 : ∀ x : Of (Below w10.heap.size w10), ∀ o, x.w.cell? ⟨w5.heap.size, o, none⟩ = w10.cell? ⟨w5.heap.size, o, none⟩ := fun x o => x.h.cell (p := ⟨w5.heap.size, o, none⟩) (lt_blk G4.out)
  have c4 := fun o => cell_blk G4.out o
  have fx5 : ∀ x : Of (Below w10.heap.size w10), ∀ o, x.w.cell? ⟨w6.heap.size, o, none⟩ = w10.cell? ⟨w6.heap.size, o, none⟩ := fun x o => x.h.cell (p := ⟨w6.heap.size, o, none⟩) (lt_blk G5.out)
  have c5 := fun o => cell_blk G5.out o
  have h1 : ∀ w, (Op.equalIn 10000 24 (spotV x y z) (spotV x y z)).run Tryz.prog w = .ok true w := fun w => by rw [eqSpot]; simp
  have h2 : ∀ w, (Op.equalIn 10000 24 (spotV x2 y2 z2) (spotV x2 y2 z2)).run Tryz.prog w = .ok true w := fun w => by rw [eqSpot]; simp
  go_wp2_with fail
  refine region_class (C := Cls (Below w10.heap.size w10)) (by kernel_rfl) (by kernel_rfl) (by kernel_rfl) (Cls.mk (Below.refl _ _).drew) ?_
  repeat (go_big_quiet_step (first | with_reducible exact K1.out _ | with_reducible exact K2.out _ | with_reducible exact K3.out _))
  refine wpQuiet_nil ?_
  intro w11 hcl
  have HB11 := hide (HB10.out.trans (hcl.out.mono HB10.out.size))
  clear hcl fx0 fx2 fx3 fx4 fx5 c0 c2 c3 c4 c5 h1 h2 K1 K2 K3
  go_wp2_with fail
  go_ret
  exact ⟨rfl, HB11.out⟩
end Go.Proofs.YtbfojhneajedmaaGreatDoor
namespace Go.Proofs.YtbfojhneajedmaaGreatDoor
open Go.ChangeShapes Go.WideShapes Go.RowKit Go.KP Go.KI

set_option maxRecDepth 100000 in
theorem cell_txt {W : World} {base : Nat} {v : Value} (h : Cell.okWide Tryz.prog W .any base 22 v) : ∃ s : ByteArray, v = .string s := by
  have u := Tryz.underlying22
  simp only [Cell.okWide, u, Cell.ok] at h
  cases v <;> simp_all
set_option maxRecDepth 100000 in
theorem cell_i64 {W : World} {base : Nat} {v : Value} (h : Cell.okWide Tryz.prog W .any base 3 v) : ∃ n : Int, v = .int .i64 n := by
  have u := Tryz.underlying3
  simp only [Cell.okWide, u, Cell.ok] at h
  cases v <;> simp_all
set_option maxRecDepth 100000 in
theorem open_vec {W : World} {base : Nat} {v : Value} (h : Value.okWide Tryz.prog W .any base 24 v) : ∃ a : S3, v = .agg #[.string a.x, .string a.y, .string a.z] := by
  have u := Tryz.underlying24
  simp only [Value.okWide, u] at h
  obtain ⟨cs, rfl, hsz, ts, hts, _, hi⟩ := h
  have hts2 : Tryz.prog.cellTypes Tryz.prog.depth 24 = some [22, 22, 22] := by kernel_rfl
  rw [hts2] at hts
  obtain rfl := Option.some.inj hts
  have hC : Tryz.prog.cellsOf 24 = 3 := by kernel_rfl
  rw [hC] at hsz
  obtain ⟨l⟩ := cs
  match l, hsz with
  | [c0, c1, c2], _ =>
    have key : ∀ (i : Nat) (v : Value), i < 3 → (#[c0, c1, c2] : Array Value)[i]? = some v → ∃ s : ByteArray, v = .string s := by
      intro i v hlt hv
      obtain ⟨t, ht, hc⟩ := hi i v hv
      have e : t = 22 := by
        rw [show i % [22, 22, 22].length = i from Nat.mod_eq_of_lt hlt] at ht
        have : i = 0 ∨ i = 1 ∨ i = 2 := by omega
        rcases this with rfl | rfl | rfl <;> simpa using ht.symm
      rw [e] at hc
      exact cell_txt hc
    obtain ⟨n0, rfl⟩ := key 0 _ (by omega) rfl
    obtain ⟨n1, rfl⟩ := key 1 _ (by omega) rfl
    obtain ⟨n2, rfl⟩ := key 2 _ (by omega) rfl
    exact ⟨⟨n0, n1, n2⟩, rfl⟩
set_option maxRecDepth 100000 in
set_option maxHeartbeats 1000000 in
theorem open_mem {W : World} {base : Nat} {v : Value} (h : Value.okWide Tryz.prog W .any base 26 v) : ∃ (k f o : Int) (a b : S3) (wd dp : Int), v = .agg #[.int .i64 k, .int .i64 f, .int .i64 o, .string a.x, .string a.y, .string a.z, .string b.x, .string b.y, .string b.z, .int .i64 wd, .int .i64 dp] := by
  have u := Tryz.underlying26
  simp only [Value.okWide, u] at h
  obtain ⟨cs, rfl, hsz, ts, hts, _, hi⟩ := h
  have hts2 : Tryz.prog.cellTypes Tryz.prog.depth 26 = some [3, 3, 3, 22, 22, 22, 22, 22, 22, 3, 3] := by kernel_rfl
  rw [hts2] at hts
  obtain rfl := Option.some.inj hts
  have hC : Tryz.prog.cellsOf 26 = 11 := by kernel_rfl
  rw [hC] at hsz
  obtain ⟨l⟩ := cs
  match l, hsz with
  | [c0, c1, c2, c3, c4, c5, c6, c7, c8, c9, c10], _ =>
    have keyN : ∀ (i : Nat) (v : Value), (3 ≤ i ∧ i < 9) → (#[c0, c1, c2, c3, c4, c5, c6, c7, c8, c9, c10] : Array Value)[i]? = some v → ∃ s : ByteArray, v = .string s := by
      intro i v hlt hv
      obtain ⟨t, ht, hc⟩ := hi i v hv
      have e : t = 22 := by
        rw [show i % [3, 3, 3, 22, 22, 22, 22, 22, 22, 3, 3].length = i from Nat.mod_eq_of_lt (show i < 11 by omega)] at ht
        have : i = 3 ∨ i = 4 ∨ i = 5 ∨ i = 6 ∨ i = 7 ∨ i = 8 := by omega
        rcases this with rfl | rfl | rfl | rfl | rfl | rfl <;> simpa using ht.symm
      rw [e] at hc
      exact cell_txt hc
    have keyI : ∀ (i : Nat) (v : Value), (i < 3 ∨ i = 9 ∨ i = 10) → (#[c0, c1, c2, c3, c4, c5, c6, c7, c8, c9, c10] : Array Value)[i]? = some v → ∃ n : Int, v = .int .i64 n := by
      intro i v hlt hv
      obtain ⟨t, ht, hc⟩ := hi i v hv
      have e : t = 3 := by
        rw [show i % [3, 3, 3, 22, 22, 22, 22, 22, 22, 3, 3].length = i from Nat.mod_eq_of_lt (show i < 11 by omega)] at ht
        have : i = 0 ∨ i = 1 ∨ i = 2 ∨ i = 9 ∨ i = 10 := by omega
        rcases this with rfl | rfl | rfl | rfl | rfl <;> simpa using ht.symm
      rw [e] at hc
      exact cell_i64 hc
    obtain ⟨n0, rfl⟩ := keyI 0 _ (by omega) rfl
    obtain ⟨n1, rfl⟩ := keyI 1 _ (by omega) rfl
    obtain ⟨n2, rfl⟩ := keyI 2 _ (by omega) rfl
    obtain ⟨n3, rfl⟩ := keyN 3 _ (by omega) rfl
    obtain ⟨n4, rfl⟩ := keyN 4 _ (by omega) rfl
    obtain ⟨n5, rfl⟩ := keyN 5 _ (by omega) rfl
    obtain ⟨n6, rfl⟩ := keyN 6 _ (by omega) rfl
    obtain ⟨n7, rfl⟩ := keyN 7 _ (by omega) rfl
    obtain ⟨n8, rfl⟩ := keyN 8 _ (by omega) rfl
    obtain ⟨n9, rfl⟩ := keyI 9 _ (by omega) rfl
    obtain ⟨n10, rfl⟩ := keyI 10 _ (by omega) rfl
    exact ⟨n0, n1, n2, ⟨n3, n4, n5⟩, ⟨n6, n7, n8⟩, n9, n10, rfl⟩
end Go.Proofs.YtbfojhneajedmaaGreatDoor
