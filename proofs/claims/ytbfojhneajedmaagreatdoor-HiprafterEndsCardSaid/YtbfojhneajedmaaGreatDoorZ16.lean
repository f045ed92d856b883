/-
  Texts of the integers, laid together: Yk, Yp.
-/
import Derived.Test.YtbfojhneajedmaaGreatDoorZ14
import Derived.Test.YtbfojhneajedmaaGreatDoorZ15
namespace Go.Proofs.YtbfojhneajedmaaGreatDoor
open Go.RowKit Go.KP Go.KI Go.Shelf
attribute [local go_sem] Oper.semAt_some

theorem vadd_opp (a b : V3) : vadd (vsub b a) (vsub a b) = vzero := V3.ext (by unfold vadd vsub vzero; grind) (by unfold vadd vsub vzero; grind) (by unfold vadd vsub vzero; grind)
theorem add_opp (a b : V3) : (vsub b a).z + (vsub a b).z = 0 := by unfold vsub; grind
theorem Mem.turn {k f o : Int} {a b : V3} {wd dp : Int} (h : Mem k f o a b wd dp) : Mem k f o b a wd dp := ⟨h.k1, h.k2, h.f0, h.o0, h.w1, h.w2, h.d1, h.d2, h.hb, h.ha, fun e => h.ne e.symm⟩
theorem mx8 (w : World) : (Builtin.max_ #[31, 31, 31, 31, 31, 31, 31, 31] 31 #[.int .i64 0, .int .i64 0, .int .i64 0, .int .i64 0, .int .i64 0, .int .i64 0, .int .i64 0, .int .i64 0]).run Tryz.prog w = .ok (.int .i64 0) w := by kernel_rfl
theorem eqZ (w : World) : (Op.equalIn 10000 24 (vecV vzero) (spotV b0 b0 b0)).run Tryz.prog w = .ok true w := by
  have h := eqZero vzero w
  rw [decide_eq_true rfl] at h
  exact h
def actY (a b q : I3) (A C : V3) (w w1 w3 w4 w5 : World) (y13 : Nat) (x0 x1 x2 x3 x4 x5 x6 x7 x8 x9 x10 x11 x12 x13 : Bool) : Act := { tmps := #[smallV a b, i3V q, Value.pointer (some { block := w.heap.size, off := 0 }), Value.pointer (some { block := w.heap.size + 1, off := 0 }), Value.bool false, Value.pointer (some { block := w1.heap.size, off := 0 }), Value.pointer (some { block := w1.heap.size + 1, off := 0 }), Value.pointer (some { block := w3.heap.size, off := 0 }), Value.int IntKind.i64 0, Value.pointer (some { block := w4.heap.size, off := 0 }), Value.int IntKind.i64 0, Value.pointer (some { block := w5.heap.size, off := 0 }), Value.int IntKind.i64 0, Value.string (T (vsub C A).z), Value.int IntKind.i64 0, Value.string (T (vsub A C).z), Value.int IntKind.i64 0, Value.string { data := #[48] }, Value.int IntKind.i64 0, sel x13 (.pointer (some ⟨y13, 0, none⟩)), undef, undef, undef, undef, Value.agg #[Value.int IntKind.i8 a.x, Value.int IntKind.i8 a.y, Value.int IntKind.i8 a.z, Value.int IntKind.i8 b.x, Value.int IntKind.i8 b.y, Value.int IntKind.i8 b.z], memV 6 1 0 A C 80 220, Value.agg #[Value.int IntKind.i64 6, Value.int IntKind.i64 1, Value.int IntKind.i64 0, Value.string (T A.x), Value.string (T A.y), Value.string (T A.z), Value.string (T C.x), Value.string (T C.y), Value.string (T C.z), Value.int IntKind.i64 80, Value.int IntKind.i64 220], Value.pointer (some { block := w1.heap.size, off := 6 }), Value.agg #[Value.string (T C.x), Value.string (T C.y), Value.string (T C.z)], Value.pointer (some { block := w1.heap.size, off := 3 }), Value.agg #[Value.string (T A.x), Value.string (T A.y), Value.string (T A.z)], Value.pointer (some { block := w1.heap.size + 1, off := 3 }), Value.pointer (some { block := w1.heap.size + 1, off := 6 }), Value.tuple #[vecV (vsub C A), Value.int IntKind.i64 0], Value.agg #[Value.int IntKind.i64 6, Value.int IntKind.i64 1, Value.int IntKind.i64 0, Value.string (T A.x), Value.string (T A.y), Value.string (T A.z), Value.string (T C.x), Value.string (T C.y), Value.string (T C.z), Value.int IntKind.i64 80, Value.int IntKind.i64 220], Value.tuple #[vecV (vsub C A), Value.int IntKind.i64 0], vecV (vsub C A), Value.int IntKind.i64 0, Value.tuple #[vecV (vsub A C), Value.int IntKind.i64 0], Value.agg #[Value.int IntKind.i64 6, Value.int IntKind.i64 1, Value.int IntKind.i64 0, Value.string (T C.x), Value.string (T C.y), Value.string (T C.z), Value.string (T A.x), Value.string (T A.y), Value.string (T A.z), Value.int IntKind.i64 80, Value.int IntKind.i64 220], Value.tuple #[vecV (vsub A C), Value.int IntKind.i64 0], vecV (vsub A C), Value.int IntKind.i64 0, Value.tuple #[vecV vzero, Value.int IntKind.i64 0], Value.agg #[Value.string (T (vsub C A).x), Value.string (T (vsub C A).y), Value.string (T (vsub C A).z)], Value.agg #[Value.string (T (vsub A C).x), Value.string (T (vsub A C).y), Value.string (T (vsub A C).z)], Value.tuple #[vecV vzero, Value.int IntKind.i64 0], vecV vzero, Value.int IntKind.i64 0, Value.tuple #[Value.string (T (vsub C A).z), Value.int IntKind.i64 0], Value.agg #[Value.int IntKind.i64 6, Value.int IntKind.i64 1, Value.int IntKind.i64 0, Value.string (T A.x), Value.string (T A.y), Value.string (T A.z), Value.string (T C.x), Value.string (T C.y), Value.string (T C.z), Value.int IntKind.i64 80, Value.int IntKind.i64 220], Value.tuple #[Value.string (T (vsub C A).z), Value.int IntKind.i64 0], Value.string (T (vsub C A).z), Value.int IntKind.i64 0, Value.tuple #[Value.string (T (vsub A C).z), Value.int IntKind.i64 0], Value.agg #[Value.int IntKind.i64 6, Value.int IntKind.i64 1, Value.int IntKind.i64 0, Value.string (T C.x), Value.string (T C.y), Value.string (T C.z), Value.string (T A.x), Value.string (T A.y), Value.string (T A.z), Value.int IntKind.i64 80, Value.int IntKind.i64 220], Value.tuple #[Value.string (T (vsub A C).z), Value.int IntKind.i64 0], Value.string (T (vsub A C).z), Value.int IntKind.i64 0, Value.tuple #[Value.string { data := #[48] }, Value.int IntKind.i64 0], Value.string (T (vsub C A).z), Value.string (T (vsub A C).z), Value.tuple #[Value.string { data := #[48] }, Value.int IntKind.i64 0], Value.string { data := #[48] }, Value.int IntKind.i64 0, sel x0 (.pointer (some ⟨w.heap.size + 1, 0, none⟩)), sel x1 (.int .i8 q.x), sel x2 (.int .i64 q.x), sel x3 (.string (T (Rat.divInt q.x 2))), sel x4 (.pointer (some ⟨w.heap.size + 1, 1, none⟩)), sel x5 (.int .i8 q.y), sel x6 (.int .i64 q.y), sel x7 (.string (T (Rat.divInt q.y 2))), sel x8 (.pointer (some ⟨w.heap.size + 1, 2, none⟩)), sel x9 (.int .i8 q.z), sel x10 (.int .i64 q.z), sel x11 (.string (T (Rat.divInt q.z 2))), sel x12 (spotV (T (Rat.divInt q.x 2)) (T (Rat.divInt q.y 2)) (T (Rat.divInt q.z 2))), undef, undef, undef, undef, undef, undef, undef, undef, undef, undef, undef, undef, undef, undef, undef, undef, undef, undef, undef, undef, undef, undef, undef, undef, undef, undef, undef, undef, undef, undef, undef, undef, undef, undef, undef, undef, undef, undef, undef], defers := [] }
def RelY (a b q : I3) (A C : V3) (w w1 w3 w4 w5 : World) (W0 : World) (L : Array Bool) (F : Act) (wz : World) : Prop :=
  ∃ y13, F = actY a b q A C w w1 w3 w4 w5 y13 (L.getD 0 false) (L.getD 1 false) (L.getD 2 false) (L.getD 3 false) (L.getD 4 false) (L.getD 5 false) (L.getD 6 false) (L.getD 7 false) (L.getD 8 false) (L.getD 9 false) (L.getD 10 false) (L.getD 11 false) (L.getD 12 false) (L.getD 13 false) ∧ Below W0.heap.size W0 wz ∧ (L.getD 13 false = true → W0.heap.size ≤ y13 ∧ wz.heap[y13]? = some (spotO ⟨#[]⟩ ⟨#[]⟩ ⟨#[]⟩))
theorem RelY.keep {a b q : I3} {A C : V3} {w w1 w3 w4 w5 : World} {W0 wz wz' : World} {L L' : Array Bool} {F : Act} {y13 : Nat} (hB : Below W0.heap.size W0 wz) (h13 : L.getD 13 false = true → W0.heap.size ≤ y13 ∧ wz.heap[y13]? = some (spotO ⟨#[]⟩ ⟨#[]⟩ ⟨#[]⟩)) (hb : Below wz.heap.size wz wz') (e13 : L'.getD 13 false = L.getD 13 false) (hF : F = actY a b q A C w w1 w3 w4 w5 y13 (L'.getD 0 false) (L'.getD 1 false) (L'.getD 2 false) (L'.getD 3 false) (L'.getD 4 false) (L'.getD 5 false) (L'.getD 6 false) (L'.getD 7 false) (L'.getD 8 false) (L'.getD 9 false) (L'.getD 10 false) (L'.getD 11 false) (L'.getD 12 false) (L'.getD 13 false)) : RelY a b q A C w w1 w3 w4 w5 W0 L' F wz' := by
  refine ⟨y13, hF, hB.trans (hb.mono hB.size), ?_⟩
  · rw [e13]
    intro h
    exact ⟨(h13 h).1, below_blk hb (h13 h).2 (lt_blk (h13 h).2)⟩
set_option maxRecDepth 100000 in
set_option maxHeartbeats 16000000 in
theorem lawTurned_any {a b q : I3} (ha : small3 a) (hb : small3 b) (hq : small3 q) (B : Nat) (w : World) (hB : B ≤ w.heap.size) (hT : PQ B w) :
    Calls Tryz.prog 5 #[smallV a b, i3V q] w (Ret w (.bool true)) := by
  have HT := hide hT
  have HOF := hide (lof_to ha hb B)
  have HAW := hide (fun w hB hT => hawake_any B w hB hT)
  have hm := small_mem ha hb
  obtain ⟨A, hA⟩ : ∃ A, A = v3 a := ⟨_, rfl⟩
  obtain ⟨C, hC⟩ : ∃ A, A = v3 (moved a b) := ⟨_, rfl⟩
  rw [← hA, ← hC] at HOF hm
  have hn := hm.turn
  have HD1 := hide (fun w hB hT => hDirection_to hm B w hB hT)
  have HD2 := hide (fun w hB hT => hDirection_to hn B w hB hT)
  have HR1 := hide (fun w hB hT => hRise_to hm B w hB hT)
  have HR2 := hide (fun w hB hT => hRise_to hn B w hB hT)
  have HV := hide (fun w hB hT => (vAdd_O hm.fd hn.fd B w hB hT).mono fun _ _ hr => ResV.of (add2_sz hm.szd hn.szd (by rw [most_eq]; omega)) hr)
  rw [vadd_opp] at HV
  have HN := hide (fun w hB hT => (qadd_O hm.fd.2.2 hn.fd.2.2 B w hB hT).mono fun _ _ hr => ResO.of (addO_sz hm.szd.2.2 hn.szd.2.2 (by rw [most_eq]; omega)) hr)
  rw [add_opp, T0] at HN
  have X0 := hide (heap2 w (.cells #[.int .i8 a.x, .int .i8 a.y, .int .i8 a.z, .int .i8 b.x, .int .i8 b.y, .int .i8 b.z] 43) (.cells #[.int .i8 q.x, .int .i8 q.y, .int .i8 q.z] 41))
  have HQ := hide hq
  have sq : szV 36 (v3 q) := szV_mono (v3_sz hq) (by omega)
  obtain ⟨R, hR⟩ : ∃ R, R = decide (meetsP A C (v3 q)) := ⟨_, rfl⟩
  have hR2 : R = decide (meetsP C A (v3 q)) := by rw [hR]; exact decide_eq_decide.2 (meets_turned _ _ _)
  have HM1 : Hid (∀ w, B ≤ w.heap.size → PQ B w → Calls Tryz.prog 25 #[memV 6 1 0 A C 80 220, spotV (T (Rat.divInt q.x 2)) (T (Rat.divInt q.y 2)) (T (Rat.divInt q.z 2))] w (Ret w (.tuple #[.bool R, .int .i64 0]))) := hide (fun w hB hT => hMeets_to hm sq hR B w hB hT)
  have HM2 : Hid (∀ w, B ≤ w.heap.size → PQ B w → Calls Tryz.prog 25 #[memV 6 1 0 C A 80 220, spotV (T (Rat.divInt q.x 2)) (T (Rat.divInt q.y 2)) (T (Rat.divInt q.z 2))] w (Ret w (.tuple #[.bool R, .int .i64 0]))) := hide (fun w hB hT => hMeets_to hn sq hR2 B w hB hT)
  clear hm hn hA hC ha hb hq hT hR hR2 sq
  go_enter Tryz.func5, Tryz.ntmps5
  go_wp2_with fail
  refine (HOF.out _ (Nat.le_trans hB X0.out.2.2.2.size) (HT.out.on X0.out.2.2.2 hB)).mono ?_
  rintro e w1 ⟨rfl, hb1⟩
  have Z3 := hide (below_blk hb1 X0.out.2.1 (lt_blk X0.out.2.1))
  have HB1 := hide (X0.out.2.2.2.trans (hb1.mono X0.out.2.2.2.size))
  clear hb1
  go_wp2_with fail
  go_region
  have Y := hide (heap2 w1 (memO 6 1 0 A C 80 220) (memO 6 1 0 C A 80 220))
  obtain ⟨u2, hu2⟩ : ∃ W, W = ((w1.alloc (memO 6 1 0 A C 80 220)).alloc (memO 6 1 0 C A 80 220)).drew := ⟨_, rfl⟩
  have M1 : Hid (u2.heap[w1.heap.size]? = some (memO 6 1 0 A C 80 220)) := hide (by rw [hu2]; exact Y.out.1)
  have M2 : Hid (u2.heap[w1.heap.size + 1]? = some (memO 6 1 0 C A 80 220)) := hide (by rw [hu2]; exact Y.out.2.1)
  have hd2 : Below w1.heap.size w1 u2 := by rw [hu2]; exact Y.out.2.2.2.drew
  have Z3 := hide (below_blk hd2 Z3.out (lt_blk Z3.out))
  have HB2 := hide (HB1.out.trans (hd2.mono HB1.out.size))
  rw [← hu2]
  clear hu2 hd2 Y
  have c0 := cell_blk M1.out 0
  have c1 := cell_blk M1.out 1
  have c2 := cell_blk M1.out 2
  have c3 := cell_blk M1.out 3
  have c4 := cell_blk M1.out 4
  have c5 := cell_blk M1.out 5
  have c6 := cell_blk M1.out 6
  have c7 := cell_blk M1.out 7
  have c8 := cell_blk M1.out 8
  have c9 := cell_blk M1.out 9
  have c10 := cell_blk M1.out 10
  have cl := lt_blk M1.out
  go_wp2_with fail
  refine (HD1.out _ (Nat.le_trans hB HB2.out.size) (HT.out.on HB2.out hB)).mono ?_
  rintro e w3 ⟨rfl, hb3⟩
  have X3 := hide (heap1 w3 (vecO (vsub C A)))
  have hb3 := hb3.trans (X3.out.2.2.mono hb3.size)
  have M1 := hide (below_blk hb3 M1.out (lt_blk M1.out))
  have M2 := hide (below_blk hb3 M2.out (lt_blk M2.out))
  have Z3 := hide (below_blk hb3 Z3.out (lt_blk Z3.out))
  have D1 := hide X3.out.1
  have HB3 := hide (HB2.out.trans (hb3.mono HB2.out.size))
  clear hb3 X3 c0 c1 c2 c3 c4 c5 c6 c7 c8 c9 c10 cl
  have c0 := cell_blk M2.out 0
  have c1 := cell_blk M2.out 1
  have c2 := cell_blk M2.out 2
  have c3 := cell_blk M2.out 3
  have c4 := cell_blk M2.out 4
  have c5 := cell_blk M2.out 5
  have c6 := cell_blk M2.out 6
  have c7 := cell_blk M2.out 7
  have c8 := cell_blk M2.out 8
  have c9 := cell_blk M2.out 9
  have c10 := cell_blk M2.out 10
  have cl := lt_blk M2.out
  go_wp2_with fail
  refine (HD2.out _ (Nat.le_trans hB HB3.out.size) (HT.out.on HB3.out hB)).mono ?_
  rintro e w4 ⟨rfl, hb4⟩
  have X4 := hide (heap1 w4 (vecO (vsub A C)))
  have hb4 := hb4.trans (X4.out.2.2.mono hb4.size)
  have M1 := hide (below_blk hb4 M1.out (lt_blk M1.out))
  have M2 := hide (below_blk hb4 M2.out (lt_blk M2.out))
  have Z3 := hide (below_blk hb4 Z3.out (lt_blk Z3.out))
  have D1 := hide (below_blk hb4 D1.out (lt_blk D1.out))
  have D2 := hide X4.out.1
  have HB4 := hide (HB3.out.trans (hb4.mono HB3.out.size))
  clear hb4 X4 c0 c1 c2 c3 c4 c5 c6 c7 c8 c9 c10 cl
  have d0 := cell_blk D1.out 0
  have d1 := cell_blk D1.out 1
  have d2 := cell_blk D1.out 2
  have dl := lt_blk D1.out
  have f0 := cell_blk D2.out 0
  have f1 := cell_blk D2.out 1
  have f2 := cell_blk D2.out 2
  have fl := lt_blk D2.out
  go_wp2_with fail
  refine (HV.out _ (Nat.le_trans hB HB4.out.size) (HT.out.on HB4.out hB)).mono ?_
  rintro e w5 ⟨rfl, hb5⟩
  have X5 := hide (heap1 w5 (vecO vzero))
  have hb5 := hb5.trans (X5.out.2.2.mono hb5.size)
  have M1 := hide (below_blk hb5 M1.out (lt_blk M1.out))
  have M2 := hide (below_blk hb5 M2.out (lt_blk M2.out))
  have Z3 := hide (below_blk hb5 Z3.out (lt_blk Z3.out))
  have D3 := hide X5.out.1
  have HB5 := hide (HB4.out.trans (hb5.mono HB4.out.size))
  clear hb5 X5 d0 d1 d2 dl f0 f1 f2 fl D1 D2
  have c0 := cell_blk M1.out 0
  have c1 := cell_blk M1.out 1
  have c2 := cell_blk M1.out 2
  have c3 := cell_blk M1.out 3
  have c4 := cell_blk M1.out 4
  have c5 := cell_blk M1.out 5
  have c6 := cell_blk M1.out 6
  have c7 := cell_blk M1.out 7
  have c8 := cell_blk M1.out 8
  have c9 := cell_blk M1.out 9
  have c10 := cell_blk M1.out 10
  have cl := lt_blk M1.out
  go_wp2_with fail
  refine (HR1.out _ (Nat.le_trans hB HB5.out.size) (HT.out.on HB5.out hB)).mono ?_
  rintro e w6 ⟨rfl, hb6⟩
  have M1 := hide (below_blk hb6 M1.out (lt_blk M1.out))
  have M2 := hide (below_blk hb6 M2.out (lt_blk M2.out))
  have Z3 := hide (below_blk hb6 Z3.out (lt_blk Z3.out))
  have D3 := hide (below_blk hb6 D3.out (lt_blk D3.out))
  have HB6 := hide (HB5.out.trans (hb6.mono HB5.out.size))
  clear hb6 c0 c1 c2 c3 c4 c5 c6 c7 c8 c9 c10 cl
  have c0 := cell_blk M2.out 0
  have c1 := cell_blk M2.out 1
  have c2 := cell_blk M2.out 2
  have c3 := cell_blk M2.out 3
  have c4 := cell_blk M2.out 4
  have c5 := cell_blk M2.out 5
  have c6 := cell_blk M2.out 6
  have c7 := cell_blk M2.out 7
  have c8 := cell_blk M2.out 8
  have c9 := cell_blk M2.out 9
  have c10 := cell_blk M2.out 10
  have cl := lt_blk M2.out
  go_wp2_with fail
  refine (HR2.out _ (Nat.le_trans hB HB6.out.size) (HT.out.on HB6.out hB)).mono ?_
  rintro e w7 ⟨rfl, hb7⟩
  have M1 := hide (below_blk hb7 M1.out (lt_blk M1.out))
  have M2 := hide (below_blk hb7 M2.out (lt_blk M2.out))
  have Z3 := hide (below_blk hb7 Z3.out (lt_blk Z3.out))
  have D3 := hide (below_blk hb7 D3.out (lt_blk D3.out))
  have HB7 := hide (HB6.out.trans (hb7.mono HB6.out.size))
  clear hb7 c0 c1 c2 c3 c4 c5 c6 c7 c8 c9 c10 cl
  go_wp2_with fail
  refine (HN.out _ (Nat.le_trans hB HB7.out.size) (HT.out.on HB7.out hB)).mono ?_
  rintro e w8 ⟨rfl, hb8⟩
  have M1 := hide (below_blk hb8 M1.out (lt_blk M1.out))
  have M2 := hide (below_blk hb8 M2.out (lt_blk M2.out))
  have Z3 := hide (below_blk hb8 Z3.out (lt_blk Z3.out))
  have D3 := hide (below_blk hb8 D3.out (lt_blk D3.out))
  have HB8 := hide (HB7.out.trans (hb8.mono HB7.out.size))
  clear hb8
  go_wp2_with fail
  have hB8 : B ≤ w8.heap.size := Nat.le_trans hB HB8.out.size
  have HP8 := hide (HT.out.on HB8.out hB)
  obtain ⟨⟨qx0, qx1⟩, ⟨qy0, qy1⟩, ⟨qz0, qz1⟩⟩ := HQ.out
  have HX0 := hide (fun w hB hT => lnum_any q.x 2 (by omega) (by omega) (by omega) (by omega) B w hB hT)
  have HX1 := hide (fun w hB hT => lnum_any q.y 2 (by omega) (by omega) (by omega) (by omega) B w hB hT)
  have HX2 := hide (fun w hB hT => lnum_any q.z 2 (by omega) (by omega) (by omega) (by omega) B w hB hT)
  have HSP := hide (fun (x y z : ByteArray) (w : World) => (lspot_at x y z w).mono fun e w' ⟨h, hb⟩ => show Ret w (spotV x y z) e w' from ⟨h, by rw [hb]; exact (heap1 w (spotO x y z)).2.2⟩)
  refine region_steps 14 (RelY a b q A C w w1 w3 w4 w5 w8) (by kernel_rfl) (by decide) (by kernel_rfl) (by kernel_rfl) ⟨0, rfl, (Below.refl _ _).drew, (fun h => by cases h)⟩ ?_ ?_
  · intro i o L F v hi ho hL hf hd hS
    obtain ⟨y13, rfl, hV, h13⟩ := hS
    have hi6 : i = 0 ∨ i = 1 ∨ i = 2 ∨ i = 3 ∨ i = 4 ∨ i = 5 ∨ i = 6 ∨ i = 7 ∨ i = 8 ∨ i = 9 ∨ i = 10 ∨ i = 11 ∨ i = 12 ∨ i = 13 := by omega
    rcases hi6 with rfl | rfl | rfl | rfl | rfl | rfl | rfl | rfl | rfl | rfl | rfl | rfl | rfl | rfl
    all_goals
      simp only [List.getElem?_cons_zero, List.getElem?_cons_succ, Option.some.injEq] at ho
      subst ho
    · have G := fun j => getD_set (j := j) hL hi
      obtain ⟨x0, hx0⟩ : ∃ x, x = L.getD 0 false := ⟨_, rfl⟩
      obtain ⟨x1, hx1⟩ : ∃ x, x = L.getD 1 false := ⟨_, rfl⟩
      obtain ⟨x2, hx2⟩ : ∃ x, x = L.getD 2 false := ⟨_, rfl⟩
      obtain ⟨x3, hx3⟩ : ∃ x, x = L.getD 3 false := ⟨_, rfl⟩
      obtain ⟨x4, hx4⟩ : ∃ x, x = L.getD 4 false := ⟨_, rfl⟩
      obtain ⟨x5, hx5⟩ : ∃ x, x = L.getD 5 false := ⟨_, rfl⟩
      obtain ⟨x6, hx6⟩ : ∃ x, x = L.getD 6 false := ⟨_, rfl⟩
      obtain ⟨x7, hx7⟩ : ∃ x, x = L.getD 7 false := ⟨_, rfl⟩
      obtain ⟨x8, hx8⟩ : ∃ x, x = L.getD 8 false := ⟨_, rfl⟩
      obtain ⟨x9, hx9⟩ : ∃ x, x = L.getD 9 false := ⟨_, rfl⟩
      obtain ⟨x10, hx10⟩ : ∃ x, x = L.getD 10 false := ⟨_, rfl⟩
      obtain ⟨x11, hx11⟩ : ∃ x, x = L.getD 11 false := ⟨_, rfl⟩
      obtain ⟨x12, hx12⟩ : ∃ x, x = L.getD 12 false := ⟨_, rfl⟩
      obtain ⟨x13, hx13⟩ : ∃ x, x = L.getD 13 false := ⟨_, rfl⟩
      rw [← hx0, ← hx1, ← hx2, ← hx3, ← hx4, ← hx5, ← hx6, ← hx7, ← hx8, ← hx9, ← hx10, ← hx11, ← hx12, ← hx13]
      have HK : Hid (∀ F, F = actY a b q A C w w1 w3 w4 w5 y13 true x1 x2 x3 x4 x5 x6 x7 x8 x9 x10 x11 x12 x13 → RelY a b q A C w w1 w3 w4 w5 w8 (L.setIfInBounds 0 true) F v) := hide (fun F hF => RelY.keep hV h13 (Below.refl _ v) (by rw [G]; rfl) (by rw [hF, G, G, G, G, G, G, G, G, G, G, G, G, G, G, hx1, hx2, hx3, hx4, hx5, hx6, hx7, hx8, hx9, hx10, hx11, hx12, hx13]; rfl))
      unfold actY
      clear h13 hV hd hx0 hx1 hx2 hx3 hx4 hx5 hx6 hx7 hx8 hx9 hx10 hx11 hx12 hx13 G hf hL hi
      go_wp2_with fail
      exact HK.out _ rfl
    · have G := fun j => getD_set (j := j) hL hi
      obtain ⟨x0, hx0⟩ : ∃ x, x = L.getD 0 false := ⟨_, rfl⟩
      obtain ⟨x1, hx1⟩ : ∃ x, x = L.getD 1 false := ⟨_, rfl⟩
      obtain ⟨x2, hx2⟩ : ∃ x, x = L.getD 2 false := ⟨_, rfl⟩
      obtain ⟨x3, hx3⟩ : ∃ x, x = L.getD 3 false := ⟨_, rfl⟩
      obtain ⟨x4, hx4⟩ : ∃ x, x = L.getD 4 false := ⟨_, rfl⟩
      obtain ⟨x5, hx5⟩ : ∃ x, x = L.getD 5 false := ⟨_, rfl⟩
      obtain ⟨x6, hx6⟩ : ∃ x, x = L.getD 6 false := ⟨_, rfl⟩
      obtain ⟨x7, hx7⟩ : ∃ x, x = L.getD 7 false := ⟨_, rfl⟩
      obtain ⟨x8, hx8⟩ : ∃ x, x = L.getD 8 false := ⟨_, rfl⟩
      obtain ⟨x9, hx9⟩ : ∃ x, x = L.getD 9 false := ⟨_, rfl⟩
      obtain ⟨x10, hx10⟩ : ∃ x, x = L.getD 10 false := ⟨_, rfl⟩
      obtain ⟨x11, hx11⟩ : ∃ x, x = L.getD 11 false := ⟨_, rfl⟩
      obtain ⟨x12, hx12⟩ : ∃ x, x = L.getD 12 false := ⟨_, rfl⟩
      obtain ⟨x13, hx13⟩ : ∃ x, x = L.getD 13 false := ⟨_, rfl⟩
      rw [← hx0, ← hx1, ← hx2, ← hx3, ← hx4, ← hx5, ← hx6, ← hx7, ← hx8, ← hx9, ← hx10, ← hx11, ← hx12, ← hx13]
      have hdep0 : x0 = true := by rw [hx0]; exact hd 0 (waitsB_iff.1 (by kernel_rfl))
      have HK : Hid (∀ F, F = actY a b q A C w w1 w3 w4 w5 y13 x0 true x2 x3 x4 x5 x6 x7 x8 x9 x10 x11 x12 x13 → RelY a b q A C w w1 w3 w4 w5 w8 (L.setIfInBounds 1 true) F v) := hide (fun F hF => RelY.keep hV h13 (Below.refl _ v) (by rw [G]; rfl) (by rw [hF, G, G, G, G, G, G, G, G, G, G, G, G, G, G, hx0, hx2, hx3, hx4, hx5, hx6, hx7, hx8, hx9, hx10, hx11, hx12, hx13]; rfl))
      have e0 := below_blk hV Z3.out (lt_blk Z3.out)
      have l0 := lt_blk e0
      have k0_0 := cell_blk e0 0
      unfold actY
      clear h13 hV hd e0 hx0 hx1 hx2 hx3 hx4 hx5 hx6 hx7 hx8 hx9 hx10 hx11 hx12 hx13 G hf hL hi
      subst hdep0
      simp only [sel_t]
      go_wp2_with fail
      exact HK.out _ rfl
    · have G := fun j => getD_set (j := j) hL hi
      obtain ⟨x0, hx0⟩ : ∃ x, x = L.getD 0 false := ⟨_, rfl⟩
      obtain ⟨x1, hx1⟩ : ∃ x, x = L.getD 1 false := ⟨_, rfl⟩
      obtain ⟨x2, hx2⟩ : ∃ x, x = L.getD 2 false := ⟨_, rfl⟩
      obtain ⟨x3, hx3⟩ : ∃ x, x = L.getD 3 false := ⟨_, rfl⟩
      obtain ⟨x4, hx4⟩ : ∃ x, x = L.getD 4 false := ⟨_, rfl⟩
      obtain ⟨x5, hx5⟩ : ∃ x, x = L.getD 5 false := ⟨_, rfl⟩
      obtain ⟨x6, hx6⟩ : ∃ x, x = L.getD 6 false := ⟨_, rfl⟩
      obtain ⟨x7, hx7⟩ : ∃ x, x = L.getD 7 false := ⟨_, rfl⟩
      obtain ⟨x8, hx8⟩ : ∃ x, x = L.getD 8 false := ⟨_, rfl⟩
      obtain ⟨x9, hx9⟩ : ∃ x, x = L.getD 9 false := ⟨_, rfl⟩
      obtain ⟨x10, hx10⟩ : ∃ x, x = L.getD 10 false := ⟨_, rfl⟩
      obtain ⟨x11, hx11⟩ : ∃ x, x = L.getD 11 false := ⟨_, rfl⟩
      obtain ⟨x12, hx12⟩ : ∃ x, x = L.getD 12 false := ⟨_, rfl⟩
      obtain ⟨x13, hx13⟩ : ∃ x, x = L.getD 13 false := ⟨_, rfl⟩
      rw [← hx0, ← hx1, ← hx2, ← hx3, ← hx4, ← hx5, ← hx6, ← hx7, ← hx8, ← hx9, ← hx10, ← hx11, ← hx12, ← hx13]
      have hdep1 : x1 = true := by rw [hx1]; exact hd 1 (waitsB_iff.1 (by kernel_rfl))
      have HK : Hid (∀ F, F = actY a b q A C w w1 w3 w4 w5 y13 x0 x1 true x3 x4 x5 x6 x7 x8 x9 x10 x11 x12 x13 → RelY a b q A C w w1 w3 w4 w5 w8 (L.setIfInBounds 2 true) F v) := hide (fun F hF => RelY.keep hV h13 (Below.refl _ v) (by rw [G]; rfl) (by rw [hF, G, G, G, G, G, G, G, G, G, G, G, G, G, G, hx0, hx1, hx3, hx4, hx5, hx6, hx7, hx8, hx9, hx10, hx11, hx12, hx13]; rfl))
      unfold actY
      clear h13 hV hd hx0 hx1 hx2 hx3 hx4 hx5 hx6 hx7 hx8 hx9 hx10 hx11 hx12 hx13 G hf hL hi
      subst hdep1
      simp only [sel_t]
      go_wp2_with fail
      exact HK.out _ rfl
    · have G := fun j => getD_set (j := j) hL hi
      obtain ⟨x0, hx0⟩ : ∃ x, x = L.getD 0 false := ⟨_, rfl⟩
      obtain ⟨x1, hx1⟩ : ∃ x, x = L.getD 1 false := ⟨_, rfl⟩
      obtain ⟨x2, hx2⟩ : ∃ x, x = L.getD 2 false := ⟨_, rfl⟩
      obtain ⟨x3, hx3⟩ : ∃ x, x = L.getD 3 false := ⟨_, rfl⟩
      obtain ⟨x4, hx4⟩ : ∃ x, x = L.getD 4 false := ⟨_, rfl⟩
      obtain ⟨x5, hx5⟩ : ∃ x, x = L.getD 5 false := ⟨_, rfl⟩
      obtain ⟨x6, hx6⟩ : ∃ x, x = L.getD 6 false := ⟨_, rfl⟩
      obtain ⟨x7, hx7⟩ : ∃ x, x = L.getD 7 false := ⟨_, rfl⟩
      obtain ⟨x8, hx8⟩ : ∃ x, x = L.getD 8 false := ⟨_, rfl⟩
      obtain ⟨x9, hx9⟩ : ∃ x, x = L.getD 9 false := ⟨_, rfl⟩
      obtain ⟨x10, hx10⟩ : ∃ x, x = L.getD 10 false := ⟨_, rfl⟩
      obtain ⟨x11, hx11⟩ : ∃ x, x = L.getD 11 false := ⟨_, rfl⟩
      obtain ⟨x12, hx12⟩ : ∃ x, x = L.getD 12 false := ⟨_, rfl⟩
      obtain ⟨x13, hx13⟩ : ∃ x, x = L.getD 13 false := ⟨_, rfl⟩
      rw [← hx0, ← hx1, ← hx2, ← hx3, ← hx4, ← hx5, ← hx6, ← hx7, ← hx8, ← hx9, ← hx10, ← hx11, ← hx12, ← hx13]
      have hdep2 : x2 = true := by rw [hx2]; exact hd 2 (waitsB_iff.1 (by kernel_rfl))
      have HK : Hid (∀ (v2 : World) F, Below v.heap.size v v2 → F = actY a b q A C w w1 w3 w4 w5 y13 x0 x1 x2 true x4 x5 x6 x7 x8 x9 x10 x11 x12 x13 → RelY a b q A C w w1 w3 w4 w5 w8 (L.setIfInBounds 3 true) F v2) := hide (fun v2 F hb hF => RelY.keep hV h13 hb (by rw [G]; rfl) (by rw [hF, G, G, G, G, G, G, G, G, G, G, G, G, G, G, hx0, hx1, hx2, hx4, hx5, hx6, hx7, hx8, hx9, hx10, hx11, hx12, hx13]; rfl))
      have HV := hide hV
      unfold actY
      clear h13 hV hd hx0 hx1 hx2 hx3 hx4 hx5 hx6 hx7 hx8 hx9 hx10 hx11 hx12 hx13 G hf hL hi
      subst hdep2
      simp only [sel_t]
      go_wp2_with fail
      refine (HX0.out v (Nat.le_trans hB8 HV.out.size) (HP8.out.on HV.out hB8)).mono ?_
      rintro e v2 ⟨rfl, hb2⟩
      have HK2 := hide (HK.out v2)
      have HB2 := hide hb2
      clear hb2 HK
      go_wp2_with fail
      exact HK2.out _ HB2.out rfl
    · have G := fun j => getD_set (j := j) hL hi
      obtain ⟨x0, hx0⟩ : ∃ x, x = L.getD 0 false := ⟨_, rfl⟩
      obtain ⟨x1, hx1⟩ : ∃ x, x = L.getD 1 false := ⟨_, rfl⟩
      obtain ⟨x2, hx2⟩ : ∃ x, x = L.getD 2 false := ⟨_, rfl⟩
      obtain ⟨x3, hx3⟩ : ∃ x, x = L.getD 3 false := ⟨_, rfl⟩
      obtain ⟨x4, hx4⟩ : ∃ x, x = L.getD 4 false := ⟨_, rfl⟩
      obtain ⟨x5, hx5⟩ : ∃ x, x = L.getD 5 false := ⟨_, rfl⟩
      obtain ⟨x6, hx6⟩ : ∃ x, x = L.getD 6 false := ⟨_, rfl⟩
      obtain ⟨x7, hx7⟩ : ∃ x, x = L.getD 7 false := ⟨_, rfl⟩
      obtain ⟨x8, hx8⟩ : ∃ x, x = L.getD 8 false := ⟨_, rfl⟩
      obtain ⟨x9, hx9⟩ : ∃ x, x = L.getD 9 false := ⟨_, rfl⟩
      obtain ⟨x10, hx10⟩ : ∃ x, x = L.getD 10 false := ⟨_, rfl⟩
      obtain ⟨x11, hx11⟩ : ∃ x, x = L.getD 11 false := ⟨_, rfl⟩
      obtain ⟨x12, hx12⟩ : ∃ x, x = L.getD 12 false := ⟨_, rfl⟩
      obtain ⟨x13, hx13⟩ : ∃ x, x = L.getD 13 false := ⟨_, rfl⟩
      rw [← hx0, ← hx1, ← hx2, ← hx3, ← hx4, ← hx5, ← hx6, ← hx7, ← hx8, ← hx9, ← hx10, ← hx11, ← hx12, ← hx13]
      have HK : Hid (∀ F, F = actY a b q A C w w1 w3 w4 w5 y13 x0 x1 x2 x3 true x5 x6 x7 x8 x9 x10 x11 x12 x13 → RelY a b q A C w w1 w3 w4 w5 w8 (L.setIfInBounds 4 true) F v) := hide (fun F hF => RelY.keep hV h13 (Below.refl _ v) (by rw [G]; rfl) (by rw [hF, G, G, G, G, G, G, G, G, G, G, G, G, G, G, hx0, hx1, hx2, hx3, hx5, hx6, hx7, hx8, hx9, hx10, hx11, hx12, hx13]; rfl))
      unfold actY
      clear h13 hV hd hx0 hx1 hx2 hx3 hx4 hx5 hx6 hx7 hx8 hx9 hx10 hx11 hx12 hx13 G hf hL hi
      go_wp2_with fail
      exact HK.out _ rfl
    · have G := fun j => getD_set (j := j) hL hi
      obtain ⟨x0, hx0⟩ : ∃ x, x = L.getD 0 false := ⟨_, rfl⟩
      obtain ⟨x1, hx1⟩ : ∃ x, x = L.getD 1 false := ⟨_, rfl⟩
      obtain ⟨x2, hx2⟩ : ∃ x, x = L.getD 2 false := ⟨_, rfl⟩
      obtain ⟨x3, hx3⟩ : ∃ x, x = L.getD 3 false := ⟨_, rfl⟩
      obtain ⟨x4, hx4⟩ : ∃ x, x = L.getD 4 false := ⟨_, rfl⟩
      obtain ⟨x5, hx5⟩ : ∃ x, x = L.getD 5 false := ⟨_, rfl⟩
      obtain ⟨x6, hx6⟩ : ∃ x, x = L.getD 6 false := ⟨_, rfl⟩
      obtain ⟨x7, hx7⟩ : ∃ x, x = L.getD 7 false := ⟨_, rfl⟩
      obtain ⟨x8, hx8⟩ : ∃ x, x = L.getD 8 false := ⟨_, rfl⟩
      obtain ⟨x9, hx9⟩ : ∃ x, x = L.getD 9 false := ⟨_, rfl⟩
      obtain ⟨x10, hx10⟩ : ∃ x, x = L.getD 10 false := ⟨_, rfl⟩
      obtain ⟨x11, hx11⟩ : ∃ x, x = L.getD 11 false := ⟨_, rfl⟩
      obtain ⟨x12, hx12⟩ : ∃ x, x = L.getD 12 false := ⟨_, rfl⟩
      obtain ⟨x13, hx13⟩ : ∃ x, x = L.getD 13 false := ⟨_, rfl⟩
      rw [← hx0, ← hx1, ← hx2, ← hx3, ← hx4, ← hx5, ← hx6, ← hx7, ← hx8, ← hx9, ← hx10, ← hx11, ← hx12, ← hx13]
      have hdep4 : x4 = true := by rw [hx4]; exact hd 4 (waitsB_iff.1 (by kernel_rfl))
      have HK : Hid (∀ F, F = actY a b q A C w w1 w3 w4 w5 y13 x0 x1 x2 x3 x4 true x6 x7 x8 x9 x10 x11 x12 x13 → RelY a b q A C w w1 w3 w4 w5 w8 (L.setIfInBounds 5 true) F v) := hide (fun F hF => RelY.keep hV h13 (Below.refl _ v) (by rw [G]; rfl) (by rw [hF, G, G, G, G, G, G, G, G, G, G, G, G, G, G, hx0, hx1, hx2, hx3, hx4, hx6, hx7, hx8, hx9, hx10, hx11, hx12, hx13]; rfl))
      have e0 := below_blk hV Z3.out (lt_blk Z3.out)
      have l0 := lt_blk e0
      have k0_1 := cell_blk e0 1
      unfold actY
      clear h13 hV hd e0 hx0 hx1 hx2 hx3 hx4 hx5 hx6 hx7 hx8 hx9 hx10 hx11 hx12 hx13 G hf hL hi
      subst hdep4
      simp only [sel_t]
      go_wp2_with fail
      exact HK.out _ rfl
    · have G := fun j => getD_set (j := j) hL hi
      obtain ⟨x0, hx0⟩ : ∃ x, x = L.getD 0 false := ⟨_, rfl⟩
      obtain ⟨x1, hx1⟩ : ∃ x, x = L.getD 1 false := ⟨_, rfl⟩
      obtain ⟨x2, hx2⟩ : ∃ x, x = L.getD 2 false := ⟨_, rfl⟩
      obtain ⟨x3, hx3⟩ : ∃ x, x = L.getD 3 false := ⟨_, rfl⟩
      obtain ⟨x4, hx4⟩ : ∃ x, x = L.getD 4 false := ⟨_, rfl⟩
      obtain ⟨x5, hx5⟩ : ∃ x, x = L.getD 5 false := ⟨_, rfl⟩
      obtain ⟨x6, hx6⟩ : ∃ x, x = L.getD 6 false := ⟨_, rfl⟩
      obtain ⟨x7, hx7⟩ : ∃ x, x = L.getD 7 false := ⟨_, rfl⟩
      obtain ⟨x8, hx8⟩ : ∃ x, x = L.getD 8 false := ⟨_, rfl⟩
      obtain ⟨x9, hx9⟩ : ∃ x, x = L.getD 9 false := ⟨_, rfl⟩
      obtain ⟨x10, hx10⟩ : ∃ x, x = L.getD 10 false := ⟨_, rfl⟩
      obtain ⟨x11, hx11⟩ : ∃ x, x = L.getD 11 false := ⟨_, rfl⟩
      obtain ⟨x12, hx12⟩ : ∃ x, x = L.getD 12 false := ⟨_, rfl⟩
      obtain ⟨x13, hx13⟩ : ∃ x, x = L.getD 13 false := ⟨_, rfl⟩
      rw [← hx0, ← hx1, ← hx2, ← hx3, ← hx4, ← hx5, ← hx6, ← hx7, ← hx8, ← hx9, ← hx10, ← hx11, ← hx12, ← hx13]
      have hdep5 : x5 = true := by rw [hx5]; exact hd 5 (waitsB_iff.1 (by kernel_rfl))
      have HK : Hid (∀ F, F = actY a b q A C w w1 w3 w4 w5 y13 x0 x1 x2 x3 x4 x5 true x7 x8 x9 x10 x11 x12 x13 → RelY a b q A C w w1 w3 w4 w5 w8 (L.setIfInBounds 6 true) F v) := hide (fun F hF => RelY.keep hV h13 (Below.refl _ v) (by rw [G]; rfl) (by rw [hF, G, G, G, G, G, G, G, G, G, G, G, G, G, G, hx0, hx1, hx2, hx3, hx4, hx5, hx7, hx8, hx9, hx10, hx11, hx12, hx13]; rfl))
      unfold actY
      clear h13 hV hd hx0 hx1 hx2 hx3 hx4 hx5 hx6 hx7 hx8 hx9 hx10 hx11 hx12 hx13 G hf hL hi
      subst hdep5
      simp only [sel_t]
      go_wp2_with fail
      exact HK.out _ rfl
    · have G := fun j => getD_set (j := j) hL hi
      obtain ⟨x0, hx0⟩ : ∃ x, x = L.getD 0 false := ⟨_, rfl⟩
      obtain ⟨x1, hx1⟩ : ∃ x, x = L.getD 1 false := ⟨_, rfl⟩
      obtain ⟨x2, hx2⟩ : ∃ x, x = L.getD 2 false := ⟨_, rfl⟩
      obtain ⟨x3, hx3⟩ : ∃ x, x = L.getD 3 false := ⟨_, rfl⟩
      obtain ⟨x4, hx4⟩ : ∃ x, x = L.getD 4 false := ⟨_, rfl⟩
      obtain ⟨x5, hx5⟩ : ∃ x, x = L.getD 5 false := ⟨_, rfl⟩
      obtain ⟨x6, hx6⟩ : ∃ x, x = L.getD 6 false := ⟨_, rfl⟩
      obtain ⟨x7, hx7⟩ : ∃ x, x = L.getD 7 false := ⟨_, rfl⟩
      obtain ⟨x8, hx8⟩ : ∃ x, x = L.getD 8 false := ⟨_, rfl⟩
      obtain ⟨x9, hx9⟩ : ∃ x, x = L.getD 9 false := ⟨_, rfl⟩
      obtain ⟨x10, hx10⟩ : ∃ x, x = L.getD 10 false := ⟨_, rfl⟩
      obtain ⟨x11, hx11⟩ : ∃ x, x = L.getD 11 false := ⟨_, rfl⟩
      obtain ⟨x12, hx12⟩ : ∃ x, x = L.getD 12 false := ⟨_, rfl⟩
      obtain ⟨x13, hx13⟩ : ∃ x, x = L.getD 13 false := ⟨_, rfl⟩
      rw [← hx0, ← hx1, ← hx2, ← hx3, ← hx4, ← hx5, ← hx6, ← hx7, ← hx8, ← hx9, ← hx10, ← hx11, ← hx12, ← hx13]
      have hdep6 : x6 = true := by rw [hx6]; exact hd 6 (waitsB_iff.1 (by kernel_rfl))
      have HK : Hid (∀ (v2 : World) F, Below v.heap.size v v2 → F = actY a b q A C w w1 w3 w4 w5 y13 x0 x1 x2 x3 x4 x5 x6 true x8 x9 x10 x11 x12 x13 → RelY a b q A C w w1 w3 w4 w5 w8 (L.setIfInBounds 7 true) F v2) := hide (fun v2 F hb hF => RelY.keep hV h13 hb (by rw [G]; rfl) (by rw [hF, G, G, G, G, G, G, G, G, G, G, G, G, G, G, hx0, hx1, hx2, hx3, hx4, hx5, hx6, hx8, hx9, hx10, hx11, hx12, hx13]; rfl))
      have HV := hide hV
      unfold actY
      clear h13 hV hd hx0 hx1 hx2 hx3 hx4 hx5 hx6 hx7 hx8 hx9 hx10 hx11 hx12 hx13 G hf hL hi
      subst hdep6
      simp only [sel_t]
      go_wp2_with fail
      refine (HX1.out v (Nat.le_trans hB8 HV.out.size) (HP8.out.on HV.out hB8)).mono ?_
      rintro e v2 ⟨rfl, hb2⟩
      have HK2 := hide (HK.out v2)
      have HB2 := hide hb2
      clear hb2 HK
      go_wp2_with fail
      exact HK2.out _ HB2.out rfl
    · have G := fun j => getD_set (j := j) hL hi
      obtain ⟨x0, hx0⟩ : ∃ x, x = L.getD 0 false := ⟨_, rfl⟩
      obtain ⟨x1, hx1⟩ : ∃ x, x = L.getD 1 false := ⟨_, rfl⟩
      obtain ⟨x2, hx2⟩ : ∃ x, x = L.getD 2 false := ⟨_, rfl⟩
      obtain ⟨x3, hx3⟩ : ∃ x, x = L.getD 3 false := ⟨_, rfl⟩
      obtain ⟨x4, hx4⟩ : ∃ x, x = L.getD 4 false := ⟨_, rfl⟩
      obtain ⟨x5, hx5⟩ : ∃ x, x = L.getD 5 false := ⟨_, rfl⟩
      obtain ⟨x6, hx6⟩ : ∃ x, x = L.getD 6 false := ⟨_, rfl⟩
      obtain ⟨x7, hx7⟩ : ∃ x, x = L.getD 7 false := ⟨_, rfl⟩
      obtain ⟨x8, hx8⟩ : ∃ x, x = L.getD 8 false := ⟨_, rfl⟩
      obtain ⟨x9, hx9⟩ : ∃ x, x = L.getD 9 false := ⟨_, rfl⟩
      obtain ⟨x10, hx10⟩ : ∃ x, x = L.getD 10 false := ⟨_, rfl⟩
      obtain ⟨x11, hx11⟩ : ∃ x, x = L.getD 11 false := ⟨_, rfl⟩
      obtain ⟨x12, hx12⟩ : ∃ x, x = L.getD 12 false := ⟨_, rfl⟩
      obtain ⟨x13, hx13⟩ : ∃ x, x = L.getD 13 false := ⟨_, rfl⟩
      rw [← hx0, ← hx1, ← hx2, ← hx3, ← hx4, ← hx5, ← hx6, ← hx7, ← hx8, ← hx9, ← hx10, ← hx11, ← hx12, ← hx13]
      have HK : Hid (∀ F, F = actY a b q A C w w1 w3 w4 w5 y13 x0 x1 x2 x3 x4 x5 x6 x7 true x9 x10 x11 x12 x13 → RelY a b q A C w w1 w3 w4 w5 w8 (L.setIfInBounds 8 true) F v) := hide (fun F hF => RelY.keep hV h13 (Below.refl _ v) (by rw [G]; rfl) (by rw [hF, G, G, G, G, G, G, G, G, G, G, G, G, G, G, hx0, hx1, hx2, hx3, hx4, hx5, hx6, hx7, hx9, hx10, hx11, hx12, hx13]; rfl))
      unfold actY
      clear h13 hV hd hx0 hx1 hx2 hx3 hx4 hx5 hx6 hx7 hx8 hx9 hx10 hx11 hx12 hx13 G hf hL hi
      go_wp2_with fail
      exact HK.out _ rfl
    · have G := fun j => getD_set (j := j) hL hi
      obtain ⟨x0, hx0⟩ : ∃ x, x = L.getD 0 false := ⟨_, rfl⟩
      obtain ⟨x1, hx1⟩ : ∃ x, x = L.getD 1 false := ⟨_, rfl⟩
      obtain ⟨x2, hx2⟩ : ∃ x, x = L.getD 2 false := ⟨_, rfl⟩
      obtain ⟨x3, hx3⟩ : ∃ x, x = L.getD 3 false := ⟨_, rfl⟩
      obtain ⟨x4, hx4⟩ : ∃ x, x = L.getD 4 false := ⟨_, rfl⟩
      obtain ⟨x5, hx5⟩ : ∃ x, x = L.getD 5 false := ⟨_, rfl⟩
      obtain ⟨x6, hx6⟩ : ∃ x, x = L.getD 6 false := ⟨_, rfl⟩
      obtain ⟨x7, hx7⟩ : ∃ x, x = L.getD 7 false := ⟨_, rfl⟩
      obtain ⟨x8, hx8⟩ : ∃ x, x = L.getD 8 false := ⟨_, rfl⟩
      obtain ⟨x9, hx9⟩ : ∃ x, x = L.getD 9 false := ⟨_, rfl⟩
      obtain ⟨x10, hx10⟩ : ∃ x, x = L.getD 10 false := ⟨_, rfl⟩
      obtain ⟨x11, hx11⟩ : ∃ x, x = L.getD 11 false := ⟨_, rfl⟩
      obtain ⟨x12, hx12⟩ : ∃ x, x = L.getD 12 false := ⟨_, rfl⟩
      obtain ⟨x13, hx13⟩ : ∃ x, x = L.getD 13 false := ⟨_, rfl⟩
      rw [← hx0, ← hx1, ← hx2, ← hx3, ← hx4, ← hx5, ← hx6, ← hx7, ← hx8, ← hx9, ← hx10, ← hx11, ← hx12, ← hx13]
      have hdep8 : x8 = true := by rw [hx8]; exact hd 8 (waitsB_iff.1 (by kernel_rfl))
      have HK : Hid (∀ F, F = actY a b q A C w w1 w3 w4 w5 y13 x0 x1 x2 x3 x4 x5 x6 x7 x8 true x10 x11 x12 x13 → RelY a b q A C w w1 w3 w4 w5 w8 (L.setIfInBounds 9 true) F v) := hide (fun F hF => RelY.keep hV h13 (Below.refl _ v) (by rw [G]; rfl) (by rw [hF, G, G, G, G, G, G, G, G, G, G, G, G, G, G, hx0, hx1, hx2, hx3, hx4, hx5, hx6, hx7, hx8, hx10, hx11, hx12, hx13]; rfl))
      have e0 := below_blk hV Z3.out (lt_blk Z3.out)
      have l0 := lt_blk e0
      have k0_2 := cell_blk e0 2
      unfold actY
      clear h13 hV hd e0 hx0 hx1 hx2 hx3 hx4 hx5 hx6 hx7 hx8 hx9 hx10 hx11 hx12 hx13 G hf hL hi
      subst hdep8
      simp only [sel_t]
      go_wp2_with fail
      exact HK.out _ rfl
    · have G := fun j => getD_set (j := j) hL hi
      obtain ⟨x0, hx0⟩ : ∃ x, x = L.getD 0 false := ⟨_, rfl⟩
      obtain ⟨x1, hx1⟩ : ∃ x, x = L.getD 1 false := ⟨_, rfl⟩
      obtain ⟨x2, hx2⟩ : ∃ x, x = L.getD 2 false := ⟨_, rfl⟩
      obtain ⟨x3, hx3⟩ : ∃ x, x = L.getD 3 false := ⟨_, rfl⟩
      obtain ⟨x4, hx4⟩ : ∃ x, x = L.getD 4 false := ⟨_, rfl⟩
      obtain ⟨x5, hx5⟩ : ∃ x, x = L.getD 5 false := ⟨_, rfl⟩
      obtain ⟨x6, hx6⟩ : ∃ x, x = L.getD 6 false := ⟨_, rfl⟩
      obtain ⟨x7, hx7⟩ : ∃ x, x = L.getD 7 false := ⟨_, rfl⟩
      obtain ⟨x8, hx8⟩ : ∃ x, x = L.getD 8 false := ⟨_, rfl⟩
      obtain ⟨x9, hx9⟩ : ∃ x, x = L.getD 9 false := ⟨_, rfl⟩
      obtain ⟨x10, hx10⟩ : ∃ x, x = L.getD 10 false := ⟨_, rfl⟩
      obtain ⟨x11, hx11⟩ : ∃ x, x = L.getD 11 false := ⟨_, rfl⟩
      obtain ⟨x12, hx12⟩ : ∃ x, x = L.getD 12 false := ⟨_, rfl⟩
      obtain ⟨x13, hx13⟩ : ∃ x, x = L.getD 13 false := ⟨_, rfl⟩
      rw [← hx0, ← hx1, ← hx2, ← hx3, ← hx4, ← hx5, ← hx6, ← hx7, ← hx8, ← hx9, ← hx10, ← hx11, ← hx12, ← hx13]
      have hdep9 : x9 = true := by rw [hx9]; exact hd 9 (waitsB_iff.1 (by kernel_rfl))
      have HK : Hid (∀ F, F = actY a b q A C w w1 w3 w4 w5 y13 x0 x1 x2 x3 x4 x5 x6 x7 x8 x9 true x11 x12 x13 → RelY a b q A C w w1 w3 w4 w5 w8 (L.setIfInBounds 10 true) F v) := hide (fun F hF => RelY.keep hV h13 (Below.refl _ v) (by rw [G]; rfl) (by rw [hF, G, G, G, G, G, G, G, G, G, G, G, G, G, G, hx0, hx1, hx2, hx3, hx4, hx5, hx6, hx7, hx8, hx9, hx11, hx12, hx13]; rfl))
      unfold actY
      clear h13 hV hd hx0 hx1 hx2 hx3 hx4 hx5 hx6 hx7 hx8 hx9 hx10 hx11 hx12 hx13 G hf hL hi
      subst hdep9
      simp only [sel_t]
      go_wp2_with fail
      exact HK.out _ rfl
    · have G := fun j => getD_set (j := j) hL hi
      obtain ⟨x0, hx0⟩ : ∃ x, x = L.getD 0 false := ⟨_, rfl⟩
      obtain ⟨x1, hx1⟩ : ∃ x, x = L.getD 1 false := ⟨_, rfl⟩
      obtain ⟨x2, hx2⟩ : ∃ x, x = L.getD 2 false := ⟨_, rfl⟩
      obtain ⟨x3, hx3⟩ : ∃ x, x = L.getD 3 false := ⟨_, rfl⟩
      obtain ⟨x4, hx4⟩ : ∃ x, x = L.getD 4 false := ⟨_, rfl⟩
      obtain ⟨x5, hx5⟩ : ∃ x, x = L.getD 5 false := ⟨_, rfl⟩
      obtain ⟨x6, hx6⟩ : ∃ x, x = L.getD 6 false := ⟨_, rfl⟩
      obtain ⟨x7, hx7⟩ : ∃ x, x = L.getD 7 false := ⟨_, rfl⟩
      obtain ⟨x8, hx8⟩ : ∃ x, x = L.getD 8 false := ⟨_, rfl⟩
      obtain ⟨x9, hx9⟩ : ∃ x, x = L.getD 9 false := ⟨_, rfl⟩
      obtain ⟨x10, hx10⟩ : ∃ x, x = L.getD 10 false := ⟨_, rfl⟩
      obtain ⟨x11, hx11⟩ : ∃ x, x = L.getD 11 false := ⟨_, rfl⟩
      obtain ⟨x12, hx12⟩ : ∃ x, x = L.getD 12 false := ⟨_, rfl⟩
      obtain ⟨x13, hx13⟩ : ∃ x, x = L.getD 13 false := ⟨_, rfl⟩
      rw [← hx0, ← hx1, ← hx2, ← hx3, ← hx4, ← hx5, ← hx6, ← hx7, ← hx8, ← hx9, ← hx10, ← hx11, ← hx12, ← hx13]
      have hdep10 : x10 = true := by rw [hx10]; exact hd 10 (waitsB_iff.1 (by kernel_rfl))
      have HK : Hid (∀ (v2 : World) F, Below v.heap.size v v2 → F = actY a b q A C w w1 w3 w4 w5 y13 x0 x1 x2 x3 x4 x5 x6 x7 x8 x9 x10 true x12 x13 → RelY a b q A C w w1 w3 w4 w5 w8 (L.setIfInBounds 11 true) F v2) := hide (fun v2 F hb hF => RelY.keep hV h13 hb (by rw [G]; rfl) (by rw [hF, G, G, G, G, G, G, G, G, G, G, G, G, G, G, hx0, hx1, hx2, hx3, hx4, hx5, hx6, hx7, hx8, hx9, hx10, hx12, hx13]; rfl))
      have HV := hide hV
      unfold actY
      clear h13 hV hd hx0 hx1 hx2 hx3 hx4 hx5 hx6 hx7 hx8 hx9 hx10 hx11 hx12 hx13 G hf hL hi
      subst hdep10
      simp only [sel_t]
      go_wp2_with fail
      refine (HX2.out v (Nat.le_trans hB8 HV.out.size) (HP8.out.on HV.out hB8)).mono ?_
      rintro e v2 ⟨rfl, hb2⟩
      have HK2 := hide (HK.out v2)
      have HB2 := hide hb2
      clear hb2 HK
      go_wp2_with fail
      exact HK2.out _ HB2.out rfl
    · have G := fun j => getD_set (j := j) hL hi
      obtain ⟨x0, hx0⟩ : ∃ x, x = L.getD 0 false := ⟨_, rfl⟩
      obtain ⟨x1, hx1⟩ : ∃ x, x = L.getD 1 false := ⟨_, rfl⟩
      obtain ⟨x2, hx2⟩ : ∃ x, x = L.getD 2 false := ⟨_, rfl⟩
      obtain ⟨x3, hx3⟩ : ∃ x, x = L.getD 3 false := ⟨_, rfl⟩
      obtain ⟨x4, hx4⟩ : ∃ x, x = L.getD 4 false := ⟨_, rfl⟩
      obtain ⟨x5, hx5⟩ : ∃ x, x = L.getD 5 false := ⟨_, rfl⟩
      obtain ⟨x6, hx6⟩ : ∃ x, x = L.getD 6 false := ⟨_, rfl⟩
      obtain ⟨x7, hx7⟩ : ∃ x, x = L.getD 7 false := ⟨_, rfl⟩
      obtain ⟨x8, hx8⟩ : ∃ x, x = L.getD 8 false := ⟨_, rfl⟩
      obtain ⟨x9, hx9⟩ : ∃ x, x = L.getD 9 false := ⟨_, rfl⟩
      obtain ⟨x10, hx10⟩ : ∃ x, x = L.getD 10 false := ⟨_, rfl⟩
      obtain ⟨x11, hx11⟩ : ∃ x, x = L.getD 11 false := ⟨_, rfl⟩
      obtain ⟨x12, hx12⟩ : ∃ x, x = L.getD 12 false := ⟨_, rfl⟩
      obtain ⟨x13, hx13⟩ : ∃ x, x = L.getD 13 false := ⟨_, rfl⟩
      rw [← hx0, ← hx1, ← hx2, ← hx3, ← hx4, ← hx5, ← hx6, ← hx7, ← hx8, ← hx9, ← hx10, ← hx11, ← hx12, ← hx13]
      have hdep3 : x3 = true := by rw [hx3]; exact hd 3 (waitsB_iff.1 (by kernel_rfl))
      have hdep7 : x7 = true := by rw [hx7]; exact hd 7 (waitsB_iff.1 (by kernel_rfl))
      have hdep11 : x11 = true := by rw [hx11]; exact hd 11 (waitsB_iff.1 (by kernel_rfl))
      have HK : Hid (∀ (v2 : World) F, Below v.heap.size v v2 → F = actY a b q A C w w1 w3 w4 w5 y13 x0 x1 x2 x3 x4 x5 x6 x7 x8 x9 x10 x11 true x13 → RelY a b q A C w w1 w3 w4 w5 w8 (L.setIfInBounds 12 true) F v2) := hide (fun v2 F hb hF => RelY.keep hV h13 hb (by rw [G]; rfl) (by rw [hF, G, G, G, G, G, G, G, G, G, G, G, G, G, G, hx0, hx1, hx2, hx3, hx4, hx5, hx6, hx7, hx8, hx9, hx10, hx11, hx13]; rfl))
      have HV := hide hV
      unfold actY
      clear h13 hV hd hx0 hx1 hx2 hx3 hx4 hx5 hx6 hx7 hx8 hx9 hx10 hx11 hx12 hx13 G hf hL hi
      subst hdep3
      subst hdep7
      subst hdep11
      simp only [sel_t]
      go_wp2_with fail
      refine (HSP.out _ _ _ v).mono ?_
      rintro e v2 ⟨rfl, hb2⟩
      have HK2 := hide (HK.out v2)
      have HB2 := hide hb2
      clear hb2 HK
      go_wp2_with fail
      exact HK2.out _ HB2.out rfl
    · have G := fun j => getD_set (j := j) hL hi
      obtain ⟨x0, hx0⟩ : ∃ x, x = L.getD 0 false := ⟨_, rfl⟩
      obtain ⟨x1, hx1⟩ : ∃ x, x = L.getD 1 false := ⟨_, rfl⟩
      obtain ⟨x2, hx2⟩ : ∃ x, x = L.getD 2 false := ⟨_, rfl⟩
      obtain ⟨x3, hx3⟩ : ∃ x, x = L.getD 3 false := ⟨_, rfl⟩
      obtain ⟨x4, hx4⟩ : ∃ x, x = L.getD 4 false := ⟨_, rfl⟩
      obtain ⟨x5, hx5⟩ : ∃ x, x = L.getD 5 false := ⟨_, rfl⟩
      obtain ⟨x6, hx6⟩ : ∃ x, x = L.getD 6 false := ⟨_, rfl⟩
      obtain ⟨x7, hx7⟩ : ∃ x, x = L.getD 7 false := ⟨_, rfl⟩
      obtain ⟨x8, hx8⟩ : ∃ x, x = L.getD 8 false := ⟨_, rfl⟩
      obtain ⟨x9, hx9⟩ : ∃ x, x = L.getD 9 false := ⟨_, rfl⟩
      obtain ⟨x10, hx10⟩ : ∃ x, x = L.getD 10 false := ⟨_, rfl⟩
      obtain ⟨x11, hx11⟩ : ∃ x, x = L.getD 11 false := ⟨_, rfl⟩
      obtain ⟨x12, hx12⟩ : ∃ x, x = L.getD 12 false := ⟨_, rfl⟩
      obtain ⟨x13, hx13⟩ : ∃ x, x = L.getD 13 false := ⟨_, rfl⟩
      rw [← hx0, ← hx1, ← hx2, ← hx3, ← hx4, ← hx5, ← hx6, ← hx7, ← hx8, ← hx9, ← hx10, ← hx11, ← hx12, ← hx13]
      have HK : Hid (∀ F, F = actY a b q A C w w1 w3 w4 w5 v.heap.size x0 x1 x2 x3 x4 x5 x6 x7 x8 x9 x10 x11 x12 true → RelY a b q A C w w1 w3 w4 w5 w8 (L.setIfInBounds 13 true) F (v.alloc (spotO ⟨#[]⟩ ⟨#[]⟩ ⟨#[]⟩))) := hide (fun F hF => ⟨v.heap.size, by rw [hF, G, G, G, G, G, G, G, G, G, G, G, G, G, G, hx0, hx1, hx2, hx3, hx4, hx5, hx6, hx7, hx8, hx9, hx10, hx11, hx12]; rfl, hV.trans ((heap1 v (spotO ⟨#[]⟩ ⟨#[]⟩ ⟨#[]⟩)).2.2.mono hV.size), (fun _ => ⟨hV.size, heap_alloc_new v _⟩)⟩)
      unfold actY
      clear h13 hV hd hx0 hx1 hx2 hx3 hx4 hx5 hx6 hx7 hx8 hx9 hx10 hx11 hx12 hx13 G hf hL hi
      go_wp2_with fail
      exact HK.out _ rfl
  · intro F v hS
    obtain ⟨y13, rfl, hV, h13⟩ := hS
    have Q13 := hide (h13 rfl).2
    have q13 := (h13 rfl).1
    simp only [List.drop_succ_cons, List.drop_zero]
    show wpList _ _ _ _ (actY a b q A C w w1 w3 w4 w5 y13 true true true true true true true true true true true true true true) v
    unfold actY
    simp only [sel_t]
    have ne1 : y13 ≠ w1.heap.size := by have := lt_blk M1.out; omega
    have ne2 : y13 ≠ w1.heap.size + 1 := by have := lt_blk M2.out; omega
    have ne3 : y13 ≠ w5.heap.size := by have := lt_blk D3.out; omega
    have M1 := hide (below_blk hV M1.out (lt_blk M1.out))
    have M2 := hide (below_blk hV M2.out (lt_blk M2.out))
    have D3 := hide (below_blk hV D3.out (lt_blk D3.out))
    have HB9 := hide (HB8.out.trans (hV.mono HB8.out.size))
    have hy : w.heap.size ≤ y13 := Nat.le_trans HB8.out.size q13
    have M1 := hide (set_other (o := 2) (set_other (o := 1) (set_other (o := 0) M1.out ne1 (.string (T (Rat.divInt q.x 2)))) ne1 (.string (T (Rat.divInt q.y 2)))) ne1 (.string (T (Rat.divInt q.z 2))))
    have M2 := hide (set_other (o := 2) (set_other (o := 1) (set_other (o := 0) M2.out ne2 (.string (T (Rat.divInt q.x 2)))) ne2 (.string (T (Rat.divInt q.y 2)))) ne2 (.string (T (Rat.divInt q.z 2))))
    have D3 := hide (set_other (o := 2) (set_other (o := 1) (set_other (o := 0) D3.out ne3 (.string (T (Rat.divInt q.x 2)))) ne3 (.string (T (Rat.divInt q.y 2)))) ne3 (.string (T (Rat.divInt q.z 2))))
    have U19 := hide (set3c (set3b (set3a Q13.out (.string (T (Rat.divInt q.x 2)))) (.string (T (Rat.divInt q.y 2)))) (.string (T (Rat.divInt q.z 2))))
    have HBU := hide (below_spot HB9.out hy (.string (T (Rat.divInt q.x 2))) (.string (T (Rat.divInt q.y 2))) (.string (T (Rat.divInt q.z 2))))
    have s0 := cell_blk Q13.out 0
    have s1 := cell_blk Q13.out 1
    have s2 := cell_blk Q13.out 2
    have f0 := froz_blk Q13.out 0
    have f1 := froz_blk Q13.out 1
    have f2 := froz_blk Q13.out 2
    have sl := lt_blk Q13.out
    clear ne1 ne2 ne3 hV h13 q13 hy qx0 qx1 qy0 qy1 qz0 qz1 HX0 HX1 HX2 hB8
    have c0 := cell_blk M1.out 0
    have c1 := cell_blk M1.out 1
    have c2 := cell_blk M1.out 2
    have c3 := cell_blk M1.out 3
    have c4 := cell_blk M1.out 4
    have c5 := cell_blk M1.out 5
    have c6 := cell_blk M1.out 6
    have c7 := cell_blk M1.out 7
    have c8 := cell_blk M1.out 8
    have c9 := cell_blk M1.out 9
    have c10 := cell_blk M1.out 10
    have cl := lt_blk M1.out
    have t0 := cell_blk U19.out 0
    have t1 := cell_blk U19.out 1
    have t2 := cell_blk U19.out 2
    have tl := lt_blk U19.out
    go_wp2_with fail
    clear s0 s1 s2 f0 f1 f2 sl
    refine (HM1.out _ (Nat.le_trans hB HBU.out.size) (HT.out.on HBU.out hB)).mono ?_
    rintro e w10 ⟨rfl, hb10⟩
    have M2 := hide (below_blk hb10 M2.out (lt_blk M2.out))
    have D3 := hide (below_blk hb10 D3.out (lt_blk D3.out))
    have U19 := hide (below_blk hb10 U19.out (lt_blk U19.out))
    have HB10 := hide (HBU.out.trans (hb10.mono HBU.out.size))
    clear hb10 c0 c1 c2 c3 c4 c5 c6 c7 c8 c9 c10 cl t0 t1 t2 tl
    have c0 := cell_blk M2.out 0
    have c1 := cell_blk M2.out 1
    have c2 := cell_blk M2.out 2
    have c3 := cell_blk M2.out 3
    have c4 := cell_blk M2.out 4
    have c5 := cell_blk M2.out 5
    have c6 := cell_blk M2.out 6
    have c7 := cell_blk M2.out 7
    have c8 := cell_blk M2.out 8
    have c9 := cell_blk M2.out 9
    have c10 := cell_blk M2.out 10
    have cl := lt_blk M2.out
    have t0 := cell_blk U19.out 0
    have t1 := cell_blk U19.out 1
    have t2 := cell_blk U19.out 2
    have tl := lt_blk U19.out
    go_wp2_with fail
    refine (HM2.out _ (Nat.le_trans hB HB10.out.size) (HT.out.on HB10.out hB)).mono ?_
    rintro e w11 ⟨rfl, hb11⟩
    have D3 := hide (below_blk hb11 D3.out (lt_blk D3.out))
    have HB11 := hide (HB10.out.trans (hb11.mono HB10.out.size))
    clear hb11 c0 c1 c2 c3 c4 c5 c6 c7 c8 c9 c10 cl t0 t1 t2 tl
    have HSC := hide (fun (a b c : ByteArray) (x : Of (Below w11.heap.size w11)) => lspot_cls a b c w11.heap.size w11 (Nat.le_refl _) x)
    have HAC := hide (fun (x : Of (Below w11.heap.size w11)) => show Calls Tryz.prog 18 #[] x.w fun e w' => e = .returned (.bool true) ∧ Cls (Below w11.heap.size w11) w' from (HAW.out x.w (Nat.le_trans hB (Nat.le_trans HB11.out.size x.h.size)) ((HT.out.on HB11.out hB).on x.h (Nat.le_trans hB HB11.out.size))).mono fun _ _ ⟨h, hb⟩ => ⟨h, Cls.mk (x.h.trans (hb.mono (by have := x.h.size; omega)))⟩)
    have hmx := mx8
    have he1 := fun w => eqZ w
    go_wp2_with fail
    have hx3 : ∀ x : Of (Below w11.heap.size w11), ∀ o, x.w.cell? ⟨w5.heap.size, o, none⟩ = w11.cell? ⟨w5.heap.size, o, none⟩ := fun x o => x.h.cell (p := ⟨w5.heap.size, o, none⟩) (lt_blk D3.out)
    have c3 := fun o => cell_blk D3.out o
    refine region_class (C := Cls (Below w11.heap.size w11)) (by kernel_rfl) (by kernel_rfl) (by kernel_rfl) (Cls.mk (Below.refl _ _).drew) ?_
    repeat (go_big_quiet_step (first | with_reducible exact HSC.out _ _ _ _ | with_reducible exact HAC.out _))
    refine wpQuiet_nil ?_
    intro w12 hcl
    have HB12 := hide (HB11.out.trans (hcl.out.mono HB11.out.size))
    clear hcl hx3 c3 HSC HAC he1 hmx
    go_wp2_with fail
    go_ret
    exact ⟨rfl, HB12.out⟩
end Go.Proofs.YtbfojhneajedmaaGreatDoor
namespace Go.Proofs.YtbfojhneajedmaaGreatDoor
open Go.ChangeShapes Go.WideShapes Go.RowKit Go.KP Go.KI

set_option maxRecDepth 100000 in
theorem open_i3 {W : World} {base : Nat} {v : Value} (h : Value.okWide Tryz.prog W .any base 41 v) : ∃ a : I3, v = .agg #[.int .i8 a.x, .int .i8 a.y, .int .i8 a.z] ∧ small3 a := by
  have u := Tryz.underlying41
  simp only [Value.okWide, u] at h
  obtain ⟨cs, rfl, hsz, ts, hts, _, hi⟩ := h
  have hts2 : Tryz.prog.cellTypes Tryz.prog.depth 41 = some [40, 40, 40] := by kernel_rfl
  rw [hts2] at hts
  obtain rfl := Option.some.inj hts
  have hC : Tryz.prog.cellsOf 41 = 3 := by kernel_rfl
  rw [hC] at hsz
  obtain ⟨l⟩ := cs
  match l, hsz with
  | [c0, c1, c2], _ =>
    have key : ∀ (i : Nat) (v : Value), i < 3 → (#[c0, c1, c2] : Array Value)[i]? = some v → ∃ n : Int, v = .int .i8 n ∧ -128 ≤ n ∧ n ≤ 127 := by
      intro i v hlt hv
      obtain ⟨t, ht, hc⟩ := hi i v hv
      have e : t = 40 := by
        rw [show i % [40, 40, 40].length = i from Nat.mod_eq_of_lt hlt] at ht
        have : i = 0 ∨ i = 1 ∨ i = 2 := by omega
        rcases this with rfl | rfl | rfl <;> simpa using ht.symm
      rw [e] at hc
      exact cell_i8 hc
    obtain ⟨n0, rfl, a0⟩ := key 0 _ (by omega) rfl
    obtain ⟨n1, rfl, a1⟩ := key 1 _ (by omega) rfl
    obtain ⟨n2, rfl, a2⟩ := key 2 _ (by omega) rfl
    exact ⟨⟨n0, n1, n2⟩, rfl, ⟨a0, a1, a2⟩⟩
end Go.Proofs.YtbfojhneajedmaaGreatDoor
