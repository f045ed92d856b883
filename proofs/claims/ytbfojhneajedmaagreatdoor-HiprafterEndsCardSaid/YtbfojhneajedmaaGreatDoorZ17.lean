/-
  Texts of the integers, laid together: Yl.
-/
import Derived.Test.YtbfojhneajedmaaGreatDoorZ16
namespace Go.Proofs.YtbfojhneajedmaaGreatDoor
open Go.RowKit Go.KP Go.KI Go.Shelf
attribute [local go_sem] Oper.semAt_some

/-- A direction in plan. -/
def vflat (d : V3) : V3 := ⟨d.x, d.y, 0⟩
theorem vadd_sub_self (a c : V3) : vadd a (vsub c a) = c := V3.ext (by unfold vadd vsub; grind) (by unfold vadd vsub; grind) (by unfold vadd vsub; grind)
theorem side_dot (d : V3) : vdot d (vside d) = 0 := by unfold vdot vside; grind
theorem side_self (d : V3) : vdot (vside d) (vside d) = vdot (vflat d) (vflat d) := by unfold vdot vside vflat; grind
theorem side_cross (d : V3) : vcross (vflat d) (vside d) = ⟨0, 0, vdot (vflat d) (vflat d)⟩ := V3.ext (by unfold vcross vside vflat; grind) (by unfold vcross vside vflat; grind) (by unfold vcross vside vflat vdot; grind)
theorem s1z : sz 1 (0 : Rat) := ⟨by decide, by decide⟩
theorem szV_side {p : Nat} {d : V3} (h : szV p d) (hp : 1 ≤ p) : szV (p + 2) (vside d) := ⟨sz_mono (sz_sub s1z h.2.1) (by omega), sz_mono h.1 (by omega), sz_mono s1z (by omega)⟩
theorem szV_flat {p : Nat} {d : V3} (h : szV p d) (hp : 1 ≤ p) : szV p (vflat d) := ⟨h.1, h.2.1, sz_mono s1z hp⟩
theorem mx4 (w : World) : (Builtin.max_ #[31, 31, 31, 31] 31 #[.int .i64 0, .int .i64 0, .int .i64 0, .int .i64 0]).run Tryz.prog w = .ok (.int .i64 0) w := by kernel_rfl
set_option maxRecDepth 100000 in
theorem eqSpotV (a b : V3) (w : World) : (Op.equalIn 10000 24 (.agg #[.string (T a.x), .string (T a.y), .string (T a.z)]) (.agg #[.string (T b.x), .string (T b.y), .string (T b.z)])).run Tryz.prog w = .ok (decide (a = b)) w := eqSpot_T a b w
def actD (a b : I3) (A C d : V3) (F0 : Rat) (Y : ByteArray) (w w1 w2 w3 w5 : World) (y10 : Nat) (x0 x1 x2 x3 x4 x5 x6 x7 x8 x9 x10 _x11 _x12 : Bool) : Act := { tmps := #[smallV a b, Value.pointer (some { block := w.heap.size, off := 0 }), Value.bool false, Value.pointer (some { block := w1.heap.size, off := 0 }), Value.pointer (some { block := w2.heap.size, off := 0 }), Value.int IntKind.i64 0, Value.pointer (some { block := w3.heap.size, off := 0 }), Value.int IntKind.i64 0, Value.string (T d.z), Value.int IntKind.i64 0, Value.pointer (some { block := w5.heap.size, off := 0 }), Value.int IntKind.i64 0, Value.string { data := #[48] }, sel x10 (.pointer (some ⟨y10, 0, none⟩)), undef, undef, Value.agg #[Value.int IntKind.i8 a.x, Value.int IntKind.i8 a.y, Value.int IntKind.i8 a.z, Value.int IntKind.i8 b.x, Value.int IntKind.i8 b.y, Value.int IntKind.i8 b.z], memV 6 1 0 A C 80 220, Value.tuple #[vecV d, Value.int IntKind.i64 0], Value.agg #[Value.int IntKind.i64 6, Value.int IntKind.i64 1, Value.int IntKind.i64 0, Value.string (T A.x), Value.string (T A.y), Value.string (T A.z), Value.string (T C.x), Value.string (T C.y), Value.string (T C.z), Value.int IntKind.i64 80, Value.int IntKind.i64 220], Value.tuple #[vecV d, Value.int IntKind.i64 0], vecV d, Value.int IntKind.i64 0, Value.tuple #[spotV Y (T d.x) b0, Value.int IntKind.i64 0], Value.agg #[Value.int IntKind.i64 6, Value.int IntKind.i64 1, Value.int IntKind.i64 0, Value.string (T A.x), Value.string (T A.y), Value.string (T A.z), Value.string (T C.x), Value.string (T C.y), Value.string (T C.z), Value.int IntKind.i64 80, Value.int IntKind.i64 220], Value.tuple #[spotV Y (T d.x) b0, Value.int IntKind.i64 0], spotV Y (T d.x) b0, Value.int IntKind.i64 0, Value.tuple #[Value.string (T d.z), Value.int IntKind.i64 0], Value.agg #[Value.int IntKind.i64 6, Value.int IntKind.i64 1, Value.int IntKind.i64 0, Value.string (T A.x), Value.string (T A.y), Value.string (T A.z), Value.string (T C.x), Value.string (T C.y), Value.string (T C.z), Value.int IntKind.i64 80, Value.int IntKind.i64 220], Value.tuple #[Value.string (T d.z), Value.int IntKind.i64 0], Value.string (T d.z), Value.int IntKind.i64 0, Value.tuple #[vecV C, Value.int IntKind.i64 0], Value.pointer (some { block := w1.heap.size, off := 3 }), Value.agg #[Value.string (T A.x), Value.string (T A.y), Value.string (T A.z)], Value.agg #[Value.string (T d.x), Value.string (T d.y), Value.string (T d.z)], Value.tuple #[vecV C, Value.int IntKind.i64 0], vecV C, Value.int IntKind.i64 0, Value.int IntKind.i64 0, Value.int IntKind.i64 0, Value.int IntKind.i64 0, Value.int IntKind.i64 0, Value.int IntKind.i64 0, Value.bool false, Value.bool false, Value.agg #[Value.string (T C.x), Value.string (T C.y), Value.string (T C.z)], Value.pointer (some { block := w1.heap.size, off := 6 }), Value.agg #[Value.string (T C.x), Value.string (T C.y), Value.string (T C.z)], Value.bool false, Value.bool false, Value.bool false, Value.pointer (some { block := w3.heap.size, off := 2 }), Value.string b0, Value.bool false, Value.bool false, Value.bool false, Value.string (T d.z), Value.pointer (some { block := w2.heap.size, off := 2 }), Value.string (T d.z), Value.bool false, Value.bool false, Value.tuple #[Value.string { data := #[48] }, Value.int IntKind.i64 0], Value.agg #[Value.string (T d.x), Value.string (T d.y), Value.string (T d.z)], Value.agg #[Value.string Y, Value.string (T d.x), Value.string b0], Value.tuple #[Value.string { data := #[48] }, Value.int IntKind.i64 0], Value.string { data := #[48] }, Value.int IntKind.i64 0, sel x7 (.tuple #[spotV b0 b0 (T F0), .int .i64 0]), sel x0 (.pointer (some ⟨w2.heap.size, 0, none⟩)), sel x1 (.string (T d.x)), sel x2 (.pointer (some ⟨w2.heap.size, 1, none⟩)), sel x3 (.string (T d.y)), sel x4 (spotV (T d.x) (T d.y) b0), sel x5 (spotV Y (T d.x) b0), sel x6 (.tuple #[spotV b0 b0 (T F0), .int .i64 0]), sel x8 (spotV b0 b0 (T F0)), sel x9 (.int .i64 0), undef, undef, undef, undef, undef, undef, undef, undef, undef, undef, undef, undef, undef, undef, undef, undef, undef, undef, undef, undef, undef, undef, undef, undef, undef, undef, undef, undef, undef, undef, undef, undef, undef, undef, undef, undef, undef, undef, undef, undef, undef, undef, undef, undef], defers := [] }
def RelD (a b : I3) (A C d : V3) (F0 : Rat) (Y : ByteArray) (w w1 w2 w3 w5 : World) (W0 : World) (L : Array Bool) (F : Act) (wz : World) : Prop :=
  ∃ y10, F = actD a b A C d F0 Y w w1 w2 w3 w5 y10 (L.getD 0 false) (L.getD 1 false) (L.getD 2 false) (L.getD 3 false) (L.getD 4 false) (L.getD 5 false) (L.getD 6 false) (L.getD 7 false) (L.getD 8 false) (L.getD 9 false) (L.getD 10 false) (L.getD 11 false) (L.getD 12 false) ∧ Below W0.heap.size W0 wz ∧ (L.getD 10 false = true → W0.heap.size ≤ y10 ∧ wz.heap[y10]? = some (cond ((L.getD 11 false)) (spotO b0 b0 (T F0)) (spotO ⟨#[]⟩ ⟨#[]⟩ ⟨#[]⟩))) ∧ (L.getD 11 false = true → L.getD 10 false = true)
theorem RelD.keep {a b : I3} {A C d : V3} {F0 : Rat} {Y : ByteArray} {w w1 w2 w3 w5 : World} {W0 wz wz' : World} {L L' : Array Bool} {F : Act} {y10 : Nat} (hB : Below W0.heap.size W0 wz) (h10 : L.getD 10 false = true → W0.heap.size ≤ y10 ∧ wz.heap[y10]? = some (cond ((L.getD 11 false)) (spotO b0 b0 (T F0)) (spotO ⟨#[]⟩ ⟨#[]⟩ ⟨#[]⟩))) (g10 : L.getD 11 false = true → L.getD 10 false = true) (hb : Below wz.heap.size wz wz') (e10 : L'.getD 10 false = L.getD 10 false) (e11 : L'.getD 11 false = L.getD 11 false) (hF : F = actD a b A C d F0 Y w w1 w2 w3 w5 y10 (L'.getD 0 false) (L'.getD 1 false) (L'.getD 2 false) (L'.getD 3 false) (L'.getD 4 false) (L'.getD 5 false) (L'.getD 6 false) (L'.getD 7 false) (L'.getD 8 false) (L'.getD 9 false) (L'.getD 10 false) (L'.getD 11 false) (L'.getD 12 false)) : RelD a b A C d F0 Y w w1 w2 w3 w5 W0 L' F wz' := by
  refine ⟨y10, hF, hB.trans (hb.mono hB.size), ?_, ?_⟩
  · rw [e10, e11]
    intro h
    exact ⟨(h10 h).1, below_blk hb (h10 h).2 (lt_blk (h10 h).2)⟩
  · rw [e11, e10]
    exact g10
set_option maxRecDepth 100000 in
set_option maxHeartbeats 16000000 in
theorem lawDirections_any {a b : I3} (ha : small3 a) (hb : small3 b) (B : Nat) (w : World) (hB : B ≤ w.heap.size) (hT : PQ B w) :
    Calls Tryz.prog 8 #[smallV a b] w (Ret w (.bool true)) := by
  have HT := hide hT
  have HOF := hide (lof_to ha hb B)
  have HAW := hide (fun w hB hT => hawake_any B w hB hT)
  have hm := small_mem ha hb
  have sa := v3_sz ha
  have sc := v3_sz (moved_small (a := a) hb)
  obtain ⟨A, hA⟩ : ∃ A, A = v3 a := ⟨_, rfl⟩
  obtain ⟨C, hC⟩ : ∃ A, A = v3 (moved a b) := ⟨_, rfl⟩
  rw [← hA, ← hC] at HOF hm
  rw [← hA] at sa
  rw [← hC] at sc
  have sd : szV 7 (vsub C A) := szV_sub sc sa
  have HD := hide (fun w hB hT => hDirection_to hm B w hB hT)
  have HS := hide (fun w hB hT => hSide_to hm B w hB hT)
  have HR := hide (fun w hB hT => hRise_to hm B w hB hT)
  have hadd := vadd_sub_self A C
  obtain ⟨d, hd⟩ : ∃ d, d = vsub C A := ⟨_, rfl⟩
  rw [← hd] at sd HD HS HR hadd
  have HV := hide (fun w hB hT => (vAdd_O (szV_fits sa (by rw [most_eq]; omega)) (szV_fits sd (by rw [most_eq]; omega)) B w hB hT).mono fun _ _ hr => ResV.of (add2_sz sa sd (by rw [most_eq]; omega)) hr)
  rw [hadd] at HV
  have ss := szV_side sd (by omega)
  have sf := szV_flat sd (by omega)
  have f1 : fitsV d := szV_fits sd (by rw [most_eq]; omega)
  have f2 : fitsV (vside d) := szV_fits ss (by rw [most_eq]; omega)
  have f3 : fitsV (vflat d) := szV_fits sf (by rw [most_eq]; omega)
  have HO1 := hide (fun w hB hT => (vDot_O f1 f2 B w hB hT).mono fun _ _ hr => ResO.of (dot_sz sd ss (by rw [most_eq]; omega)).1 hr)
  rw [side_dot, T0] at HO1
  have HX := hide (fun w hB hT => (vCross_O f3 f2 B w hB hT).mono fun _ _ hr => ResV.of (cross_sz sf ss (by rw [most_eq]; omega)).1 hr)
  rw [side_cross] at HX
  have HO2 := hide (fun w hB hT => (vDot_O f2 f2 B w hB hT).mono fun _ _ hr => ResO.of (dot_sz ss ss (by rw [most_eq]; omega)).1 hr)
  rw [side_self] at HO2
  have HO3 := hide (fun w hB hT => (vDot_O f3 f3 B w hB hT).mono fun _ _ hr => ResO.of (dot_sz sf sf (by rw [most_eq]; omega)).1 hr)
  obtain ⟨F0, hF⟩ : ∃ F, F = vdot (vflat d) (vflat d) := ⟨_, rfl⟩
  rw [← hF] at HX HO2 HO3
  have hvf : vecV (vflat d) = spotV (T d.x) (T d.y) b0 := by
    show Value.agg #[.string (T d.x), .string (T d.y), .string (T 0)] = _
    rw [T0]
  have hvx : vecV ⟨0, 0, F0⟩ = spotV b0 b0 (T F0) := by
    show Value.agg #[.string (T 0), .string (T 0), .string (T F0)] = _
    rw [T0]
  have hvs : vecV (vside d) = spotV (T (0 - d.y)) (T d.x) b0 := by
    show Value.agg #[.string (T (0 - d.y)), .string (T d.x), .string (T 0)] = _
    rw [T0]
  rw [hvf, hvs, hvx] at HX
  rw [hvf] at HO3
  rw [hvs] at HS HO1 HO2
  obtain ⟨Y, hY⟩ : ∃ Y, Y = T (0 - d.y) := ⟨_, rfl⟩
  rw [← hY] at HX HS HO1 HO2
  have HE := eqSpotV C C
  rw [decide_eq_true rfl] at HE
  have hmx := mx4
  have X0 := hide (heap1 w (.cells #[.int .i8 a.x, .int .i8 a.y, .int .i8 a.z, .int .i8 b.x, .int .i8 b.y, .int .i8 b.z] 43))
  clear hm hA hC ha hb hT sa sc sd hadd hd ss sf f1 f2 f3 hF hvf hvx hvs hY
  go_enter Tryz.func8, Tryz.ntmps8
  go_wp2_with fail
  refine (HOF.out _ (Nat.le_trans hB X0.out.2.2.size) (HT.out.on X0.out.2.2 hB)).mono ?_
  rintro e w1 ⟨rfl, hb1⟩
  have X1 := hide (heap1 w1 (memO 6 1 0 A C 80 220))
  have M1 := hide X1.out.1
  have HB1 := hide (X0.out.2.2.trans ((hb1.trans (X1.out.2.2.mono hb1.size)).mono X0.out.2.2.size))
  clear hb1 X1
  go_wp2_with fail
  refine (HD.out _ (Nat.le_trans hB HB1.out.size) (HT.out.on HB1.out hB)).mono ?_
  rintro e w2 ⟨rfl, hb2⟩
  have X := hide (heap1 w2 (vecO d))
  have hb2 := hb2.trans (X.out.2.2.mono hb2.size)
  have M1 := hide (below_blk hb2 M1.out (lt_blk M1.out))
  have D1 := hide X.out.1
  have HB2 := hide (HB1.out.trans (hb2.mono HB1.out.size))
  clear hb2 X 
  have c0 := cell_blk M1.out 0
  have c1 := cell_blk M1.out 1
  have c2 := cell_blk M1.out 2
  have c3 := cell_blk M1.out 3
  have c4 := cell_blk M1.out 4
  have c5 := cell_blk M1.out 5
  have c6 := cell_blk M1.out 6
  have c7 := cell_blk M1.out 7
  have c8 := cell_blk M1.out 8
  have c9 := cell_blk M1.out 9
  have c10 := cell_blk M1.out 10
  have cl := lt_blk M1.out
  go_wp2_with fail
  refine (HS.out _ (Nat.le_trans hB HB2.out.size) (HT.out.on HB2.out hB)).mono ?_
  rintro e w3 ⟨rfl, hb3⟩
  have X := hide (heap1 w3 (spotO Y (T d.x) b0))
  have hb3 := hb3.trans (X.out.2.2.mono hb3.size)
  have M1 := hide (below_blk hb3 M1.out (lt_blk M1.out))
  have D1 := hide (below_blk hb3 D1.out (lt_blk D1.out))
  have D2 := hide X.out.1
  have HB3 := hide (HB2.out.trans (hb3.mono HB2.out.size))
  clear hb3 X c0 c1 c2 c3 c4 c5 c6 c7 c8 c9 c10 cl
  have c0 := cell_blk M1.out 0
  have c1 := cell_blk M1.out 1
  have c2 := cell_blk M1.out 2
  have c3 := cell_blk M1.out 3
  have c4 := cell_blk M1.out 4
  have c5 := cell_blk M1.out 5
  have c6 := cell_blk M1.out 6
  have c7 := cell_blk M1.out 7
  have c8 := cell_blk M1.out 8
  have c9 := cell_blk M1.out 9
  have c10 := cell_blk M1.out 10
  have cl := lt_blk M1.out
  go_wp2_with fail
  refine (HR.out _ (Nat.le_trans hB HB3.out.size) (HT.out.on HB3.out hB)).mono ?_
  rintro e w4 ⟨rfl, hb4⟩
  have M1 := hide (below_blk hb4 M1.out (lt_blk M1.out))
  have D1 := hide (below_blk hb4 D1.out (lt_blk D1.out))
  have D2 := hide (below_blk hb4 D2.out (lt_blk D2.out))
  have HB4 := hide (HB3.out.trans (hb4.mono HB3.out.size))
  clear hb4 c0 c1 c2 c3 c4 c5 c6 c7 c8 c9 c10 cl
  have c0 := cell_blk M1.out 0
  have c1 := cell_blk M1.out 1
  have c2 := cell_blk M1.out 2
  have c3 := cell_blk M1.out 3
  have c4 := cell_blk M1.out 4
  have c5 := cell_blk M1.out 5
  have c6 := cell_blk M1.out 6
  have c7 := cell_blk M1.out 7
  have c8 := cell_blk M1.out 8
  have c9 := cell_blk M1.out 9
  have c10 := cell_blk M1.out 10
  have cl := lt_blk M1.out
  have d0 := cell_blk D1.out 0
  have d1 := cell_blk D1.out 1
  have d2 := cell_blk D1.out 2
  have dl := lt_blk D1.out
  go_wp2_with fail
  refine (HV.out _ (Nat.le_trans hB HB4.out.size) (HT.out.on HB4.out hB)).mono ?_
  rintro e w5 ⟨rfl, hb5⟩
  have X := hide (heap1 w5 (vecO C))
  have hb5 := hb5.trans (X.out.2.2.mono hb5.size)
  have M1 := hide (below_blk hb5 M1.out (lt_blk M1.out))
  have D1 := hide (below_blk hb5 D1.out (lt_blk D1.out))
  have D2 := hide (below_blk hb5 D2.out (lt_blk D2.out))
  have D3 := hide X.out.1
  have HB5 := hide (HB4.out.trans (hb5.mono HB4.out.size))
  clear hb5 X c0 c1 c2 c3 c4 c5 c6 c7 c8 c9 c10 cl d0 d1 d2 dl
  have c0 := cell_blk M1.out 0
  have c1 := cell_blk M1.out 1
  have c2 := cell_blk M1.out 2
  have c3 := cell_blk M1.out 3
  have c4 := cell_blk M1.out 4
  have c5 := cell_blk M1.out 5
  have c6 := cell_blk M1.out 6
  have c7 := cell_blk M1.out 7
  have c8 := cell_blk M1.out 8
  have c9 := cell_blk M1.out 9
  have c10 := cell_blk M1.out 10
  have cl := lt_blk M1.out
  have d0 := cell_blk D1.out 0
  have d1 := cell_blk D1.out 1
  have d2 := cell_blk D1.out 2
  have dl := lt_blk D1.out
  have f0 := cell_blk D2.out 0
  have f1 := cell_blk D2.out 1
  have f2 := cell_blk D2.out 2
  have fl := lt_blk D2.out
  go_wp2_with fail
  refine (HO1.out _ (Nat.le_trans hB HB5.out.size) (HT.out.on HB5.out hB)).mono ?_
  rintro e w6 ⟨rfl, hb6⟩
  have D1 := hide (below_blk hb6 D1.out (lt_blk D1.out))
  have D2 := hide (below_blk hb6 D2.out (lt_blk D2.out))
  have HB6 := hide (HB5.out.trans (hb6.mono HB5.out.size))
  clear hb6 c0 c1 c2 c3 c4 c5 c6 c7 c8 c9 c10 cl d0 d1 d2 dl f0 f1 f2 fl M1 D3
  go_wp2_with fail
  have hB6 : B ≤ w6.heap.size := Nat.le_trans hB HB6.out.size
  have HP6 := hide (HT.out.on HB6.out hB)
  have HSP := hide (fun (x y z : ByteArray) (w : World) => (lspot_at x y z w).mono fun e w' ⟨h, hb⟩ => show Ret w (spotV x y z) e w' from ⟨h, by rw [hb]; exact (heap1 w (spotO x y z)).2.2⟩)
  refine region_steps 13 (RelD a b A C d F0 Y w w1 w2 w3 w5 w6) (by kernel_rfl) (by decide) (by kernel_rfl) (by kernel_rfl) ⟨0, rfl, (Below.refl _ _).drew, (fun h => by cases h), (fun h => by cases h)⟩ ?_ ?_
  · intro i o L F v hi ho hL hf hd hS
    obtain ⟨y10, rfl, hV, h10, g10⟩ := hS
    have hi6 : i = 0 ∨ i = 1 ∨ i = 2 ∨ i = 3 ∨ i = 4 ∨ i = 5 ∨ i = 6 ∨ i = 7 ∨ i = 8 ∨ i = 9 ∨ i = 10 ∨ i = 11 ∨ i = 12 := by omega
    rcases hi6 with rfl | rfl | rfl | rfl | rfl | rfl | rfl | rfl | rfl | rfl | rfl | rfl | rfl
    all_goals
      simp only [List.getElem?_cons_zero, List.getElem?_cons_succ, Option.some.injEq] at ho
      subst ho
    · have G := fun j => getD_set (j := j) hL hi
      obtain ⟨x0, hx0⟩ : ∃ x, x = L.getD 0 false := ⟨_, rfl⟩
      obtain ⟨x1, hx1⟩ : ∃ x, x = L.getD 1 false := ⟨_, rfl⟩
      obtain ⟨x2, hx2⟩ : ∃ x, x = L.getD 2 false := ⟨_, rfl⟩
      obtain ⟨x3, hx3⟩ : ∃ x, x = L.getD 3 false := ⟨_, rfl⟩
      obtain ⟨x4, hx4⟩ : ∃ x, x = L.getD 4 false := ⟨_, rfl⟩
      obtain ⟨x5, hx5⟩ : ∃ x, x = L.getD 5 false := ⟨_, rfl⟩
      obtain ⟨x6, hx6⟩ : ∃ x, x = L.getD 6 false := ⟨_, rfl⟩
      obtain ⟨x7, hx7⟩ : ∃ x, x = L.getD 7 false := ⟨_, rfl⟩
      obtain ⟨x8, hx8⟩ : ∃ x, x = L.getD 8 false := ⟨_, rfl⟩
      obtain ⟨x9, hx9⟩ : ∃ x, x = L.getD 9 false := ⟨_, rfl⟩
      obtain ⟨x10, hx10⟩ : ∃ x, x = L.getD 10 false := ⟨_, rfl⟩
      obtain ⟨x11, hx11⟩ : ∃ x, x = L.getD 11 false := ⟨_, rfl⟩
      obtain ⟨x12, hx12⟩ : ∃ x, x = L.getD 12 false := ⟨_, rfl⟩
      rw [← hx0, ← hx1, ← hx2, ← hx3, ← hx4, ← hx5, ← hx6, ← hx7, ← hx8, ← hx9, ← hx10, ← hx11, ← hx12]
      have HK : Hid (∀ F, F = actD a b A C d F0 Y w w1 w2 w3 w5 y10 true x1 x2 x3 x4 x5 x6 x7 x8 x9 x10 x11 x12 → RelD a b A C d F0 Y w w1 w2 w3 w5 w6 (L.setIfInBounds 0 true) F v) := hide (fun F hF => RelD.keep hV h10 g10 (Below.refl _ v) (by rw [G]; rfl) (by rw [G]; rfl) (by rw [hF, G, G, G, G, G, G, G, G, G, G, G, G, G, hx1, hx2, hx3, hx4, hx5, hx6, hx7, hx8, hx9, hx10, hx11, hx12]; rfl))
      unfold actD
      clear h10 g10 hV hd hx0 hx1 hx2 hx3 hx4 hx5 hx6 hx7 hx8 hx9 hx10 hx11 hx12 G hf hL hi
      go_wp2_with fail
      exact HK.out _ rfl
    · have G := fun j => getD_set (j := j) hL hi
      obtain ⟨x0, hx0⟩ : ∃ x, x = L.getD 0 false := ⟨_, rfl⟩
      obtain ⟨x1, hx1⟩ : ∃ x, x = L.getD 1 false := ⟨_, rfl⟩
      obtain ⟨x2, hx2⟩ : ∃ x, x = L.getD 2 false := ⟨_, rfl⟩
      obtain ⟨x3, hx3⟩ : ∃ x, x = L.getD 3 false := ⟨_, rfl⟩
      obtain ⟨x4, hx4⟩ : ∃ x, x = L.getD 4 false := ⟨_, rfl⟩
      obtain ⟨x5, hx5⟩ : ∃ x, x = L.getD 5 false := ⟨_, rfl⟩
      obtain ⟨x6, hx6⟩ : ∃ x, x = L.getD 6 false := ⟨_, rfl⟩
      obtain ⟨x7, hx7⟩ : ∃ x, x = L.getD 7 false := ⟨_, rfl⟩
      obtain ⟨x8, hx8⟩ : ∃ x, x = L.getD 8 false := ⟨_, rfl⟩
      obtain ⟨x9, hx9⟩ : ∃ x, x = L.getD 9 false := ⟨_, rfl⟩
      obtain ⟨x10, hx10⟩ : ∃ x, x = L.getD 10 false := ⟨_, rfl⟩
      obtain ⟨x11, hx11⟩ : ∃ x, x = L.getD 11 false := ⟨_, rfl⟩
      obtain ⟨x12, hx12⟩ : ∃ x, x = L.getD 12 false := ⟨_, rfl⟩
      rw [← hx0, ← hx1, ← hx2, ← hx3, ← hx4, ← hx5, ← hx6, ← hx7, ← hx8, ← hx9, ← hx10, ← hx11, ← hx12]
      have hdep0 : x0 = true := by rw [hx0]; exact hd 0 (waitsB_iff.1 (by kernel_rfl))
      have HK : Hid (∀ F, F = actD a b A C d F0 Y w w1 w2 w3 w5 y10 x0 true x2 x3 x4 x5 x6 x7 x8 x9 x10 x11 x12 → RelD a b A C d F0 Y w w1 w2 w3 w5 w6 (L.setIfInBounds 1 true) F v) := hide (fun F hF => RelD.keep hV h10 g10 (Below.refl _ v) (by rw [G]; rfl) (by rw [G]; rfl) (by rw [hF, G, G, G, G, G, G, G, G, G, G, G, G, G, hx0, hx2, hx3, hx4, hx5, hx6, hx7, hx8, hx9, hx10, hx11, hx12]; rfl))
      have e0 := below_blk hV D1.out (lt_blk D1.out)
      have l0 := lt_blk e0
      have k0_0 := cell_blk e0 0
      unfold actD
      clear h10 g10 hV hd e0 hx0 hx1 hx2 hx3 hx4 hx5 hx6 hx7 hx8 hx9 hx10 hx11 hx12 G hf hL hi
      subst hdep0
      simp only [sel_t]
      go_wp2_with fail
      exact HK.out _ rfl
    · have G := fun j => getD_set (j := j) hL hi
      obtain ⟨x0, hx0⟩ : ∃ x, x = L.getD 0 false := ⟨_, rfl⟩
      obtain ⟨x1, hx1⟩ : ∃ x, x = L.getD 1 false := ⟨_, rfl⟩
      obtain ⟨x2, hx2⟩ : ∃ x, x = L.getD 2 false := ⟨_, rfl⟩
      obtain ⟨x3, hx3⟩ : ∃ x, x = L.getD 3 false := ⟨_, rfl⟩
      obtain ⟨x4, hx4⟩ : ∃ x, x = L.getD 4 false := ⟨_, rfl⟩
      obtain ⟨x5, hx5⟩ : ∃ x, x = L.getD 5 false := ⟨_, rfl⟩
      obtain ⟨x6, hx6⟩ : ∃ x, x = L.getD 6 false := ⟨_, rfl⟩
      obtain ⟨x7, hx7⟩ : ∃ x, x = L.getD 7 false := ⟨_, rfl⟩
      obtain ⟨x8, hx8⟩ : ∃ x, x = L.getD 8 false := ⟨_, rfl⟩
      obtain ⟨x9, hx9⟩ : ∃ x, x = L.getD 9 false := ⟨_, rfl⟩
      obtain ⟨x10, hx10⟩ : ∃ x, x = L.getD 10 false := ⟨_, rfl⟩
      obtain ⟨x11, hx11⟩ : ∃ x, x = L.getD 11 false := ⟨_, rfl⟩
      obtain ⟨x12, hx12⟩ : ∃ x, x = L.getD 12 false := ⟨_, rfl⟩
      rw [← hx0, ← hx1, ← hx2, ← hx3, ← hx4, ← hx5, ← hx6, ← hx7, ← hx8, ← hx9, ← hx10, ← hx11, ← hx12]
      have HK : Hid (∀ F, F = actD a b A C d F0 Y w w1 w2 w3 w5 y10 x0 x1 true x3 x4 x5 x6 x7 x8 x9 x10 x11 x12 → RelD a b A C d F0 Y w w1 w2 w3 w5 w6 (L.setIfInBounds 2 true) F v) := hide (fun F hF => RelD.keep hV h10 g10 (Below.refl _ v) (by rw [G]; rfl) (by rw [G]; rfl) (by rw [hF, G, G, G, G, G, G, G, G, G, G, G, G, G, hx0, hx1, hx3, hx4, hx5, hx6, hx7, hx8, hx9, hx10, hx11, hx12]; rfl))
      unfold actD
      clear h10 g10 hV hd hx0 hx1 hx2 hx3 hx4 hx5 hx6 hx7 hx8 hx9 hx10 hx11 hx12 G hf hL hi
      go_wp2_with fail
      exact HK.out _ rfl
    · have G := fun j => getD_set (j := j) hL hi
      obtain ⟨x0, hx0⟩ : ∃ x, x = L.getD 0 false := ⟨_, rfl⟩
      obtain ⟨x1, hx1⟩ : ∃ x, x = L.getD 1 false := ⟨_, rfl⟩
      obtain ⟨x2, hx2⟩ : ∃ x, x = L.getD 2 false := ⟨_, rfl⟩
      obtain ⟨x3, hx3⟩ : ∃ x, x = L.getD 3 false := ⟨_, rfl⟩
      obtain ⟨x4, hx4⟩ : ∃ x, x = L.getD 4 false := ⟨_, rfl⟩
      obtain ⟨x5, hx5⟩ : ∃ x, x = L.getD 5 false := ⟨_, rfl⟩
      obtain ⟨x6, hx6⟩ : ∃ x, x = L.getD 6 false := ⟨_, rfl⟩
      obtain ⟨x7, hx7⟩ : ∃ x, x = L.getD 7 false := ⟨_, rfl⟩
      obtain ⟨x8, hx8⟩ : ∃ x, x = L.getD 8 false := ⟨_, rfl⟩
      obtain ⟨x9, hx9⟩ : ∃ x, x = L.getD 9 false := ⟨_, rfl⟩
      obtain ⟨x10, hx10⟩ : ∃ x, x = L.getD 10 false := ⟨_, rfl⟩
      obtain ⟨x11, hx11⟩ : ∃ x, x = L.getD 11 false := ⟨_, rfl⟩
      obtain ⟨x12, hx12⟩ : ∃ x, x = L.getD 12 false := ⟨_, rfl⟩
      rw [← hx0, ← hx1, ← hx2, ← hx3, ← hx4, ← hx5, ← hx6, ← hx7, ← hx8, ← hx9, ← hx10, ← hx11, ← hx12]
      have hdep2 : x2 = true := by rw [hx2]; exact hd 2 (waitsB_iff.1 (by kernel_rfl))
      have HK : Hid (∀ F, F = actD a b A C d F0 Y w w1 w2 w3 w5 y10 x0 x1 x2 true x4 x5 x6 x7 x8 x9 x10 x11 x12 → RelD a b A C d F0 Y w w1 w2 w3 w5 w6 (L.setIfInBounds 3 true) F v) := hide (fun F hF => RelD.keep hV h10 g10 (Below.refl _ v) (by rw [G]; rfl) (by rw [G]; rfl) (by rw [hF, G, G, G, G, G, G, G, G, G, G, G, G, G, hx0, hx1, hx2, hx4, hx5, hx6, hx7, hx8, hx9, hx10, hx11, hx12]; rfl))
      have e0 := below_blk hV D1.out (lt_blk D1.out)
      have l0 := lt_blk e0
      have k0_1 := cell_blk e0 1
      unfold actD
      clear h10 g10 hV hd e0 hx0 hx1 hx2 hx3 hx4 hx5 hx6 hx7 hx8 hx9 hx10 hx11 hx12 G hf hL hi
      subst hdep2
      simp only [sel_t]
      go_wp2_with fail
      exact HK.out _ rfl
    · have G := fun j => getD_set (j := j) hL hi
      obtain ⟨x0, hx0⟩ : ∃ x, x = L.getD 0 false := ⟨_, rfl⟩
      obtain ⟨x1, hx1⟩ : ∃ x, x = L.getD 1 false := ⟨_, rfl⟩
      obtain ⟨x2, hx2⟩ : ∃ x, x = L.getD 2 false := ⟨_, rfl⟩
      obtain ⟨x3, hx3⟩ : ∃ x, x = L.getD 3 false := ⟨_, rfl⟩
      obtain ⟨x4, hx4⟩ : ∃ x, x = L.getD 4 false := ⟨_, rfl⟩
      obtain ⟨x5, hx5⟩ : ∃ x, x = L.getD 5 false := ⟨_, rfl⟩
      obtain ⟨x6, hx6⟩ : ∃ x, x = L.getD 6 false := ⟨_, rfl⟩
      obtain ⟨x7, hx7⟩ : ∃ x, x = L.getD 7 false := ⟨_, rfl⟩
      obtain ⟨x8, hx8⟩ : ∃ x, x = L.getD 8 false := ⟨_, rfl⟩
      obtain ⟨x9, hx9⟩ : ∃ x, x = L.getD 9 false := ⟨_, rfl⟩
      obtain ⟨x10, hx10⟩ : ∃ x, x = L.getD 10 false := ⟨_, rfl⟩
      obtain ⟨x11, hx11⟩ : ∃ x, x = L.getD 11 false := ⟨_, rfl⟩
      obtain ⟨x12, hx12⟩ : ∃ x, x = L.getD 12 false := ⟨_, rfl⟩
      rw [← hx0, ← hx1, ← hx2, ← hx3, ← hx4, ← hx5, ← hx6, ← hx7, ← hx8, ← hx9, ← hx10, ← hx11, ← hx12]
      have hdep1 : x1 = true := by rw [hx1]; exact hd 1 (waitsB_iff.1 (by kernel_rfl))
      have hdep3 : x3 = true := by rw [hx3]; exact hd 3 (waitsB_iff.1 (by kernel_rfl))
      have HK : Hid (∀ (v2 : World) F, Below v.heap.size v v2 → F = actD a b A C d F0 Y w w1 w2 w3 w5 y10 x0 x1 x2 x3 true x5 x6 x7 x8 x9 x10 x11 x12 → RelD a b A C d F0 Y w w1 w2 w3 w5 w6 (L.setIfInBounds 4 true) F v2) := hide (fun v2 F hb hF => RelD.keep hV h10 g10 hb (by rw [G]; rfl) (by rw [G]; rfl) (by rw [hF, G, G, G, G, G, G, G, G, G, G, G, G, G, hx0, hx1, hx2, hx3, hx5, hx6, hx7, hx8, hx9, hx10, hx11, hx12]; rfl))
      have HVV := hide hV
      unfold actD
      clear h10 g10 hV hd hx0 hx1 hx2 hx3 hx4 hx5 hx6 hx7 hx8 hx9 hx10 hx11 hx12 G hf hL hi
      subst hdep1
      subst hdep3
      simp only [sel_t]
      go_wp2_with fail
      refine (HSP.out _ _ _ v).mono ?_
      rintro e v2 ⟨rfl, hb2⟩
      have HK2 := hide (HK.out v2)
      have HB2 := hide hb2
      clear hb2 HK
      go_wp2_with fail
      exact HK2.out _ HB2.out rfl
    · have G := fun j => getD_set (j := j) hL hi
      obtain ⟨x0, hx0⟩ : ∃ x, x = L.getD 0 false := ⟨_, rfl⟩
      obtain ⟨x1, hx1⟩ : ∃ x, x = L.getD 1 false := ⟨_, rfl⟩
      obtain ⟨x2, hx2⟩ : ∃ x, x = L.getD 2 false := ⟨_, rfl⟩
      obtain ⟨x3, hx3⟩ : ∃ x, x = L.getD 3 false := ⟨_, rfl⟩
      obtain ⟨x4, hx4⟩ : ∃ x, x = L.getD 4 false := ⟨_, rfl⟩
      obtain ⟨x5, hx5⟩ : ∃ x, x = L.getD 5 false := ⟨_, rfl⟩
      obtain ⟨x6, hx6⟩ : ∃ x, x = L.getD 6 false := ⟨_, rfl⟩
      obtain ⟨x7, hx7⟩ : ∃ x, x = L.getD 7 false := ⟨_, rfl⟩
      obtain ⟨x8, hx8⟩ : ∃ x, x = L.getD 8 false := ⟨_, rfl⟩
      obtain ⟨x9, hx9⟩ : ∃ x, x = L.getD 9 false := ⟨_, rfl⟩
      obtain ⟨x10, hx10⟩ : ∃ x, x = L.getD 10 false := ⟨_, rfl⟩
      obtain ⟨x11, hx11⟩ : ∃ x, x = L.getD 11 false := ⟨_, rfl⟩
      obtain ⟨x12, hx12⟩ : ∃ x, x = L.getD 12 false := ⟨_, rfl⟩
      rw [← hx0, ← hx1, ← hx2, ← hx3, ← hx4, ← hx5, ← hx6, ← hx7, ← hx8, ← hx9, ← hx10, ← hx11, ← hx12]
      have HK : Hid (∀ F, F = actD a b A C d F0 Y w w1 w2 w3 w5 y10 x0 x1 x2 x3 x4 true x6 x7 x8 x9 x10 x11 x12 → RelD a b A C d F0 Y w w1 w2 w3 w5 w6 (L.setIfInBounds 5 true) F v) := hide (fun F hF => RelD.keep hV h10 g10 (Below.refl _ v) (by rw [G]; rfl) (by rw [G]; rfl) (by rw [hF, G, G, G, G, G, G, G, G, G, G, G, G, G, hx0, hx1, hx2, hx3, hx4, hx6, hx7, hx8, hx9, hx10, hx11, hx12]; rfl))
      have e0 := below_blk hV D2.out (lt_blk D2.out)
      have l0 := lt_blk e0
      have k0_0 := cell_blk e0 0
      have k0_1 := cell_blk e0 1
      have k0_2 := cell_blk e0 2
      unfold actD
      clear h10 g10 hV hd e0 hx0 hx1 hx2 hx3 hx4 hx5 hx6 hx7 hx8 hx9 hx10 hx11 hx12 G hf hL hi
      go_wp2_with fail
      exact HK.out _ rfl
    · have G := fun j => getD_set (j := j) hL hi
      obtain ⟨x0, hx0⟩ : ∃ x, x = L.getD 0 false := ⟨_, rfl⟩
      obtain ⟨x1, hx1⟩ : ∃ x, x = L.getD 1 false := ⟨_, rfl⟩
      obtain ⟨x2, hx2⟩ : ∃ x, x = L.getD 2 false := ⟨_, rfl⟩
      obtain ⟨x3, hx3⟩ : ∃ x, x = L.getD 3 false := ⟨_, rfl⟩
      obtain ⟨x4, hx4⟩ : ∃ x, x = L.getD 4 false := ⟨_, rfl⟩
      obtain ⟨x5, hx5⟩ : ∃ x, x = L.getD 5 false := ⟨_, rfl⟩
      obtain ⟨x6, hx6⟩ : ∃ x, x = L.getD 6 false := ⟨_, rfl⟩
      obtain ⟨x7, hx7⟩ : ∃ x, x = L.getD 7 false := ⟨_, rfl⟩
      obtain ⟨x8, hx8⟩ : ∃ x, x = L.getD 8 false := ⟨_, rfl⟩
      obtain ⟨x9, hx9⟩ : ∃ x, x = L.getD 9 false := ⟨_, rfl⟩
      obtain ⟨x10, hx10⟩ : ∃ x, x = L.getD 10 false := ⟨_, rfl⟩
      obtain ⟨x11, hx11⟩ : ∃ x, x = L.getD 11 false := ⟨_, rfl⟩
      obtain ⟨x12, hx12⟩ : ∃ x, x = L.getD 12 false := ⟨_, rfl⟩
      rw [← hx0, ← hx1, ← hx2, ← hx3, ← hx4, ← hx5, ← hx6, ← hx7, ← hx8, ← hx9, ← hx10, ← hx11, ← hx12]
      have hdep4 : x4 = true := by rw [hx4]; exact hd 4 (waitsB_iff.1 (by kernel_rfl))
      have hdep5 : x5 = true := by rw [hx5]; exact hd 5 (waitsB_iff.1 (by kernel_rfl))
      have HK : Hid (∀ (v2 : World) F, Below v.heap.size v v2 → F = actD a b A C d F0 Y w w1 w2 w3 w5 y10 x0 x1 x2 x3 x4 x5 true x7 x8 x9 x10 x11 x12 → RelD a b A C d F0 Y w w1 w2 w3 w5 w6 (L.setIfInBounds 6 true) F v2) := hide (fun v2 F hb hF => RelD.keep hV h10 g10 hb (by rw [G]; rfl) (by rw [G]; rfl) (by rw [hF, G, G, G, G, G, G, G, G, G, G, G, G, G, hx0, hx1, hx2, hx3, hx4, hx5, hx7, hx8, hx9, hx10, hx11, hx12]; rfl))
      have HVV := hide hV
      unfold actD
      clear h10 g10 hV hd hx0 hx1 hx2 hx3 hx4 hx5 hx6 hx7 hx8 hx9 hx10 hx11 hx12 G hf hL hi
      subst hdep4
      subst hdep5
      simp only [sel_t]
      go_wp2_with fail
      refine (HX.out v (Nat.le_trans hB6 HVV.out.size) (HP6.out.on HVV.out hB6)).mono ?_
      rintro e v2 ⟨rfl, hb2⟩
      have HK2 := hide (HK.out v2)
      have HB2 := hide hb2
      clear hb2 HK
      go_wp2_with fail
      exact HK2.out _ HB2.out rfl
    · have G := fun j => getD_set (j := j) hL hi
      obtain ⟨x0, hx0⟩ : ∃ x, x = L.getD 0 false := ⟨_, rfl⟩
      obtain ⟨x1, hx1⟩ : ∃ x, x = L.getD 1 false := ⟨_, rfl⟩
      obtain ⟨x2, hx2⟩ : ∃ x, x = L.getD 2 false := ⟨_, rfl⟩
      obtain ⟨x3, hx3⟩ : ∃ x, x = L.getD 3 false := ⟨_, rfl⟩
      obtain ⟨x4, hx4⟩ : ∃ x, x = L.getD 4 false := ⟨_, rfl⟩
      obtain ⟨x5, hx5⟩ : ∃ x, x = L.getD 5 false := ⟨_, rfl⟩
      obtain ⟨x6, hx6⟩ : ∃ x, x = L.getD 6 false := ⟨_, rfl⟩
      obtain ⟨x7, hx7⟩ : ∃ x, x = L.getD 7 false := ⟨_, rfl⟩
      obtain ⟨x8, hx8⟩ : ∃ x, x = L.getD 8 false := ⟨_, rfl⟩
      obtain ⟨x9, hx9⟩ : ∃ x, x = L.getD 9 false := ⟨_, rfl⟩
      obtain ⟨x10, hx10⟩ : ∃ x, x = L.getD 10 false := ⟨_, rfl⟩
      obtain ⟨x11, hx11⟩ : ∃ x, x = L.getD 11 false := ⟨_, rfl⟩
      obtain ⟨x12, hx12⟩ : ∃ x, x = L.getD 12 false := ⟨_, rfl⟩
      rw [← hx0, ← hx1, ← hx2, ← hx3, ← hx4, ← hx5, ← hx6, ← hx7, ← hx8, ← hx9, ← hx10, ← hx11, ← hx12]
      have hdep6 : x6 = true := by rw [hx6]; exact hd 6 (waitsB_iff.1 (by kernel_rfl))
      have HK : Hid (∀ F, F = actD a b A C d F0 Y w w1 w2 w3 w5 y10 x0 x1 x2 x3 x4 x5 x6 true x8 x9 x10 x11 x12 → RelD a b A C d F0 Y w w1 w2 w3 w5 w6 (L.setIfInBounds 7 true) F v) := hide (fun F hF => RelD.keep hV h10 g10 (Below.refl _ v) (by rw [G]; rfl) (by rw [G]; rfl) (by rw [hF, G, G, G, G, G, G, G, G, G, G, G, G, G, hx0, hx1, hx2, hx3, hx4, hx5, hx6, hx8, hx9, hx10, hx11, hx12]; rfl))
      unfold actD
      clear h10 g10 hV hd hx0 hx1 hx2 hx3 hx4 hx5 hx6 hx7 hx8 hx9 hx10 hx11 hx12 G hf hL hi
      subst hdep6
      simp only [sel_t]
      go_wp2_with fail
      exact HK.out _ rfl
    · have G := fun j => getD_set (j := j) hL hi
      obtain ⟨x0, hx0⟩ : ∃ x, x = L.getD 0 false := ⟨_, rfl⟩
      obtain ⟨x1, hx1⟩ : ∃ x, x = L.getD 1 false := ⟨_, rfl⟩
      obtain ⟨x2, hx2⟩ : ∃ x, x = L.getD 2 false := ⟨_, rfl⟩
      obtain ⟨x3, hx3⟩ : ∃ x, x = L.getD 3 false := ⟨_, rfl⟩
      obtain ⟨x4, hx4⟩ : ∃ x, x = L.getD 4 false := ⟨_, rfl⟩
      obtain ⟨x5, hx5⟩ : ∃ x, x = L.getD 5 false := ⟨_, rfl⟩
      obtain ⟨x6, hx6⟩ : ∃ x, x = L.getD 6 false := ⟨_, rfl⟩
      obtain ⟨x7, hx7⟩ : ∃ x, x = L.getD 7 false := ⟨_, rfl⟩
      obtain ⟨x8, hx8⟩ : ∃ x, x = L.getD 8 false := ⟨_, rfl⟩
      obtain ⟨x9, hx9⟩ : ∃ x, x = L.getD 9 false := ⟨_, rfl⟩
      obtain ⟨x10, hx10⟩ : ∃ x, x = L.getD 10 false := ⟨_, rfl⟩
      obtain ⟨x11, hx11⟩ : ∃ x, x = L.getD 11 false := ⟨_, rfl⟩
      obtain ⟨x12, hx12⟩ : ∃ x, x = L.getD 12 false := ⟨_, rfl⟩
      rw [← hx0, ← hx1, ← hx2, ← hx3, ← hx4, ← hx5, ← hx6, ← hx7, ← hx8, ← hx9, ← hx10, ← hx11, ← hx12]
      have hdep7 : x7 = true := by rw [hx7]; exact hd 7 (waitsB_iff.1 (by kernel_rfl))
      have HK : Hid (∀ F, F = actD a b A C d F0 Y w w1 w2 w3 w5 y10 x0 x1 x2 x3 x4 x5 x6 x7 true x9 x10 x11 x12 → RelD a b A C d F0 Y w w1 w2 w3 w5 w6 (L.setIfInBounds 8 true) F v) := hide (fun F hF => RelD.keep hV h10 g10 (Below.refl _ v) (by rw [G]; rfl) (by rw [G]; rfl) (by rw [hF, G, G, G, G, G, G, G, G, G, G, G, G, G, hx0, hx1, hx2, hx3, hx4, hx5, hx6, hx7, hx9, hx10, hx11, hx12]; rfl))
      unfold actD
      clear h10 g10 hV hd hx0 hx1 hx2 hx3 hx4 hx5 hx6 hx7 hx8 hx9 hx10 hx11 hx12 G hf hL hi
      subst hdep7
      simp only [sel_t]
      go_wp2_with fail
      exact HK.out _ rfl
    · have G := fun j => getD_set (j := j) hL hi
      obtain ⟨x0, hx0⟩ : ∃ x, x = L.getD 0 false := ⟨_, rfl⟩
      obtain ⟨x1, hx1⟩ : ∃ x, x = L.getD 1 false := ⟨_, rfl⟩
      obtain ⟨x2, hx2⟩ : ∃ x, x = L.getD 2 false := ⟨_, rfl⟩
      obtain ⟨x3, hx3⟩ : ∃ x, x = L.getD 3 false := ⟨_, rfl⟩
      obtain ⟨x4, hx4⟩ : ∃ x, x = L.getD 4 false := ⟨_, rfl⟩
      obtain ⟨x5, hx5⟩ : ∃ x, x = L.getD 5 false := ⟨_, rfl⟩
      obtain ⟨x6, hx6⟩ : ∃ x, x = L.getD 6 false := ⟨_, rfl⟩
      obtain ⟨x7, hx7⟩ : ∃ x, x = L.getD 7 false := ⟨_, rfl⟩
      obtain ⟨x8, hx8⟩ : ∃ x, x = L.getD 8 false := ⟨_, rfl⟩
      obtain ⟨x9, hx9⟩ : ∃ x, x = L.getD 9 false := ⟨_, rfl⟩
      obtain ⟨x10, hx10⟩ : ∃ x, x = L.getD 10 false := ⟨_, rfl⟩
      obtain ⟨x11, hx11⟩ : ∃ x, x = L.getD 11 false := ⟨_, rfl⟩
      obtain ⟨x12, hx12⟩ : ∃ x, x = L.getD 12 false := ⟨_, rfl⟩
      rw [← hx0, ← hx1, ← hx2, ← hx3, ← hx4, ← hx5, ← hx6, ← hx7, ← hx8, ← hx9, ← hx10, ← hx11, ← hx12]
      have hdep7 : x7 = true := by rw [hx7]; exact hd 7 (waitsB_iff.1 (by kernel_rfl))
      have HK : Hid (∀ F, F = actD a b A C d F0 Y w w1 w2 w3 w5 y10 x0 x1 x2 x3 x4 x5 x6 x7 x8 true x10 x11 x12 → RelD a b A C d F0 Y w w1 w2 w3 w5 w6 (L.setIfInBounds 9 true) F v) := hide (fun F hF => RelD.keep hV h10 g10 (Below.refl _ v) (by rw [G]; rfl) (by rw [G]; rfl) (by rw [hF, G, G, G, G, G, G, G, G, G, G, G, G, G, hx0, hx1, hx2, hx3, hx4, hx5, hx6, hx7, hx8, hx10, hx11, hx12]; rfl))
      unfold actD
      clear h10 g10 hV hd hx0 hx1 hx2 hx3 hx4 hx5 hx6 hx7 hx8 hx9 hx10 hx11 hx12 G hf hL hi
      subst hdep7
      simp only [sel_t]
      go_wp2_with fail
      exact HK.out _ rfl
    · have G := fun j => getD_set (j := j) hL hi
      obtain ⟨x0, hx0⟩ : ∃ x, x = L.getD 0 false := ⟨_, rfl⟩
      obtain ⟨x1, hx1⟩ : ∃ x, x = L.getD 1 false := ⟨_, rfl⟩
      obtain ⟨x2, hx2⟩ : ∃ x, x = L.getD 2 false := ⟨_, rfl⟩
      obtain ⟨x3, hx3⟩ : ∃ x, x = L.getD 3 false := ⟨_, rfl⟩
      obtain ⟨x4, hx4⟩ : ∃ x, x = L.getD 4 false := ⟨_, rfl⟩
      obtain ⟨x5, hx5⟩ : ∃ x, x = L.getD 5 false := ⟨_, rfl⟩
      obtain ⟨x6, hx6⟩ : ∃ x, x = L.getD 6 false := ⟨_, rfl⟩
      obtain ⟨x7, hx7⟩ : ∃ x, x = L.getD 7 false := ⟨_, rfl⟩
      obtain ⟨x8, hx8⟩ : ∃ x, x = L.getD 8 false := ⟨_, rfl⟩
      obtain ⟨x9, hx9⟩ : ∃ x, x = L.getD 9 false := ⟨_, rfl⟩
      obtain ⟨x10, hx10⟩ : ∃ x, x = L.getD 10 false := ⟨_, rfl⟩
      obtain ⟨x11, hx11⟩ : ∃ x, x = L.getD 11 false := ⟨_, rfl⟩
      obtain ⟨x12, hx12⟩ : ∃ x, x = L.getD 12 false := ⟨_, rfl⟩
      rw [← hx0, ← hx1, ← hx2, ← hx3, ← hx4, ← hx5, ← hx6, ← hx7, ← hx8, ← hx9, ← hx10, ← hx11, ← hx12]
      have HK : Hid (∀ F, F = actD a b A C d F0 Y w w1 w2 w3 w5 v.heap.size x0 x1 x2 x3 x4 x5 x6 x7 x8 x9 true x11 x12 → RelD a b A C d F0 Y w w1 w2 w3 w5 w6 (L.setIfInBounds 10 true) F (v.alloc (spotO ⟨#[]⟩ ⟨#[]⟩ ⟨#[]⟩))) := hide (fun F hF => ⟨v.heap.size, by rw [hF, G, G, G, G, G, G, G, G, G, G, G, G, G, hx0, hx1, hx2, hx3, hx4, hx5, hx6, hx7, hx8, hx9, hx11, hx12]; rfl, hV.trans ((heap1 v (spotO ⟨#[]⟩ ⟨#[]⟩ ⟨#[]⟩)).2.2.mono hV.size), (fun _ => ⟨hV.size, by rw [show (L.setIfInBounds 10 true).getD 11 false = false from (by rw [G]; show L.getD 11 false = false; cases hz : L.getD 11 false with | false => rfl | true => rw [g10 hz] at hf; cases hf)]; exact heap_alloc_new v _⟩), (fun _ => by rw [G]; rfl)⟩)
      unfold actD
      clear h10 g10 hV hd hx0 hx1 hx2 hx3 hx4 hx5 hx6 hx7 hx8 hx9 hx10 hx11 hx12 G hf hL hi
      go_wp2_with fail
      exact HK.out _ rfl
    · have G := fun j => getD_set (j := j) hL hi
      obtain ⟨x0, hx0⟩ : ∃ x, x = L.getD 0 false := ⟨_, rfl⟩
      obtain ⟨x1, hx1⟩ : ∃ x, x = L.getD 1 false := ⟨_, rfl⟩
      obtain ⟨x2, hx2⟩ : ∃ x, x = L.getD 2 false := ⟨_, rfl⟩
      obtain ⟨x3, hx3⟩ : ∃ x, x = L.getD 3 false := ⟨_, rfl⟩
      obtain ⟨x4, hx4⟩ : ∃ x, x = L.getD 4 false := ⟨_, rfl⟩
      obtain ⟨x5, hx5⟩ : ∃ x, x = L.getD 5 false := ⟨_, rfl⟩
      obtain ⟨x6, hx6⟩ : ∃ x, x = L.getD 6 false := ⟨_, rfl⟩
      obtain ⟨x7, hx7⟩ : ∃ x, x = L.getD 7 false := ⟨_, rfl⟩
      obtain ⟨x8, hx8⟩ : ∃ x, x = L.getD 8 false := ⟨_, rfl⟩
      obtain ⟨x9, hx9⟩ : ∃ x, x = L.getD 9 false := ⟨_, rfl⟩
      obtain ⟨x10, hx10⟩ : ∃ x, x = L.getD 10 false := ⟨_, rfl⟩
      obtain ⟨x11, hx11⟩ : ∃ x, x = L.getD 11 false := ⟨_, rfl⟩
      obtain ⟨x12, hx12⟩ : ∃ x, x = L.getD 12 false := ⟨_, rfl⟩
      rw [← hx0, ← hx1, ← hx2, ← hx3, ← hx4, ← hx5, ← hx6, ← hx7, ← hx8, ← hx9, ← hx10, ← hx11, ← hx12]
      have hdep8 : x8 = true := by rw [hx8]; exact hd 8 (waitsB_iff.1 (by kernel_rfl))
      have hdep10 : x10 = true := by rw [hx10]; exact hd 10 (waitsB_iff.1 (by kernel_rfl))
      have hq := h10 (hx10.symm.trans hdep10)
      rw [hf] at hq
      have Q := hide hq.2
      have HK : Hid (∀ F, F = actD a b A C d F0 Y w w1 w2 w3 w5 y10 x0 x1 x2 x3 x4 x5 x6 x7 x8 x9 x10 true x12 → RelD a b A C d F0 Y w w1 w2 w3 w5 w6 (L.setIfInBounds 11 true) F (((v.setCell ⟨y10, 0, none⟩ (.string b0)).setCell ⟨y10, 1, none⟩ (.string b0)).setCell ⟨y10, 2, none⟩ (.string (T F0)))) := hide (fun F hF => ⟨y10, by rw [hF, G, G, G, G, G, G, G, G, G, G, G, G, G, hx0, hx1, hx2, hx3, hx4, hx5, hx6, hx7, hx8, hx9, hx10, hx12]; rfl, below_spot hV hq.1 (.string b0) (.string b0) (.string (T F0)), (fun _ => ⟨hq.1, by rw [show (L.setIfInBounds 11 true).getD 11 false = true from by rw [G]; rfl]; exact set3c (set3b (set3a Q.out _) _) _⟩), (fun _ => by rw [G]; show L.getD 10 false = true; exact hx10.symm.trans hdep10)⟩)
      have s0 := cell_blk Q.out 0
      have f0 := froz_blk Q.out 0
      have s1 := cell_blk Q.out 1
      have f1 := froz_blk Q.out 1
      have s2 := cell_blk Q.out 2
      have f2 := froz_blk Q.out 2
      have sl := lt_blk Q.out
      unfold actD
      clear hq h10 g10 hV hd hx0 hx1 hx2 hx3 hx4 hx5 hx6 hx7 hx8 hx9 hx10 hx11 hx12 G hf hL hi
      subst hdep8
      subst hdep10
      simp only [sel_t]
      go_wp2_with fail
      exact HK.out _ rfl
    · have G := fun j => getD_set (j := j) hL hi
      obtain ⟨x0, hx0⟩ : ∃ x, x = L.getD 0 false := ⟨_, rfl⟩
      obtain ⟨x1, hx1⟩ : ∃ x, x = L.getD 1 false := ⟨_, rfl⟩
      obtain ⟨x2, hx2⟩ : ∃ x, x = L.getD 2 false := ⟨_, rfl⟩
      obtain ⟨x3, hx3⟩ : ∃ x, x = L.getD 3 false := ⟨_, rfl⟩
      obtain ⟨x4, hx4⟩ : ∃ x, x = L.getD 4 false := ⟨_, rfl⟩
      obtain ⟨x5, hx5⟩ : ∃ x, x = L.getD 5 false := ⟨_, rfl⟩
      obtain ⟨x6, hx6⟩ : ∃ x, x = L.getD 6 false := ⟨_, rfl⟩
      obtain ⟨x7, hx7⟩ : ∃ x, x = L.getD 7 false := ⟨_, rfl⟩
      obtain ⟨x8, hx8⟩ : ∃ x, x = L.getD 8 false := ⟨_, rfl⟩
      obtain ⟨x9, hx9⟩ : ∃ x, x = L.getD 9 false := ⟨_, rfl⟩
      obtain ⟨x10, hx10⟩ : ∃ x, x = L.getD 10 false := ⟨_, rfl⟩
      obtain ⟨x11, hx11⟩ : ∃ x, x = L.getD 11 false := ⟨_, rfl⟩
      obtain ⟨x12, hx12⟩ : ∃ x, x = L.getD 12 false := ⟨_, rfl⟩
      rw [← hx0, ← hx1, ← hx2, ← hx3, ← hx4, ← hx5, ← hx6, ← hx7, ← hx8, ← hx9, ← hx10, ← hx11, ← hx12]
      have hdep9 : x9 = true := by rw [hx9]; exact hd 9 (waitsB_iff.1 (by kernel_rfl))
      have HK : Hid (∀ F, F = actD a b A C d F0 Y w w1 w2 w3 w5 y10 x0 x1 x2 x3 x4 x5 x6 x7 x8 x9 x10 x11 true → RelD a b A C d F0 Y w w1 w2 w3 w5 w6 (L.setIfInBounds 12 true) F v) := hide (fun F hF => RelD.keep hV h10 g10 (Below.refl _ v) (by rw [G]; rfl) (by rw [G]; rfl) (by rw [hF, G, G, G, G, G, G, G, G, G, G, G, G, G, hx0, hx1, hx2, hx3, hx4, hx5, hx6, hx7, hx8, hx9, hx10, hx11]; rfl))
      unfold actD
      clear h10 g10 hV hd hx0 hx1 hx2 hx3 hx4 hx5 hx6 hx7 hx8 hx9 hx10 hx11 hx12 G hf hL hi
      subst hdep9
      simp only [sel_t]
      go_wp2_with fail
      exact HK.out _ rfl
  · intro F v hS
    obtain ⟨y10, rfl, hV, h10, g10⟩ := hS
    have Q10 : Hid (v.heap[y10]? = some (spotO b0 b0 (T F0))) := hide (h10 rfl).2
    have q10 := (h10 rfl).1
    simp only [List.drop_succ_cons, List.drop_zero]
    show wpList _ _ _ _ (actD a b A C d F0 Y w w1 w2 w3 w5 y10 true true true true true true true true true true true true true) v
    unfold actD
    simp only [sel_t]
    have D1 := hide (below_blk hV D1.out (lt_blk D1.out))
    have D2 := hide (below_blk hV D2.out (lt_blk D2.out))
    have D4 := Q10
    have HB8 := hide (HB6.out.trans (hV.mono HB6.out.size))
    clear hV h10 g10 q10 Q10
    have g0 := cell_blk D2.out 0
    have g1 := cell_blk D2.out 1
    have g2 := cell_blk D2.out 2
    have gl := lt_blk D2.out
    go_wp2_with fail
    refine (HO2.out _ (Nat.le_trans hB HB8.out.size) (HT.out.on HB8.out hB)).mono ?_
    rintro e w9 ⟨rfl, hb9⟩
    have D1 := hide (below_blk hb9 D1.out (lt_blk D1.out))
    have D4 := hide (below_blk hb9 D4.out (lt_blk D4.out))
    have HB9 := hide (HB8.out.trans (hb9.mono HB8.out.size))
    clear hb9 D2 g0 g1 g2 gl
    have HSC := hide (fun (a b c : ByteArray) (x : Of (Below w9.heap.size w9)) => lspot_cls a b c w9.heap.size w9 (Nat.le_refl _) x)
    have HOC := hide (fun (x : Of (Below w9.heap.size w9)) => show Calls Tryz.prog 43 #[spotV (T d.x) (T d.y) b0, spotV (T d.x) (T d.y) b0] x.w fun e w' => e = .returned (.tuple #[.string (T F0), .int .i64 0]) ∧ Cls (Below w9.heap.size w9) w' from (HO3.out x.w (Nat.le_trans hB (Nat.le_trans HB9.out.size x.h.size)) ((HT.out.on HB9.out hB).on x.h (Nat.le_trans hB HB9.out.size))).mono fun _ _ ⟨h, hb⟩ => ⟨h, Cls.mk (x.h.trans (hb.mono (by have := x.h.size; omega)))⟩)
    go_wp2_with fail
    have hx1 : ∀ x : Of (Below w9.heap.size w9), ∀ o, x.w.cell? ⟨w2.heap.size, o, none⟩ = w9.cell? ⟨w2.heap.size, o, none⟩ := fun x o => x.h.cell (p := ⟨w2.heap.size, o, none⟩) (lt_blk D1.out)
    have c1 := fun o => cell_blk D1.out o
    refine region_class (C := Cls (Below w9.heap.size w9)) (by kernel_rfl) (by kernel_rfl) (by kernel_rfl) (Cls.mk (Below.refl _ _).drew) ?_
    repeat (go_big_quiet_step (first | with_reducible exact HSC.out _ _ _ _ | with_reducible exact HOC.out _))
    refine wpQuiet_nil ?_
    intro w10 hcl
    have D4 := hide (below_blk hcl.out D4.out (lt_blk D4.out))
    have HB10 := hide (HB9.out.trans (hcl.out.mono HB9.out.size))
    clear hcl hx1 c1 HSC HOC D1
    have HSC := hide (fun (a b c : ByteArray) (x : Of (Below w10.heap.size w10)) => lspot_cls a b c w10.heap.size w10 (Nat.le_refl _) x)
    have HAC := hide (fun (x : Of (Below w10.heap.size w10)) => show Calls Tryz.prog 18 #[] x.w fun e w' => e = .returned (.bool true) ∧ Cls (Below w10.heap.size w10) w' from (HAW.out x.w (Nat.le_trans hB (Nat.le_trans HB10.out.size x.h.size)) ((HT.out.on HB10.out hB).on x.h (Nat.le_trans hB HB10.out.size))).mono fun _ _ ⟨h, hb⟩ => ⟨h, Cls.mk (x.h.trans (hb.mono (by have := x.h.size; omega)))⟩)
    have he1 : ∀ w, (Op.equalIn 10000 24 (spotV b0 b0 (T F0)) (spotV b0 b0 (T F0))).run Tryz.prog w = .ok true w := fun w => by rw [eqSpot]; simp
    go_wp2_with fail
    have hx4 : ∀ x : Of (Below w10.heap.size w10), ∀ o, x.w.cell? ⟨y10, o, none⟩ = w10.cell? ⟨y10, o, none⟩ := fun x o => x.h.cell (p := ⟨y10, o, none⟩) (lt_blk D4.out)
    have c4 := fun o => cell_blk D4.out o
    refine region_class (C := Cls (Below w10.heap.size w10)) (by kernel_rfl) (by kernel_rfl) (by kernel_rfl) (Cls.mk (Below.refl _ _).drew) ?_
    repeat (go_big_quiet_step (first | with_reducible exact HSC.out _ _ _ _ | with_reducible exact HAC.out _))
    refine wpQuiet_nil ?_
    intro w12 hcl
    have HB12 := hide (HB10.out.trans (hcl.out.mono HB10.out.size))
    clear hcl hx4 c4 HSC HAC he1 hmx
    go_wp2_with fail
    go_ret
    exact ⟨rfl, HB12.out⟩
end Go.Proofs.YtbfojhneajedmaaGreatDoor
