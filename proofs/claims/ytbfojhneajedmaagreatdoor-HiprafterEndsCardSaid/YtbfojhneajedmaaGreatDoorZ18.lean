/-
  Texts of the integers, laid together: Ym.
-/
import Derived.Test.YtbfojhneajedmaaGreatDoorZ17
namespace Go.KI
open Go
theorem sixteenth (s : Int) : (0 ≤ Rat.divInt s 16 ∧ Rat.divInt s 16 ≤ 1) ↔ (0 ≤ s ∧ s ≤ 16) := by
  obtain ⟨x, hx⟩ : ∃ x, x = Rat.divInt s 16 := ⟨_, rfl⟩
  have e : x * 16 = (s : Rat) := by
    rw [hx, Rat.divInt_eq_div]
    show (s : Rat) / 16 * 16 = s
    grind
  rw [← hx, ← Rat.intCast_nonneg, ← Rat.intCast_le_intCast (b := 16), ← e, show ((16 : Int) : Rat) = 16 from rfl]
  constructor <;> rintro ⟨a, b⟩ <;> exact ⟨by grind, by grind⟩
abbrev p7 : Rat := ⟨1, 7, by decide, by decide⟩
abbrev p11 : Rat := ⟨1, 11, by decide, by decide⟩
abbrev p13 : Rat := ⟨1, 13, by decide, by decide⟩
abbrev pU : V3 := ⟨p7, p11, p13⟩
theorem pU_sz : szV 2 pU := ⟨⟨by decide, by decide⟩, ⟨by decide, by decide⟩, ⟨by decide, by decide⟩⟩
end Go.KI
namespace Go.Proofs.YtbfojhneajedmaaGreatDoor
open Go.RowKit Go.KP Go.KI Go.Shelf
attribute [local go_sem] Oper.semAt_some

theorem ratS_frac {x : Rat} (h1 : x.num = 1) (h2 : x.den ≠ 1) : ratS x = 49 :: 47 :: Lib.decDigits x.den := by
  unfold ratS
  rw [if_neg h2, h1, show (1 : Int) = ((1 : Nat) : Int) from rfl, Lib.itoa_nonneg, Lib.decDigits_one (by omega)]
  rfl
abbrev b7 : ByteArray := ⟨#[49, 47, 55]⟩
abbrev b11 : ByteArray := ⟨#[49, 47, 49, 49]⟩
abbrev b13 : ByteArray := ⟨#[49, 47, 49, 51]⟩
theorem T7 : T p7 = b7 := by
  apply bytes_eq
  rw [T_list, ratS_frac rfl (by decide), show p7.den = 7 from rfl, Lib.decDigits_one (by omega)]
  rfl
theorem T11 : T p11 = b11 := by
  apply bytes_eq
  rw [T_list, ratS_frac rfl (by decide), show Lib.decDigits p11.den = [49, 49] by decide +kernel]
theorem T13 : T p13 = b13 := by
  apply bytes_eq
  rw [T_list, ratS_frac rfl (by decide), show Lib.decDigits p13.den = [49, 51] by decide +kernel]
theorem vu_eq : vecV pU = spotV b7 b11 b13 := by
  show Value.agg #[.string (T p7), .string (T p11), .string (T p13)] = _
  rw [T7, T11, T13]
theorem mx7 (w : World) : (Builtin.max_ #[31, 31, 31, 31, 31, 31, 31] 31 #[.int .i64 0, .int .i64 0, .int .i64 0, .int .i64 0, .int .i64 0, .int .i64 0, .int .i64 0]).run Tryz.prog w = .ok (.int .i64 0) w := by kernel_rfl
def actE3 (a b : I3) (A C d V : V3) (r : Rat) (s : Int) (w w1 w2 : World) (y8 : Nat) (x0 x1 x2 x3 x4 x5 x6 x7 x8 _x9 x10 : Bool) : Act := { tmps := #[smallV a b, Value.int IntKind.i8 s, Value.pointer (some { block := w.heap.size, off := 0 }), undef, Value.bool false, Value.pointer (some { block := w1.heap.size, off := 0 }), Value.pointer (some { block := w2.heap.size, off := 0 }), Value.int IntKind.i64 0, sel x8 (.pointer (some ⟨y8, 0, none⟩)), sel x10 (.int .i64 0), undef, undef, undef, undef, undef, undef, undef, undef, undef, undef, Value.agg #[Value.int IntKind.i8 a.x, Value.int IntKind.i8 a.y, Value.int IntKind.i8 a.z, Value.int IntKind.i8 b.x, Value.int IntKind.i8 b.y, Value.int IntKind.i8 b.z], memV 6 1 0 A C 80 220, Value.tuple #[vecV d, Value.int IntKind.i64 0], Value.pointer (some { block := w1.heap.size, off := 6 }), Value.agg #[Value.string (T C.x), Value.string (T C.y), Value.string (T C.z)], Value.pointer (some { block := w1.heap.size, off := 3 }), Value.agg #[Value.string (T A.x), Value.string (T A.y), Value.string (T A.z)], Value.tuple #[vecV d, Value.int IntKind.i64 0], vecV d, Value.int IntKind.i64 0, sel x5 (.tuple #[spotV (T V.x) (T V.y) (T V.z), .int .i64 0]), sel x0 (spotV (T d.x) (T d.y) (T d.z)), sel x1 (.int .i8 s), sel x2 (.int .i64 s), sel x3 (.string (T r)), sel x4 (.tuple #[spotV (T V.x) (T V.y) (T V.z), .int .i64 0]), sel x6 (spotV (T V.x) (T V.y) (T V.z)), sel x7 (.int .i64 0), undef, undef, undef, undef, undef, undef, undef, undef, undef, undef, undef, undef, undef, undef, undef, undef, undef, undef, undef, undef, undef, undef, undef, undef, undef, undef, undef, undef, undef, undef, undef, undef, undef, undef, undef, undef, undef, undef, undef, undef, undef, undef, undef, undef, undef, undef, undef, undef, undef, undef, undef, undef, undef, undef, undef, undef, undef, undef, undef, undef], defers := [] }
def RelE3 (a b : I3) (A C d V : V3) (r : Rat) (s : Int) (w w1 w2 : World) (W0 : World) (L : Array Bool) (F : Act) (wz : World) : Prop :=
  ∃ y8, F = actE3 a b A C d V r s w w1 w2 y8 (L.getD 0 false) (L.getD 1 false) (L.getD 2 false) (L.getD 3 false) (L.getD 4 false) (L.getD 5 false) (L.getD 6 false) (L.getD 7 false) (L.getD 8 false) (L.getD 9 false) (L.getD 10 false) ∧ Below W0.heap.size W0 wz ∧ (L.getD 8 false = true → W0.heap.size ≤ y8 ∧ wz.heap[y8]? = some (cond ((L.getD 9 false)) (spotO (T V.x) (T V.y) (T V.z)) (spotO ⟨#[]⟩ ⟨#[]⟩ ⟨#[]⟩))) ∧ (L.getD 9 false = true → L.getD 8 false = true)
theorem RelE3.keep {a b : I3} {A C d V : V3} {r : Rat} {s : Int} {w w1 w2 : World} {W0 wz wz' : World} {L L' : Array Bool} {F : Act} {y8 : Nat} (hB : Below W0.heap.size W0 wz) (h8 : L.getD 8 false = true → W0.heap.size ≤ y8 ∧ wz.heap[y8]? = some (cond ((L.getD 9 false)) (spotO (T V.x) (T V.y) (T V.z)) (spotO ⟨#[]⟩ ⟨#[]⟩ ⟨#[]⟩))) (g8 : L.getD 9 false = true → L.getD 8 false = true) (hb : Below wz.heap.size wz wz') (e8 : L'.getD 8 false = L.getD 8 false) (e9 : L'.getD 9 false = L.getD 9 false) (hF : F = actE3 a b A C d V r s w w1 w2 y8 (L'.getD 0 false) (L'.getD 1 false) (L'.getD 2 false) (L'.getD 3 false) (L'.getD 4 false) (L'.getD 5 false) (L'.getD 6 false) (L'.getD 7 false) (L'.getD 8 false) (L'.getD 9 false) (L'.getD 10 false)) : RelE3 a b A C d V r s w w1 w2 W0 L' F wz' := by
  refine ⟨y8, hF, hB.trans (hb.mono hB.size), ?_, ?_⟩
  · rw [e8, e9]
    intro h
    exact ⟨(h8 h).1, below_blk hb (h8 h).2 (lt_blk (h8 h).2)⟩
  · rw [e9, e8]
    exact g8
def actE6 (a b : I3) (A C d V Q E : V3) (r : Rat) (s : Int) (w w1 w2 w4 : World) (R1 : Bool) (y8 : Nat) (y6 : Nat) (x0 x1 x2 x3 x4 x5 x6 _x7 x8 : Bool) : Act := { tmps := #[smallV a b, Value.int IntKind.i8 s, Value.pointer (some { block := w.heap.size, off := 0 }), undef, Value.bool false, Value.pointer (some { block := w1.heap.size, off := 0 }), Value.pointer (some { block := w2.heap.size, off := 0 }), Value.int IntKind.i64 0, Value.pointer (some { block := y8, off := 0 }), Value.int IntKind.i64 0, Value.pointer (some { block := w4.heap.size, off := 0 }), Value.int IntKind.i64 0, Value.bool R1, Value.int IntKind.i64 0, sel x6 (.pointer (some ⟨y6, 0, none⟩)), sel x8 (.int .i64 0), undef, undef, undef, undef, Value.agg #[Value.int IntKind.i8 a.x, Value.int IntKind.i8 a.y, Value.int IntKind.i8 a.z, Value.int IntKind.i8 b.x, Value.int IntKind.i8 b.y, Value.int IntKind.i8 b.z], memV 6 1 0 A C 80 220, Value.tuple #[vecV d, Value.int IntKind.i64 0], Value.pointer (some { block := w1.heap.size, off := 6 }), Value.agg #[Value.string (T C.x), Value.string (T C.y), Value.string (T C.z)], Value.pointer (some { block := w1.heap.size, off := 3 }), Value.agg #[Value.string (T A.x), Value.string (T A.y), Value.string (T A.z)], Value.tuple #[vecV d, Value.int IntKind.i64 0], vecV d, Value.int IntKind.i64 0, Value.tuple #[spotV (T V.x) (T V.y) (T V.z), Value.int IntKind.i64 0], spotV (T d.x) (T d.y) (T d.z), Value.int IntKind.i8 s, Value.int IntKind.i64 s, Value.string (T r), Value.tuple #[spotV (T V.x) (T V.y) (T V.z), Value.int IntKind.i64 0], spotV (T V.x) (T V.y) (T V.z), Value.int IntKind.i64 0, Value.tuple #[vecV Q, Value.int IntKind.i64 0], Value.pointer (some { block := w1.heap.size, off := 3 }), Value.agg #[Value.string (T A.x), Value.string (T A.y), Value.string (T A.z)], Value.agg #[Value.string (T V.x), Value.string (T V.y), Value.string (T V.z)], Value.tuple #[vecV Q, Value.int IntKind.i64 0], vecV Q, Value.int IntKind.i64 0, Value.tuple #[Value.bool R1, Value.int IntKind.i64 0], Value.agg #[Value.int IntKind.i64 6, Value.int IntKind.i64 1, Value.int IntKind.i64 0, Value.string (T A.x), Value.string (T A.y), Value.string (T A.z), Value.string (T C.x), Value.string (T C.y), Value.string (T C.z), Value.int IntKind.i64 80, Value.int IntKind.i64 220], Value.agg #[Value.string (T Q.x), Value.string (T Q.y), Value.string (T Q.z)], Value.tuple #[Value.bool R1, Value.int IntKind.i64 0], Value.bool R1, Value.int IntKind.i64 0, sel x3 (.tuple #[spotV (T E.x) (T E.y) (T E.z), .int .i64 0]), sel x0 (spotV (T Q.x) (T Q.y) (T Q.z)), sel x1 (spotV b7 b11 b13), sel x2 (.tuple #[spotV (T E.x) (T E.y) (T E.z), .int .i64 0]), sel x4 (spotV (T E.x) (T E.y) (T E.z)), sel x5 (.int .i64 0), undef, undef, undef, undef, undef, undef, undef, undef, undef, undef, undef, undef, undef, undef, undef, undef, undef, undef, undef, undef, undef, undef, undef, undef, undef, undef, undef, undef, undef, undef, undef, undef, undef, undef, undef, undef, undef, undef, undef, undef, undef], defers := [] }
def RelE6 (a b : I3) (A C d V Q E : V3) (r : Rat) (s : Int) (w w1 w2 w4 : World) (R1 : Bool) (y8 : Nat) (W0 : World) (L : Array Bool) (F : Act) (wz : World) : Prop :=
  ∃ y6, F = actE6 a b A C d V Q E r s w w1 w2 w4 R1 y8 y6 (L.getD 0 false) (L.getD 1 false) (L.getD 2 false) (L.getD 3 false) (L.getD 4 false) (L.getD 5 false) (L.getD 6 false) (L.getD 7 false) (L.getD 8 false) ∧ Below W0.heap.size W0 wz ∧ (L.getD 6 false = true → W0.heap.size ≤ y6 ∧ wz.heap[y6]? = some (cond ((L.getD 7 false)) (spotO (T E.x) (T E.y) (T E.z)) (spotO ⟨#[]⟩ ⟨#[]⟩ ⟨#[]⟩))) ∧ (L.getD 7 false = true → L.getD 6 false = true)
theorem RelE6.keep {a b : I3} {A C d V Q E : V3} {r : Rat} {s : Int} {w w1 w2 w4 : World} {R1 : Bool} {y8 : Nat} {W0 wz wz' : World} {L L' : Array Bool} {F : Act} {y6 : Nat} (hB : Below W0.heap.size W0 wz) (h6 : L.getD 6 false = true → W0.heap.size ≤ y6 ∧ wz.heap[y6]? = some (cond ((L.getD 7 false)) (spotO (T E.x) (T E.y) (T E.z)) (spotO ⟨#[]⟩ ⟨#[]⟩ ⟨#[]⟩))) (g6 : L.getD 7 false = true → L.getD 6 false = true) (hb : Below wz.heap.size wz wz') (e6 : L'.getD 6 false = L.getD 6 false) (e7 : L'.getD 7 false = L.getD 7 false) (hF : F = actE6 a b A C d V Q E r s w w1 w2 w4 R1 y8 y6 (L'.getD 0 false) (L'.getD 1 false) (L'.getD 2 false) (L'.getD 3 false) (L'.getD 4 false) (L'.getD 5 false) (L'.getD 6 false) (L'.getD 7 false) (L'.getD 8 false)) : RelE6 a b A C d V Q E r s w w1 w2 w4 R1 y8 W0 L' F wz' := by
  refine ⟨y6, hF, hB.trans (hb.mono hB.size), ?_, ?_⟩
  · rw [e6, e7]
    intro h
    exact ⟨(h6 h).1, below_blk hb (h6 h).2 (lt_blk (h6 h).2)⟩
  · rw [e7, e6]
    exact g6
set_option maxRecDepth 100000 in
set_option maxHeartbeats 16000000 in
theorem lawEnds_any {a b : I3} (ha : small3 a) (hb : small3 b) {s : Int} (s0 : -128 ≤ s) (s1 : s ≤ 127) (B : Nat) (w : World) (hB : B ≤ w.heap.size) (hT : PQ B w) :
    Calls Tryz.prog 7 #[smallV a b, .int .i8 s] w (Ret w (.bool true)) := by
  have HT := hide hT
  have HOF := hide (lof_to ha hb B)
  have HAW := hide (fun w hB hT => hawake_any B w hB hT)
  have hm := small_mem ha hb
  have sa := v3_sz ha
  have sc := v3_sz (moved_small (a := a) hb)
  obtain ⟨A, hA⟩ : ∃ A, A = v3 a := ⟨_, rfl⟩
  obtain ⟨C, hC⟩ : ∃ A, A = v3 (moved a b) := ⟨_, rfl⟩
  rw [← hA, ← hC] at HOF hm
  rw [← hA] at sa
  rw [← hC] at sc
  have hne := hm.ne
  have sd : szV 7 (vsub C A) := szV_sub sc sa
  have sr : sz 3 (Rat.divInt s 16) := divInt_sz (by omega) (by omega) (by decide)
  have hsh := meets_share hne (Rat.divInt s 16)
  rw [sixteenth] at hsh
  have hal := fun u (h : meetsP A C (vadd (vadd A (vmul (vsub C A) (vall (Rat.divInt s 16)))) u)) => meets_along h
  have HN := hide (fun w hB hT => lnum_any s 16 (by omega) (by omega) (by omega) (by omega) B w hB hT)
  have HSB := hide (fun w hB hT => (vSub_O (szV_fits sc (by rw [most_eq]; omega)) (szV_fits sa (by rw [most_eq]; omega)) B w hB hT).mono fun _ _ hr => ResV.of (sub2_sz sc sa (by rw [most_eq]; omega)) hr)
  obtain ⟨r, hr⟩ : ∃ r, r = Rat.divInt s 16 := ⟨_, rfl⟩
  obtain ⟨d, hd⟩ : ∃ d, d = vsub C A := ⟨_, rfl⟩
  rw [← hd] at sd HSB
  rw [← hr] at sr HN
  simp only [← hd, ← hr] at hsh hal
  have sv := szV_mul sd (szV_all sr)
  have HSC := hide (fun w hB hT => (vScale_O (szV_fits sd (by rw [most_eq]; omega)) (sz_fits sr (by rw [most_eq]; omega)) B w hB hT).mono fun _ _ hr => ResV.of (mul2_sz sd (szV_all sr) (by rw [most_eq]; omega)) hr)
  obtain ⟨V, hV⟩ : ∃ Z, Z = vmul d (vall r) := ⟨_, rfl⟩
  rw [← hV] at sv HSC
  simp only [← hV] at hsh hal
  have sq := szV_add sa sv
  have HAD := hide (fun w hB hT => (vAdd_O (szV_fits sa (by rw [most_eq]; omega)) (szV_fits sv (by rw [most_eq]; omega)) B w hB hT).mono fun _ _ hr => ResV.of (add2_sz sa sv (by rw [most_eq]; omega)) hr)
  obtain ⟨Q, hQ⟩ : ∃ Z, Z = vadd A V := ⟨_, rfl⟩
  rw [← hQ] at sq HAD
  simp only [← hQ] at hsh hal
  have HAB := hide (fun w hB hT => (vAdd_O (szV_fits sq (by rw [most_eq]; omega)) (szV_fits pU_sz (by rw [most_eq]; omega)) B w hB hT).mono fun _ _ hr => ResV.of (add2_sz sq pU_sz (by rw [most_eq]; omega)) hr)
  have sbs := szV_add sq pU_sz
  obtain ⟨E, hE⟩ : ∃ Z, Z = vadd Q pU := ⟨_, rfl⟩
  rw [← hE] at sbs HAB
  have hal1 := hal pU
  rw [← hE] at hal1
  obtain ⟨R1, hR1⟩ : ∃ r : Bool, r = decide (meetsP A C Q) := ⟨_, rfl⟩
  obtain ⟨R2, hR2⟩ : ∃ r : Bool, r = decide (meetsP A C E) := ⟨_, rfl⟩
  obtain ⟨R3, hR3⟩ : ∃ r : Bool, r = decide (vcross d pU = vzero) := ⟨_, rfl⟩
  have HM1 := hide (fun w hB hT => hMeets_to hm (q := Q) (szV_mono sq (by omega)) hR1 B w hB hT)
  have HM2 := hide (fun w hB hT => hMeets_to hm (q := E) (szV_mono sbs (by omega)) hR2 B w hB hT)
  have HPA := hide (fun w hB hT => vParallel_T (szV_fits sd (by rw [most_eq]; omega)) (szV_fits pU_sz (by rw [most_eq]; omega)) (cross_sz sd pU_sz (by rw [most_eq]; omega)).1 hR3 B w hB hT)
  rw [vu_eq] at HAB HPA
  have hf1 : (s < 0 ∧ R1 = false) ∨ (0 ≤ s ∧ s ≤ 16 ∧ R1 = true) ∨ (16 < s ∧ R1 = false) := by
    rcases Int.lt_or_le s 0 with h | h
    · exact .inl ⟨h, by rw [hR1, decide_eq_false_iff_not, hsh]; omega⟩
    · rcases Int.lt_or_le 16 s with h2 | h2
      · exact .inr (.inr ⟨h2, by rw [hR1, decide_eq_false_iff_not, hsh]; omega⟩)
      · exact .inr (.inl ⟨h, h2, by rw [hR1, decide_eq_true_iff, hsh]; omega⟩)
  have hf2 : R3 = true ∨ (R3 = false ∧ R2 = false) := by
    by_cases h : R3 = true
    · exact .inl h
    · refine .inr ⟨by simpa using h, ?_⟩
      rw [hR2, decide_eq_false_iff_not]
      intro h2
      exact h (by rw [hR3]; exact decide_eq_true (hal1 h2))
  have HF1 := hide hf1
  have HF2 := hide hf2
  have hmx := mx7
  have X0 := hide (heap1 w (.cells #[.int .i8 a.x, .int .i8 a.y, .int .i8 a.z, .int .i8 b.x, .int .i8 b.y, .int .i8 b.z] 43))
  clear hm hne hA hC ha hb hT sa sc sd hd hr sr hsh hal hal1 sv hV sq hQ sbs hE hR1 hR2 hR3 hf1 hf2
  go_enter Tryz.func7, Tryz.ntmps7
  go_wp2_with fail
  refine (HOF.out _ (Nat.le_trans hB X0.out.2.2.size) (HT.out.on X0.out.2.2 hB)).mono ?_
  rintro e w1 ⟨rfl, hb1⟩
  have X1 := hide (heap1 w1 (memO 6 1 0 A C 80 220))
  have M1 := hide X1.out.1
  have HB1 := hide (X0.out.2.2.trans ((hb1.trans (X1.out.2.2.mono hb1.size)).mono X0.out.2.2.size))
  clear hb1 X1
  have c0 := cell_blk M1.out 0
  have c1 := cell_blk M1.out 1
  have c2 := cell_blk M1.out 2
  have c3 := cell_blk M1.out 3
  have c4 := cell_blk M1.out 4
  have c5 := cell_blk M1.out 5
  have c6 := cell_blk M1.out 6
  have c7 := cell_blk M1.out 7
  have c8 := cell_blk M1.out 8
  have c9 := cell_blk M1.out 9
  have c10 := cell_blk M1.out 10
  have cl := lt_blk M1.out
  go_wp2_with fail
  refine (HSB.out _ (Nat.le_trans hB HB1.out.size) (HT.out.on HB1.out hB)).mono ?_
  rintro e w2 ⟨rfl, hb2⟩
  have X := hide (heap1 w2 (vecO d))
  have hb2 := hb2.trans (X.out.2.2.mono hb2.size)
  have M1 := hide (below_blk hb2 M1.out (lt_blk M1.out))
  have D1 := hide X.out.1
  have HB2 := hide (HB1.out.trans (hb2.mono HB1.out.size))
  clear hb2 X c0 c1 c2 c3 c4 c5 c6 c7 c8 c9 c10 cl
  go_wp2_with fail
  obtain ⟨W2, hW2⟩ : ∃ W, W = w2.alloc (vecO d) := ⟨_, rfl⟩
  rw [← hW2] at D1 M1 HB2 ⊢
  clear hW2
  have hBr : B ≤ W2.heap.size := Nat.le_trans hB HB2.out.size
  have HPr := hide (HT.out.on HB2.out hB)
  refine region_steps 11 (RelE3 a b A C d V r s w w1 w2 W2) (by kernel_rfl) (by decide) (by kernel_rfl) (by kernel_rfl) ⟨0, rfl, (Below.refl _ _).drew, (fun h => by cases h), (fun h => by cases h)⟩ ?_ ?_
  · intro i o L F v hi ho hL hf hd hS
    obtain ⟨y8, rfl, hV, h8, g8⟩ := hS
    have hi6 : i = 0 ∨ i = 1 ∨ i = 2 ∨ i = 3 ∨ i = 4 ∨ i = 5 ∨ i = 6 ∨ i = 7 ∨ i = 8 ∨ i = 9 ∨ i = 10 := by omega
    rcases hi6 with rfl | rfl | rfl | rfl | rfl | rfl | rfl | rfl | rfl | rfl | rfl
    all_goals
      simp only [List.getElem?_cons_zero, List.getElem?_cons_succ, Option.some.injEq] at ho
      subst ho
    · have G := fun j => getD_set (j := j) hL hi
      obtain ⟨x0, hx0⟩ : ∃ x, x = L.getD 0 false := ⟨_, rfl⟩
      obtain ⟨x1, hx1⟩ : ∃ x, x = L.getD 1 false := ⟨_, rfl⟩
      obtain ⟨x2, hx2⟩ : ∃ x, x = L.getD 2 false := ⟨_, rfl⟩
      obtain ⟨x3, hx3⟩ : ∃ x, x = L.getD 3 false := ⟨_, rfl⟩
      obtain ⟨x4, hx4⟩ : ∃ x, x = L.getD 4 false := ⟨_, rfl⟩
      obtain ⟨x5, hx5⟩ : ∃ x, x = L.getD 5 false := ⟨_, rfl⟩
      obtain ⟨x6, hx6⟩ : ∃ x, x = L.getD 6 false := ⟨_, rfl⟩
      obtain ⟨x7, hx7⟩ : ∃ x, x = L.getD 7 false := ⟨_, rfl⟩
      obtain ⟨x8, hx8⟩ : ∃ x, x = L.getD 8 false := ⟨_, rfl⟩
      obtain ⟨x9, hx9⟩ : ∃ x, x = L.getD 9 false := ⟨_, rfl⟩
      obtain ⟨x10, hx10⟩ : ∃ x, x = L.getD 10 false := ⟨_, rfl⟩
      rw [← hx0, ← hx1, ← hx2, ← hx3, ← hx4, ← hx5, ← hx6, ← hx7, ← hx8, ← hx9, ← hx10]
      have HK : Hid (∀ F, F = actE3 a b A C d V r s w w1 w2 y8 true x1 x2 x3 x4 x5 x6 x7 x8 x9 x10 → RelE3 a b A C d V r s w w1 w2 W2 (L.setIfInBounds 0 true) F v) := hide (fun F hF => RelE3.keep hV h8 g8 (Below.refl _ v) (by rw [G]; rfl) (by rw [G]; rfl) (by rw [hF, G, G, G, G, G, G, G, G, G, G, G, hx1, hx2, hx3, hx4, hx5, hx6, hx7, hx8, hx9, hx10]; rfl))
      have e0 := below_blk hV D1.out (lt_blk D1.out)
      have l0 := lt_blk e0
      have k0_0 := cell_blk e0 0
      have k0_1 := cell_blk e0 1
      have k0_2 := cell_blk e0 2
      unfold actE3
      clear h8 g8 hV hd e0 hx0 hx1 hx2 hx3 hx4 hx5 hx6 hx7 hx8 hx9 hx10 G hf hL hi
      go_wp2_with fail
      exact HK.out _ rfl
    · have G := fun j => getD_set (j := j) hL hi
      obtain ⟨x0, hx0⟩ : ∃ x, x = L.getD 0 false := ⟨_, rfl⟩
      obtain ⟨x1, hx1⟩ : ∃ x, x = L.getD 1 false := ⟨_, rfl⟩
      obtain ⟨x2, hx2⟩ : ∃ x, x = L.getD 2 false := ⟨_, rfl⟩
      obtain ⟨x3, hx3⟩ : ∃ x, x = L.getD 3 false := ⟨_, rfl⟩
      obtain ⟨x4, hx4⟩ : ∃ x, x = L.getD 4 false := ⟨_, rfl⟩
      obtain ⟨x5, hx5⟩ : ∃ x, x = L.getD 5 false := ⟨_, rfl⟩
      obtain ⟨x6, hx6⟩ : ∃ x, x = L.getD 6 false := ⟨_, rfl⟩
      obtain ⟨x7, hx7⟩ : ∃ x, x = L.getD 7 false := ⟨_, rfl⟩
      obtain ⟨x8, hx8⟩ : ∃ x, x = L.getD 8 false := ⟨_, rfl⟩
      obtain ⟨x9, hx9⟩ : ∃ x, x = L.getD 9 false := ⟨_, rfl⟩
      obtain ⟨x10, hx10⟩ : ∃ x, x = L.getD 10 false := ⟨_, rfl⟩
      rw [← hx0, ← hx1, ← hx2, ← hx3, ← hx4, ← hx5, ← hx6, ← hx7, ← hx8, ← hx9, ← hx10]
      have HK : Hid (∀ F, F = actE3 a b A C d V r s w w1 w2 y8 x0 true x2 x3 x4 x5 x6 x7 x8 x9 x10 → RelE3 a b A C d V r s w w1 w2 W2 (L.setIfInBounds 1 true) F v) := hide (fun F hF => RelE3.keep hV h8 g8 (Below.refl _ v) (by rw [G]; rfl) (by rw [G]; rfl) (by rw [hF, G, G, G, G, G, G, G, G, G, G, G, hx0, hx2, hx3, hx4, hx5, hx6, hx7, hx8, hx9, hx10]; rfl))
      unfold actE3
      clear h8 g8 hV hd hx0 hx1 hx2 hx3 hx4 hx5 hx6 hx7 hx8 hx9 hx10 G hf hL hi
      go_wp2_with fail
      exact HK.out _ rfl
    · have G := fun j => getD_set (j := j) hL hi
      obtain ⟨x0, hx0⟩ : ∃ x, x = L.getD 0 false := ⟨_, rfl⟩
      obtain ⟨x1, hx1⟩ : ∃ x, x = L.getD 1 false := ⟨_, rfl⟩
      obtain ⟨x2, hx2⟩ : ∃ x, x = L.getD 2 false := ⟨_, rfl⟩
      obtain ⟨x3, hx3⟩ : ∃ x, x = L.getD 3 false := ⟨_, rfl⟩
      obtain ⟨x4, hx4⟩ : ∃ x, x = L.getD 4 false := ⟨_, rfl⟩
      obtain ⟨x5, hx5⟩ : ∃ x, x = L.getD 5 false := ⟨_, rfl⟩
      obtain ⟨x6, hx6⟩ : ∃ x, x = L.getD 6 false := ⟨_, rfl⟩
      obtain ⟨x7, hx7⟩ : ∃ x, x = L.getD 7 false := ⟨_, rfl⟩
      obtain ⟨x8, hx8⟩ : ∃ x, x = L.getD 8 false := ⟨_, rfl⟩
      obtain ⟨x9, hx9⟩ : ∃ x, x = L.getD 9 false := ⟨_, rfl⟩
      obtain ⟨x10, hx10⟩ : ∃ x, x = L.getD 10 false := ⟨_, rfl⟩
      rw [← hx0, ← hx1, ← hx2, ← hx3, ← hx4, ← hx5, ← hx6, ← hx7, ← hx8, ← hx9, ← hx10]
      have hdep1 : x1 = true := by rw [hx1]; exact hd 1 (waitsB_iff.1 (by kernel_rfl))
      have HK : Hid (∀ F, F = actE3 a b A C d V r s w w1 w2 y8 x0 x1 true x3 x4 x5 x6 x7 x8 x9 x10 → RelE3 a b A C d V r s w w1 w2 W2 (L.setIfInBounds 2 true) F v) := hide (fun F hF => RelE3.keep hV h8 g8 (Below.refl _ v) (by rw [G]; rfl) (by rw [G]; rfl) (by rw [hF, G, G, G, G, G, G, G, G, G, G, G, hx0, hx1, hx3, hx4, hx5, hx6, hx7, hx8, hx9, hx10]; rfl))
      unfold actE3
      clear h8 g8 hV hd hx0 hx1 hx2 hx3 hx4 hx5 hx6 hx7 hx8 hx9 hx10 G hf hL hi
      subst hdep1
      simp only [sel_t]
      go_wp2_with fail
      exact HK.out _ rfl
    · have G := fun j => getD_set (j := j) hL hi
      obtain ⟨x0, hx0⟩ : ∃ x, x = L.getD 0 false := ⟨_, rfl⟩
      obtain ⟨x1, hx1⟩ : ∃ x, x = L.getD 1 false := ⟨_, rfl⟩
      obtain ⟨x2, hx2⟩ : ∃ x, x = L.getD 2 false := ⟨_, rfl⟩
      obtain ⟨x3, hx3⟩ : ∃ x, x = L.getD 3 false := ⟨_, rfl⟩
      obtain ⟨x4, hx4⟩ : ∃ x, x = L.getD 4 false := ⟨_, rfl⟩
      obtain ⟨x5, hx5⟩ : ∃ x, x = L.getD 5 false := ⟨_, rfl⟩
      obtain ⟨x6, hx6⟩ : ∃ x, x = L.getD 6 false := ⟨_, rfl⟩
      obtain ⟨x7, hx7⟩ : ∃ x, x = L.getD 7 false := ⟨_, rfl⟩
      obtain ⟨x8, hx8⟩ : ∃ x, x = L.getD 8 false := ⟨_, rfl⟩
      obtain ⟨x9, hx9⟩ : ∃ x, x = L.getD 9 false := ⟨_, rfl⟩
      obtain ⟨x10, hx10⟩ : ∃ x, x = L.getD 10 false := ⟨_, rfl⟩
      rw [← hx0, ← hx1, ← hx2, ← hx3, ← hx4, ← hx5, ← hx6, ← hx7, ← hx8, ← hx9, ← hx10]
      have hdep2 : x2 = true := by rw [hx2]; exact hd 2 (waitsB_iff.1 (by kernel_rfl))
      have HK : Hid (∀ (v2 : World) F, Below v.heap.size v v2 → F = actE3 a b A C d V r s w w1 w2 y8 x0 x1 x2 true x4 x5 x6 x7 x8 x9 x10 → RelE3 a b A C d V r s w w1 w2 W2 (L.setIfInBounds 3 true) F v2) := hide (fun v2 F hb hF => RelE3.keep hV h8 g8 hb (by rw [G]; rfl) (by rw [G]; rfl) (by rw [hF, G, G, G, G, G, G, G, G, G, G, G, hx0, hx1, hx2, hx4, hx5, hx6, hx7, hx8, hx9, hx10]; rfl))
      have HVV := hide hV
      unfold actE3
      clear h8 g8 hV hd hx0 hx1 hx2 hx3 hx4 hx5 hx6 hx7 hx8 hx9 hx10 G hf hL hi
      subst hdep2
      simp only [sel_t]
      go_wp2_with fail
      refine (HN.out v (Nat.le_trans hBr HVV.out.size) (HPr.out.on HVV.out hBr)).mono ?_
      rintro e v2 ⟨rfl, hb2⟩
      have HK2 := hide (HK.out v2)
      have HB2 := hide hb2
      clear hb2 HK
      go_wp2_with fail
      exact HK2.out _ HB2.out rfl
    · have G := fun j => getD_set (j := j) hL hi
      obtain ⟨x0, hx0⟩ : ∃ x, x = L.getD 0 false := ⟨_, rfl⟩
      obtain ⟨x1, hx1⟩ : ∃ x, x = L.getD 1 false := ⟨_, rfl⟩
      obtain ⟨x2, hx2⟩ : ∃ x, x = L.getD 2 false := ⟨_, rfl⟩
      obtain ⟨x3, hx3⟩ : ∃ x, x = L.getD 3 false := ⟨_, rfl⟩
      obtain ⟨x4, hx4⟩ : ∃ x, x = L.getD 4 false := ⟨_, rfl⟩
      obtain ⟨x5, hx5⟩ : ∃ x, x = L.getD 5 false := ⟨_, rfl⟩
      obtain ⟨x6, hx6⟩ : ∃ x, x = L.getD 6 false := ⟨_, rfl⟩
      obtain ⟨x7, hx7⟩ : ∃ x, x = L.getD 7 false := ⟨_, rfl⟩
      obtain ⟨x8, hx8⟩ : ∃ x, x = L.getD 8 false := ⟨_, rfl⟩
      obtain ⟨x9, hx9⟩ : ∃ x, x = L.getD 9 false := ⟨_, rfl⟩
      obtain ⟨x10, hx10⟩ : ∃ x, x = L.getD 10 false := ⟨_, rfl⟩
      rw [← hx0, ← hx1, ← hx2, ← hx3, ← hx4, ← hx5, ← hx6, ← hx7, ← hx8, ← hx9, ← hx10]
      have hdep0 : x0 = true := by rw [hx0]; exact hd 0 (waitsB_iff.1 (by kernel_rfl))
      have hdep3 : x3 = true := by rw [hx3]; exact hd 3 (waitsB_iff.1 (by kernel_rfl))
      have HK : Hid (∀ (v2 : World) F, Below v.heap.size v v2 → F = actE3 a b A C d V r s w w1 w2 y8 x0 x1 x2 x3 true x5 x6 x7 x8 x9 x10 → RelE3 a b A C d V r s w w1 w2 W2 (L.setIfInBounds 4 true) F v2) := hide (fun v2 F hb hF => RelE3.keep hV h8 g8 hb (by rw [G]; rfl) (by rw [G]; rfl) (by rw [hF, G, G, G, G, G, G, G, G, G, G, G, hx0, hx1, hx2, hx3, hx5, hx6, hx7, hx8, hx9, hx10]; rfl))
      have HVV := hide hV
      unfold actE3
      clear h8 g8 hV hd hx0 hx1 hx2 hx3 hx4 hx5 hx6 hx7 hx8 hx9 hx10 G hf hL hi
      subst hdep0
      subst hdep3
      simp only [sel_t]
      go_wp2_with fail
      refine (HSC.out v (Nat.le_trans hBr HVV.out.size) (HPr.out.on HVV.out hBr)).mono ?_
      rintro e v2 ⟨rfl, hb2⟩
      have HK2 := hide (HK.out v2)
      have HB2 := hide hb2
      clear hb2 HK
      go_wp2_with fail
      exact HK2.out _ HB2.out rfl
    · have G := fun j => getD_set (j := j) hL hi
      obtain ⟨x0, hx0⟩ : ∃ x, x = L.getD 0 false := ⟨_, rfl⟩
      obtain ⟨x1, hx1⟩ : ∃ x, x = L.getD 1 false := ⟨_, rfl⟩
      obtain ⟨x2, hx2⟩ : ∃ x, x = L.getD 2 false := ⟨_, rfl⟩
      obtain ⟨x3, hx3⟩ : ∃ x, x = L.getD 3 false := ⟨_, rfl⟩
      obtain ⟨x4, hx4⟩ : ∃ x, x = L.getD 4 false := ⟨_, rfl⟩
      obtain ⟨x5, hx5⟩ : ∃ x, x = L.getD 5 false := ⟨_, rfl⟩
      obtain ⟨x6, hx6⟩ : ∃ x, x = L.getD 6 false := ⟨_, rfl⟩
      obtain ⟨x7, hx7⟩ : ∃ x, x = L.getD 7 false := ⟨_, rfl⟩
      obtain ⟨x8, hx8⟩ : ∃ x, x = L.getD 8 false := ⟨_, rfl⟩
      obtain ⟨x9, hx9⟩ : ∃ x, x = L.getD 9 false := ⟨_, rfl⟩
      obtain ⟨x10, hx10⟩ : ∃ x, x = L.getD 10 false := ⟨_, rfl⟩
      rw [← hx0, ← hx1, ← hx2, ← hx3, ← hx4, ← hx5, ← hx6, ← hx7, ← hx8, ← hx9, ← hx10]
      have hdep4 : x4 = true := by rw [hx4]; exact hd 4 (waitsB_iff.1 (by kernel_rfl))
      have HK : Hid (∀ F, F = actE3 a b A C d V r s w w1 w2 y8 x0 x1 x2 x3 x4 true x6 x7 x8 x9 x10 → RelE3 a b A C d V r s w w1 w2 W2 (L.setIfInBounds 5 true) F v) := hide (fun F hF => RelE3.keep hV h8 g8 (Below.refl _ v) (by rw [G]; rfl) (by rw [G]; rfl) (by rw [hF, G, G, G, G, G, G, G, G, G, G, G, hx0, hx1, hx2, hx3, hx4, hx6, hx7, hx8, hx9, hx10]; rfl))
      unfold actE3
      clear h8 g8 hV hd hx0 hx1 hx2 hx3 hx4 hx5 hx6 hx7 hx8 hx9 hx10 G hf hL hi
      subst hdep4
      simp only [sel_t]
      go_wp2_with fail
      exact HK.out _ rfl
    · have G := fun j => getD_set (j := j) hL hi
      obtain ⟨x0, hx0⟩ : ∃ x, x = L.getD 0 false := ⟨_, rfl⟩
      obtain ⟨x1, hx1⟩ : ∃ x, x = L.getD 1 false := ⟨_, rfl⟩
      obtain ⟨x2, hx2⟩ : ∃ x, x = L.getD 2 false := ⟨_, rfl⟩
      obtain ⟨x3, hx3⟩ : ∃ x, x = L.getD 3 false := ⟨_, rfl⟩
      obtain ⟨x4, hx4⟩ : ∃ x, x = L.getD 4 false := ⟨_, rfl⟩
      obtain ⟨x5, hx5⟩ : ∃ x, x = L.getD 5 false := ⟨_, rfl⟩
      obtain ⟨x6, hx6⟩ : ∃ x, x = L.getD 6 false := ⟨_, rfl⟩
      obtain ⟨x7, hx7⟩ : ∃ x, x = L.getD 7 false := ⟨_, rfl⟩
      obtain ⟨x8, hx8⟩ : ∃ x, x = L.getD 8 false := ⟨_, rfl⟩
      obtain ⟨x9, hx9⟩ : ∃ x, x = L.getD 9 false := ⟨_, rfl⟩
      obtain ⟨x10, hx10⟩ : ∃ x, x = L.getD 10 false := ⟨_, rfl⟩
      rw [← hx0, ← hx1, ← hx2, ← hx3, ← hx4, ← hx5, ← hx6, ← hx7, ← hx8, ← hx9, ← hx10]
      have hdep5 : x5 = true := by rw [hx5]; exact hd 5 (waitsB_iff.1 (by kernel_rfl))
      have HK : Hid (∀ F, F = actE3 a b A C d V r s w w1 w2 y8 x0 x1 x2 x3 x4 x5 true x7 x8 x9 x10 → RelE3 a b A C d V r s w w1 w2 W2 (L.setIfInBounds 6 true) F v) := hide (fun F hF => RelE3.keep hV h8 g8 (Below.refl _ v) (by rw [G]; rfl) (by rw [G]; rfl) (by rw [hF, G, G, G, G, G, G, G, G, G, G, G, hx0, hx1, hx2, hx3, hx4, hx5, hx7, hx8, hx9, hx10]; rfl))
      unfold actE3
      clear h8 g8 hV hd hx0 hx1 hx2 hx3 hx4 hx5 hx6 hx7 hx8 hx9 hx10 G hf hL hi
      subst hdep5
      simp only [sel_t]
      go_wp2_with fail
      exact HK.out _ rfl
    · have G := fun j => getD_set (j := j) hL hi
      obtain ⟨x0, hx0⟩ : ∃ x, x = L.getD 0 false := ⟨_, rfl⟩
      obtain ⟨x1, hx1⟩ : ∃ x, x = L.getD 1 false := ⟨_, rfl⟩
      obtain ⟨x2, hx2⟩ : ∃ x, x = L.getD 2 false := ⟨_, rfl⟩
      obtain ⟨x3, hx3⟩ : ∃ x, x = L.getD 3 false := ⟨_, rfl⟩
      obtain ⟨x4, hx4⟩ : ∃ x, x = L.getD 4 false := ⟨_, rfl⟩
      obtain ⟨x5, hx5⟩ : ∃ x, x = L.getD 5 false := ⟨_, rfl⟩
      obtain ⟨x6, hx6⟩ : ∃ x, x = L.getD 6 false := ⟨_, rfl⟩
      obtain ⟨x7, hx7⟩ : ∃ x, x = L.getD 7 false := ⟨_, rfl⟩
      obtain ⟨x8, hx8⟩ : ∃ x, x = L.getD 8 false := ⟨_, rfl⟩
      obtain ⟨x9, hx9⟩ : ∃ x, x = L.getD 9 false := ⟨_, rfl⟩
      obtain ⟨x10, hx10⟩ : ∃ x, x = L.getD 10 false := ⟨_, rfl⟩
      rw [← hx0, ← hx1, ← hx2, ← hx3, ← hx4, ← hx5, ← hx6, ← hx7, ← hx8, ← hx9, ← hx10]
      have hdep5 : x5 = true := by rw [hx5]; exact hd 5 (waitsB_iff.1 (by kernel_rfl))
      have HK : Hid (∀ F, F = actE3 a b A C d V r s w w1 w2 y8 x0 x1 x2 x3 x4 x5 x6 true x8 x9 x10 → RelE3 a b A C d V r s w w1 w2 W2 (L.setIfInBounds 7 true) F v) := hide (fun F hF => RelE3.keep hV h8 g8 (Below.refl _ v) (by rw [G]; rfl) (by rw [G]; rfl) (by rw [hF, G, G, G, G, G, G, G, G, G, G, G, hx0, hx1, hx2, hx3, hx4, hx5, hx6, hx8, hx9, hx10]; rfl))
      unfold actE3
      clear h8 g8 hV hd hx0 hx1 hx2 hx3 hx4 hx5 hx6 hx7 hx8 hx9 hx10 G hf hL hi
      subst hdep5
      simp only [sel_t]
      go_wp2_with fail
      exact HK.out _ rfl
    · have G := fun j => getD_set (j := j) hL hi
      obtain ⟨x0, hx0⟩ : ∃ x, x = L.getD 0 false := ⟨_, rfl⟩
      obtain ⟨x1, hx1⟩ : ∃ x, x = L.getD 1 false := ⟨_, rfl⟩
      obtain ⟨x2, hx2⟩ : ∃ x, x = L.getD 2 false := ⟨_, rfl⟩
      obtain ⟨x3, hx3⟩ : ∃ x, x = L.getD 3 false := ⟨_, rfl⟩
      obtain ⟨x4, hx4⟩ : ∃ x, x = L.getD 4 false := ⟨_, rfl⟩
      obtain ⟨x5, hx5⟩ : ∃ x, x = L.getD 5 false := ⟨_, rfl⟩
      obtain ⟨x6, hx6⟩ : ∃ x, x = L.getD 6 false := ⟨_, rfl⟩
      obtain ⟨x7, hx7⟩ : ∃ x, x = L.getD 7 false := ⟨_, rfl⟩
      obtain ⟨x8, hx8⟩ : ∃ x, x = L.getD 8 false := ⟨_, rfl⟩
      obtain ⟨x9, hx9⟩ : ∃ x, x = L.getD 9 false := ⟨_, rfl⟩
      obtain ⟨x10, hx10⟩ : ∃ x, x = L.getD 10 false := ⟨_, rfl⟩
      rw [← hx0, ← hx1, ← hx2, ← hx3, ← hx4, ← hx5, ← hx6, ← hx7, ← hx8, ← hx9, ← hx10]
      have HK : Hid (∀ F, F = actE3 a b A C d V r s w w1 w2 v.heap.size x0 x1 x2 x3 x4 x5 x6 x7 true x9 x10 → RelE3 a b A C d V r s w w1 w2 W2 (L.setIfInBounds 8 true) F (v.alloc (spotO ⟨#[]⟩ ⟨#[]⟩ ⟨#[]⟩))) := hide (fun F hF => ⟨v.heap.size, by rw [hF, G, G, G, G, G, G, G, G, G, G, G, hx0, hx1, hx2, hx3, hx4, hx5, hx6, hx7, hx9, hx10]; rfl, hV.trans ((heap1 v (spotO ⟨#[]⟩ ⟨#[]⟩ ⟨#[]⟩)).2.2.mono hV.size), (fun _ => ⟨hV.size, by rw [show (L.setIfInBounds 8 true).getD 9 false = false from (by rw [G]; show L.getD 9 false = false; cases hz : L.getD 9 false with | false => rfl | true => rw [g8 hz] at hf; cases hf)]; exact heap_alloc_new v _⟩), (fun _ => by rw [G]; rfl)⟩)
      unfold actE3
      clear h8 g8 hV hd hx0 hx1 hx2 hx3 hx4 hx5 hx6 hx7 hx8 hx9 hx10 G hf hL hi
      go_wp2_with fail
      exact HK.out _ rfl
    · have G := fun j => getD_set (j := j) hL hi
      obtain ⟨x0, hx0⟩ : ∃ x, x = L.getD 0 false := ⟨_, rfl⟩
      obtain ⟨x1, hx1⟩ : ∃ x, x = L.getD 1 false := ⟨_, rfl⟩
      obtain ⟨x2, hx2⟩ : ∃ x, x = L.getD 2 false := ⟨_, rfl⟩
      obtain ⟨x3, hx3⟩ : ∃ x, x = L.getD 3 false := ⟨_, rfl⟩
      obtain ⟨x4, hx4⟩ : ∃ x, x = L.getD 4 false := ⟨_, rfl⟩
      obtain ⟨x5, hx5⟩ : ∃ x, x = L.getD 5 false := ⟨_, rfl⟩
      obtain ⟨x6, hx6⟩ : ∃ x, x = L.getD 6 false := ⟨_, rfl⟩
      obtain ⟨x7, hx7⟩ : ∃ x, x = L.getD 7 false := ⟨_, rfl⟩
      obtain ⟨x8, hx8⟩ : ∃ x, x = L.getD 8 false := ⟨_, rfl⟩
      obtain ⟨x9, hx9⟩ : ∃ x, x = L.getD 9 false := ⟨_, rfl⟩
      obtain ⟨x10, hx10⟩ : ∃ x, x = L.getD 10 false := ⟨_, rfl⟩
      rw [← hx0, ← hx1, ← hx2, ← hx3, ← hx4, ← hx5, ← hx6, ← hx7, ← hx8, ← hx9, ← hx10]
      have hdep6 : x6 = true := by rw [hx6]; exact hd 6 (waitsB_iff.1 (by kernel_rfl))
      have hdep8 : x8 = true := by rw [hx8]; exact hd 8 (waitsB_iff.1 (by kernel_rfl))
      have hq := h8 (hx8.symm.trans hdep8)
      rw [hf] at hq
      have QS := hide hq.2
      have HK : Hid (∀ F, F = actE3 a b A C d V r s w w1 w2 y8 x0 x1 x2 x3 x4 x5 x6 x7 x8 true x10 → RelE3 a b A C d V r s w w1 w2 W2 (L.setIfInBounds 9 true) F (((v.setCell ⟨y8, 0, none⟩ (.string (T V.x))).setCell ⟨y8, 1, none⟩ (.string (T V.y))).setCell ⟨y8, 2, none⟩ (.string (T V.z)))) := hide (fun F hF => ⟨y8, by rw [hF, G, G, G, G, G, G, G, G, G, G, G, hx0, hx1, hx2, hx3, hx4, hx5, hx6, hx7, hx8, hx10]; rfl, below_spot hV hq.1 (.string (T V.x)) (.string (T V.y)) (.string (T V.z)), (fun _ => ⟨hq.1, by rw [show (L.setIfInBounds 9 true).getD 9 false = true from by rw [G]; rfl]; exact set3c (set3b (set3a QS.out _) _) _⟩), (fun _ => by rw [G]; show L.getD 8 false = true; exact hx8.symm.trans hdep8)⟩)
      have s0 := cell_blk QS.out 0
      have f0 := froz_blk QS.out 0
      have s1 := cell_blk QS.out 1
      have f1 := froz_blk QS.out 1
      have s2 := cell_blk QS.out 2
      have f2 := froz_blk QS.out 2
      have sl := lt_blk QS.out
      unfold actE3
      clear hq h8 g8 hV hd hx0 hx1 hx2 hx3 hx4 hx5 hx6 hx7 hx8 hx9 hx10 G hf hL hi
      subst hdep6
      subst hdep8
      simp only [sel_t]
      go_wp2_with fail
      exact HK.out _ rfl
    · have G := fun j => getD_set (j := j) hL hi
      obtain ⟨x0, hx0⟩ : ∃ x, x = L.getD 0 false := ⟨_, rfl⟩
      obtain ⟨x1, hx1⟩ : ∃ x, x = L.getD 1 false := ⟨_, rfl⟩
      obtain ⟨x2, hx2⟩ : ∃ x, x = L.getD 2 false := ⟨_, rfl⟩
      obtain ⟨x3, hx3⟩ : ∃ x, x = L.getD 3 false := ⟨_, rfl⟩
      obtain ⟨x4, hx4⟩ : ∃ x, x = L.getD 4 false := ⟨_, rfl⟩
      obtain ⟨x5, hx5⟩ : ∃ x, x = L.getD 5 false := ⟨_, rfl⟩
      obtain ⟨x6, hx6⟩ : ∃ x, x = L.getD 6 false := ⟨_, rfl⟩
      obtain ⟨x7, hx7⟩ : ∃ x, x = L.getD 7 false := ⟨_, rfl⟩
      obtain ⟨x8, hx8⟩ : ∃ x, x = L.getD 8 false := ⟨_, rfl⟩
      obtain ⟨x9, hx9⟩ : ∃ x, x = L.getD 9 false := ⟨_, rfl⟩
      obtain ⟨x10, hx10⟩ : ∃ x, x = L.getD 10 false := ⟨_, rfl⟩
      rw [← hx0, ← hx1, ← hx2, ← hx3, ← hx4, ← hx5, ← hx6, ← hx7, ← hx8, ← hx9, ← hx10]
      have hdep7 : x7 = true := by rw [hx7]; exact hd 7 (waitsB_iff.1 (by kernel_rfl))
      have HK : Hid (∀ F, F = actE3 a b A C d V r s w w1 w2 y8 x0 x1 x2 x3 x4 x5 x6 x7 x8 x9 true → RelE3 a b A C d V r s w w1 w2 W2 (L.setIfInBounds 10 true) F v) := hide (fun F hF => RelE3.keep hV h8 g8 (Below.refl _ v) (by rw [G]; rfl) (by rw [G]; rfl) (by rw [hF, G, G, G, G, G, G, G, G, G, G, G, hx0, hx1, hx2, hx3, hx4, hx5, hx6, hx7, hx8, hx9]; rfl))
      unfold actE3
      clear h8 g8 hV hd hx0 hx1 hx2 hx3 hx4 hx5 hx6 hx7 hx8 hx9 hx10 G hf hL hi
      subst hdep7
      simp only [sel_t]
      go_wp2_with fail
      exact HK.out _ rfl
  · intro F v hS
    obtain ⟨y8, rfl, hV, h8, g8⟩ := hS
    have Q8 : Hid (v.heap[y8]? = some (spotO (T V.x) (T V.y) (T V.z))) := hide (h8 rfl).2
    have q8 := (h8 rfl).1
    simp only [List.drop_succ_cons, List.drop_zero]
    show wpList _ _ _ _ (actE3 a b A C d V r s w w1 w2 y8 true true true true true true true true true true true) v
    unfold actE3
    simp only [sel_t]
    obtain ⟨w3, hw3⟩ : ∃ x, x = v := ⟨_, rfl⟩
    subst hw3
    have M1 := hide (below_blk hV M1.out (lt_blk M1.out))
    have D1 := hide (below_blk hV D1.out (lt_blk D1.out))
    have D2 := Q8
    have HB3 := hide (HB2.out.trans (hV.mono HB2.out.size))
    clear hV h8 g8 q8 Q8 hBr HPr
    have c0 := cell_blk M1.out 0
    have c1 := cell_blk M1.out 1
    have c2 := cell_blk M1.out 2
    have c3 := cell_blk M1.out 3
    have c4 := cell_blk M1.out 4
    have c5 := cell_blk M1.out 5
    have c6 := cell_blk M1.out 6
    have c7 := cell_blk M1.out 7
    have c8 := cell_blk M1.out 8
    have c9 := cell_blk M1.out 9
    have c10 := cell_blk M1.out 10
    have cl := lt_blk M1.out
    have d0 := cell_blk D1.out 0
    have d1 := cell_blk D1.out 1
    have d2 := cell_blk D1.out 2
    have dl := lt_blk D1.out
    have f0 := cell_blk D2.out 0
    have f1 := cell_blk D2.out 1
    have f2 := cell_blk D2.out 2
    have fl := lt_blk D2.out
    go_wp2_with fail
    refine (HAD.out _ (Nat.le_trans hB HB3.out.size) (HT.out.on HB3.out hB)).mono ?_
    rintro e w4 ⟨rfl, hb4⟩
    have X := hide (heap1 w4 (vecO Q))
    have hb4 := hb4.trans (X.out.2.2.mono hb4.size)
    have M1 := hide (below_blk hb4 M1.out (lt_blk M1.out))
    have D1 := hide (below_blk hb4 D1.out (lt_blk D1.out))
    have D2 := hide (below_blk hb4 D2.out (lt_blk D2.out))
    have D3 := hide X.out.1
    have HB4 := hide (HB3.out.trans (hb4.mono HB3.out.size))
    clear hb4 X c0 c1 c2 c3 c4 c5 c6 c7 c8 c9 c10 cl d0 d1 d2 dl f0 f1 f2 fl
    have c0 := cell_blk M1.out 0
    have c1 := cell_blk M1.out 1
    have c2 := cell_blk M1.out 2
    have c3 := cell_blk M1.out 3
    have c4 := cell_blk M1.out 4
    have c5 := cell_blk M1.out 5
    have c6 := cell_blk M1.out 6
    have c7 := cell_blk M1.out 7
    have c8 := cell_blk M1.out 8
    have c9 := cell_blk M1.out 9
    have c10 := cell_blk M1.out 10
    have cl := lt_blk M1.out
    have d0 := cell_blk D1.out 0
    have d1 := cell_blk D1.out 1
    have d2 := cell_blk D1.out 2
    have dl := lt_blk D1.out
    have g0 := cell_blk D3.out 0
    have g1 := cell_blk D3.out 1
    have g2 := cell_blk D3.out 2
    have gl := lt_blk D3.out
    go_wp2_with fail
    refine (HM1.out _ (Nat.le_trans hB HB4.out.size) (HT.out.on HB4.out hB)).mono ?_
    rintro e w5 ⟨rfl, hb5⟩
    have M1 := hide (below_blk hb5 M1.out (lt_blk M1.out))
    have D1 := hide (below_blk hb5 D1.out (lt_blk D1.out))
    have D3 := hide (below_blk hb5 D3.out (lt_blk D3.out))
    have HB5 := hide (HB4.out.trans (hb5.mono HB4.out.size))
    clear hb5 c0 c1 c2 c3 c4 c5 c6 c7 c8 c9 c10 cl d0 d1 d2 dl g0 g1 g2 gl D2
    go_wp2_with fail
    have hBr : B ≤ w5.heap.size := Nat.le_trans hB HB5.out.size
    have HPr := hide (HT.out.on HB5.out hB)
    have HSP := hide (fun (x y z : ByteArray) (w : World) => (lspot_at x y z w).mono fun e w' ⟨h, hb⟩ => show Ret w (spotV x y z) e w' from ⟨h, by rw [hb]; exact (heap1 w (spotO x y z)).2.2⟩)
    refine region_steps 9 (RelE6 a b A C d V Q E r s w w1 w2 w4 R1 y8 w5) (by kernel_rfl) (by decide) (by kernel_rfl) (by kernel_rfl) ⟨0, rfl, (Below.refl _ _).drew, (fun h => by cases h), (fun h => by cases h)⟩ ?_ ?_
    · intro i o L F v hi ho hL hf hd hS
      obtain ⟨y6, rfl, hV, h6, g6⟩ := hS
      have hi6 : i = 0 ∨ i = 1 ∨ i = 2 ∨ i = 3 ∨ i = 4 ∨ i = 5 ∨ i = 6 ∨ i = 7 ∨ i = 8 := by omega
      rcases hi6 with rfl | rfl | rfl | rfl | rfl | rfl | rfl | rfl | rfl
      all_goals
        simp only [List.getElem?_cons_zero, List.getElem?_cons_succ, Option.some.injEq] at ho
        subst ho
      · have G := fun j => getD_set (j := j) hL hi
        obtain ⟨x0, hx0⟩ : ∃ x, x = L.getD 0 false := ⟨_, rfl⟩
        obtain ⟨x1, hx1⟩ : ∃ x, x = L.getD 1 false := ⟨_, rfl⟩
        obtain ⟨x2, hx2⟩ : ∃ x, x = L.getD 2 false := ⟨_, rfl⟩
        obtain ⟨x3, hx3⟩ : ∃ x, x = L.getD 3 false := ⟨_, rfl⟩
        obtain ⟨x4, hx4⟩ : ∃ x, x = L.getD 4 false := ⟨_, rfl⟩
        obtain ⟨x5, hx5⟩ : ∃ x, x = L.getD 5 false := ⟨_, rfl⟩
        obtain ⟨x6, hx6⟩ : ∃ x, x = L.getD 6 false := ⟨_, rfl⟩
        obtain ⟨x7, hx7⟩ : ∃ x, x = L.getD 7 false := ⟨_, rfl⟩
        obtain ⟨x8, hx8⟩ : ∃ x, x = L.getD 8 false := ⟨_, rfl⟩
        rw [← hx0, ← hx1, ← hx2, ← hx3, ← hx4, ← hx5, ← hx6, ← hx7, ← hx8]
        have HK : Hid (∀ F, F = actE6 a b A C d V Q E r s w w1 w2 w4 R1 y8 y6 true x1 x2 x3 x4 x5 x6 x7 x8 → RelE6 a b A C d V Q E r s w w1 w2 w4 R1 y8 w5 (L.setIfInBounds 0 true) F v) := hide (fun F hF => RelE6.keep hV h6 g6 (Below.refl _ v) (by rw [G]; rfl) (by rw [G]; rfl) (by rw [hF, G, G, G, G, G, G, G, G, G, hx1, hx2, hx3, hx4, hx5, hx6, hx7, hx8]; rfl))
        have e0 := below_blk hV D3.out (lt_blk D3.out)
        have l0 := lt_blk e0
        have k0_0 := cell_blk e0 0
        have k0_1 := cell_blk e0 1
        have k0_2 := cell_blk e0 2
        unfold actE6
        clear h6 g6 hV hd e0 hx0 hx1 hx2 hx3 hx4 hx5 hx6 hx7 hx8 G hf hL hi
        go_wp2_with fail
        exact HK.out _ rfl
      · have G := fun j => getD_set (j := j) hL hi
        obtain ⟨x0, hx0⟩ : ∃ x, x = L.getD 0 false := ⟨_, rfl⟩
        obtain ⟨x1, hx1⟩ : ∃ x, x = L.getD 1 false := ⟨_, rfl⟩
        obtain ⟨x2, hx2⟩ : ∃ x, x = L.getD 2 false := ⟨_, rfl⟩
        obtain ⟨x3, hx3⟩ : ∃ x, x = L.getD 3 false := ⟨_, rfl⟩
        obtain ⟨x4, hx4⟩ : ∃ x, x = L.getD 4 false := ⟨_, rfl⟩
        obtain ⟨x5, hx5⟩ : ∃ x, x = L.getD 5 false := ⟨_, rfl⟩
        obtain ⟨x6, hx6⟩ : ∃ x, x = L.getD 6 false := ⟨_, rfl⟩
        obtain ⟨x7, hx7⟩ : ∃ x, x = L.getD 7 false := ⟨_, rfl⟩
        obtain ⟨x8, hx8⟩ : ∃ x, x = L.getD 8 false := ⟨_, rfl⟩
        rw [← hx0, ← hx1, ← hx2, ← hx3, ← hx4, ← hx5, ← hx6, ← hx7, ← hx8]
        have HK : Hid (∀ (v2 : World) F, Below v.heap.size v v2 → F = actE6 a b A C d V Q E r s w w1 w2 w4 R1 y8 y6 x0 true x2 x3 x4 x5 x6 x7 x8 → RelE6 a b A C d V Q E r s w w1 w2 w4 R1 y8 w5 (L.setIfInBounds 1 true) F v2) := hide (fun v2 F hb hF => RelE6.keep hV h6 g6 hb (by rw [G]; rfl) (by rw [G]; rfl) (by rw [hF, G, G, G, G, G, G, G, G, G, hx0, hx2, hx3, hx4, hx5, hx6, hx7, hx8]; rfl))
        have HVV := hide hV
        unfold actE6
        clear h6 g6 hV hd hx0 hx1 hx2 hx3 hx4 hx5 hx6 hx7 hx8 G hf hL hi
        go_wp2_with fail
        refine (HSP.out b7 b11 b13 v).mono ?_
        rintro e v2 ⟨rfl, hb2⟩
        have HK2 := hide (HK.out v2)
        have HB2 := hide hb2
        clear hb2 HK
        go_wp2_with fail
        exact HK2.out _ HB2.out rfl
      · have G := fun j => getD_set (j := j) hL hi
        obtain ⟨x0, hx0⟩ : ∃ x, x = L.getD 0 false := ⟨_, rfl⟩
        obtain ⟨x1, hx1⟩ : ∃ x, x = L.getD 1 false := ⟨_, rfl⟩
        obtain ⟨x2, hx2⟩ : ∃ x, x = L.getD 2 false := ⟨_, rfl⟩
        obtain ⟨x3, hx3⟩ : ∃ x, x = L.getD 3 false := ⟨_, rfl⟩
        obtain ⟨x4, hx4⟩ : ∃ x, x = L.getD 4 false := ⟨_, rfl⟩
        obtain ⟨x5, hx5⟩ : ∃ x, x = L.getD 5 false := ⟨_, rfl⟩
        obtain ⟨x6, hx6⟩ : ∃ x, x = L.getD 6 false := ⟨_, rfl⟩
        obtain ⟨x7, hx7⟩ : ∃ x, x = L.getD 7 false := ⟨_, rfl⟩
        obtain ⟨x8, hx8⟩ : ∃ x, x = L.getD 8 false := ⟨_, rfl⟩
        rw [← hx0, ← hx1, ← hx2, ← hx3, ← hx4, ← hx5, ← hx6, ← hx7, ← hx8]
        have hdep0 : x0 = true := by rw [hx0]; exact hd 0 (waitsB_iff.1 (by kernel_rfl))
        have hdep1 : x1 = true := by rw [hx1]; exact hd 1 (waitsB_iff.1 (by kernel_rfl))
        have HK : Hid (∀ (v2 : World) F, Below v.heap.size v v2 → F = actE6 a b A C d V Q E r s w w1 w2 w4 R1 y8 y6 x0 x1 true x3 x4 x5 x6 x7 x8 → RelE6 a b A C d V Q E r s w w1 w2 w4 R1 y8 w5 (L.setIfInBounds 2 true) F v2) := hide (fun v2 F hb hF => RelE6.keep hV h6 g6 hb (by rw [G]; rfl) (by rw [G]; rfl) (by rw [hF, G, G, G, G, G, G, G, G, G, hx0, hx1, hx3, hx4, hx5, hx6, hx7, hx8]; rfl))
        have HVV := hide hV
        unfold actE6
        clear h6 g6 hV hd hx0 hx1 hx2 hx3 hx4 hx5 hx6 hx7 hx8 G hf hL hi
        subst hdep0
        subst hdep1
        simp only [sel_t]
        go_wp2_with fail
        refine (HAB.out v (Nat.le_trans hBr HVV.out.size) (HPr.out.on HVV.out hBr)).mono ?_
        rintro e v2 ⟨rfl, hb2⟩
        have HK2 := hide (HK.out v2)
        have HB2 := hide hb2
        clear hb2 HK
        go_wp2_with fail
        exact HK2.out _ HB2.out rfl
      · have G := fun j => getD_set (j := j) hL hi
        obtain ⟨x0, hx0⟩ : ∃ x, x = L.getD 0 false := ⟨_, rfl⟩
        obtain ⟨x1, hx1⟩ : ∃ x, x = L.getD 1 false := ⟨_, rfl⟩
        obtain ⟨x2, hx2⟩ : ∃ x, x = L.getD 2 false := ⟨_, rfl⟩
        obtain ⟨x3, hx3⟩ : ∃ x, x = L.getD 3 false := ⟨_, rfl⟩
        obtain ⟨x4, hx4⟩ : ∃ x, x = L.getD 4 false := ⟨_, rfl⟩
        obtain ⟨x5, hx5⟩ : ∃ x, x = L.getD 5 false := ⟨_, rfl⟩
        obtain ⟨x6, hx6⟩ : ∃ x, x = L.getD 6 false := ⟨_, rfl⟩
        obtain ⟨x7, hx7⟩ : ∃ x, x = L.getD 7 false := ⟨_, rfl⟩
        obtain ⟨x8, hx8⟩ : ∃ x, x = L.getD 8 false := ⟨_, rfl⟩
        rw [← hx0, ← hx1, ← hx2, ← hx3, ← hx4, ← hx5, ← hx6, ← hx7, ← hx8]
        have hdep2 : x2 = true := by rw [hx2]; exact hd 2 (waitsB_iff.1 (by kernel_rfl))
        have HK : Hid (∀ F, F = actE6 a b A C d V Q E r s w w1 w2 w4 R1 y8 y6 x0 x1 x2 true x4 x5 x6 x7 x8 → RelE6 a b A C d V Q E r s w w1 w2 w4 R1 y8 w5 (L.setIfInBounds 3 true) F v) := hide (fun F hF => RelE6.keep hV h6 g6 (Below.refl _ v) (by rw [G]; rfl) (by rw [G]; rfl) (by rw [hF, G, G, G, G, G, G, G, G, G, hx0, hx1, hx2, hx4, hx5, hx6, hx7, hx8]; rfl))
        unfold actE6
        clear h6 g6 hV hd hx0 hx1 hx2 hx3 hx4 hx5 hx6 hx7 hx8 G hf hL hi
        subst hdep2
        simp only [sel_t]
        go_wp2_with fail
        exact HK.out _ rfl
      · have G := fun j => getD_set (j := j) hL hi
        obtain ⟨x0, hx0⟩ : ∃ x, x = L.getD 0 false := ⟨_, rfl⟩
        obtain ⟨x1, hx1⟩ : ∃ x, x = L.getD 1 false := ⟨_, rfl⟩
        obtain ⟨x2, hx2⟩ : ∃ x, x = L.getD 2 false := ⟨_, rfl⟩
        obtain ⟨x3, hx3⟩ : ∃ x, x = L.getD 3 false := ⟨_, rfl⟩
        obtain ⟨x4, hx4⟩ : ∃ x, x = L.getD 4 false := ⟨_, rfl⟩
        obtain ⟨x5, hx5⟩ : ∃ x, x = L.getD 5 false := ⟨_, rfl⟩
        obtain ⟨x6, hx6⟩ : ∃ x, x = L.getD 6 false := ⟨_, rfl⟩
        obtain ⟨x7, hx7⟩ : ∃ x, x = L.getD 7 false := ⟨_, rfl⟩
        obtain ⟨x8, hx8⟩ : ∃ x, x = L.getD 8 false := ⟨_, rfl⟩
        rw [← hx0, ← hx1, ← hx2, ← hx3, ← hx4, ← hx5, ← hx6, ← hx7, ← hx8]
        have hdep3 : x3 = true := by rw [hx3]; exact hd 3 (waitsB_iff.1 (by kernel_rfl))
        have HK : Hid (∀ F, F = actE6 a b A C d V Q E r s w w1 w2 w4 R1 y8 y6 x0 x1 x2 x3 true x5 x6 x7 x8 → RelE6 a b A C d V Q E r s w w1 w2 w4 R1 y8 w5 (L.setIfInBounds 4 true) F v) := hide (fun F hF => RelE6.keep hV h6 g6 (Below.refl _ v) (by rw [G]; rfl) (by rw [G]; rfl) (by rw [hF, G, G, G, G, G, G, G, G, G, hx0, hx1, hx2, hx3, hx5, hx6, hx7, hx8]; rfl))
        unfold actE6
        clear h6 g6 hV hd hx0 hx1 hx2 hx3 hx4 hx5 hx6 hx7 hx8 G hf hL hi
        subst hdep3
        simp only [sel_t]
        go_wp2_with fail
        exact HK.out _ rfl
      · have G := fun j => getD_set (j := j) hL hi
        obtain ⟨x0, hx0⟩ : ∃ x, x = L.getD 0 false := ⟨_, rfl⟩
        obtain ⟨x1, hx1⟩ : ∃ x, x = L.getD 1 false := ⟨_, rfl⟩
        obtain ⟨x2, hx2⟩ : ∃ x, x = L.getD 2 false := ⟨_, rfl⟩
        obtain ⟨x3, hx3⟩ : ∃ x, x = L.getD 3 false := ⟨_, rfl⟩
        obtain ⟨x4, hx4⟩ : ∃ x, x = L.getD 4 false := ⟨_, rfl⟩
        obtain ⟨x5, hx5⟩ : ∃ x, x = L.getD 5 false := ⟨_, rfl⟩
        obtain ⟨x6, hx6⟩ : ∃ x, x = L.getD 6 false := ⟨_, rfl⟩
        obtain ⟨x7, hx7⟩ : ∃ x, x = L.getD 7 false := ⟨_, rfl⟩
        obtain ⟨x8, hx8⟩ : ∃ x, x = L.getD 8 false := ⟨_, rfl⟩
        rw [← hx0, ← hx1, ← hx2, ← hx3, ← hx4, ← hx5, ← hx6, ← hx7, ← hx8]
        have hdep3 : x3 = true := by rw [hx3]; exact hd 3 (waitsB_iff.1 (by kernel_rfl))
        have HK : Hid (∀ F, F = actE6 a b A C d V Q E r s w w1 w2 w4 R1 y8 y6 x0 x1 x2 x3 x4 true x6 x7 x8 → RelE6 a b A C d V Q E r s w w1 w2 w4 R1 y8 w5 (L.setIfInBounds 5 true) F v) := hide (fun F hF => RelE6.keep hV h6 g6 (Below.refl _ v) (by rw [G]; rfl) (by rw [G]; rfl) (by rw [hF, G, G, G, G, G, G, G, G, G, hx0, hx1, hx2, hx3, hx4, hx6, hx7, hx8]; rfl))
        unfold actE6
        clear h6 g6 hV hd hx0 hx1 hx2 hx3 hx4 hx5 hx6 hx7 hx8 G hf hL hi
        subst hdep3
        simp only [sel_t]
        go_wp2_with fail
        exact HK.out _ rfl
      · have G := fun j => getD_set (j := j) hL hi
        obtain ⟨x0, hx0⟩ : ∃ x, x = L.getD 0 false := ⟨_, rfl⟩
        obtain ⟨x1, hx1⟩ : ∃ x, x = L.getD 1 false := ⟨_, rfl⟩
        obtain ⟨x2, hx2⟩ : ∃ x, x = L.getD 2 false := ⟨_, rfl⟩
        obtain ⟨x3, hx3⟩ : ∃ x, x = L.getD 3 false := ⟨_, rfl⟩
        obtain ⟨x4, hx4⟩ : ∃ x, x = L.getD 4 false := ⟨_, rfl⟩
        obtain ⟨x5, hx5⟩ : ∃ x, x = L.getD 5 false := ⟨_, rfl⟩
        obtain ⟨x6, hx6⟩ : ∃ x, x = L.getD 6 false := ⟨_, rfl⟩
        obtain ⟨x7, hx7⟩ : ∃ x, x = L.getD 7 false := ⟨_, rfl⟩
        obtain ⟨x8, hx8⟩ : ∃ x, x = L.getD 8 false := ⟨_, rfl⟩
        rw [← hx0, ← hx1, ← hx2, ← hx3, ← hx4, ← hx5, ← hx6, ← hx7, ← hx8]
        have HK : Hid (∀ F, F = actE6 a b A C d V Q E r s w w1 w2 w4 R1 y8 v.heap.size x0 x1 x2 x3 x4 x5 true x7 x8 → RelE6 a b A C d V Q E r s w w1 w2 w4 R1 y8 w5 (L.setIfInBounds 6 true) F (v.alloc (spotO ⟨#[]⟩ ⟨#[]⟩ ⟨#[]⟩))) := hide (fun F hF => ⟨v.heap.size, by rw [hF, G, G, G, G, G, G, G, G, G, hx0, hx1, hx2, hx3, hx4, hx5, hx7, hx8]; rfl, hV.trans ((heap1 v (spotO ⟨#[]⟩ ⟨#[]⟩ ⟨#[]⟩)).2.2.mono hV.size), (fun _ => ⟨hV.size, by rw [show (L.setIfInBounds 6 true).getD 7 false = false from (by rw [G]; show L.getD 7 false = false; cases hz : L.getD 7 false with | false => rfl | true => rw [g6 hz] at hf; cases hf)]; exact heap_alloc_new v _⟩), (fun _ => by rw [G]; rfl)⟩)
        unfold actE6
        clear h6 g6 hV hd hx0 hx1 hx2 hx3 hx4 hx5 hx6 hx7 hx8 G hf hL hi
        go_wp2_with fail
        exact HK.out _ rfl
      · have G := fun j => getD_set (j := j) hL hi
        obtain ⟨x0, hx0⟩ : ∃ x, x = L.getD 0 false := ⟨_, rfl⟩
        obtain ⟨x1, hx1⟩ : ∃ x, x = L.getD 1 false := ⟨_, rfl⟩
        obtain ⟨x2, hx2⟩ : ∃ x, x = L.getD 2 false := ⟨_, rfl⟩
        obtain ⟨x3, hx3⟩ : ∃ x, x = L.getD 3 false := ⟨_, rfl⟩
        obtain ⟨x4, hx4⟩ : ∃ x, x = L.getD 4 false := ⟨_, rfl⟩
        obtain ⟨x5, hx5⟩ : ∃ x, x = L.getD 5 false := ⟨_, rfl⟩
        obtain ⟨x6, hx6⟩ : ∃ x, x = L.getD 6 false := ⟨_, rfl⟩
        obtain ⟨x7, hx7⟩ : ∃ x, x = L.getD 7 false := ⟨_, rfl⟩
        obtain ⟨x8, hx8⟩ : ∃ x, x = L.getD 8 false := ⟨_, rfl⟩
        rw [← hx0, ← hx1, ← hx2, ← hx3, ← hx4, ← hx5, ← hx6, ← hx7, ← hx8]
        have hdep4 : x4 = true := by rw [hx4]; exact hd 4 (waitsB_iff.1 (by kernel_rfl))
        have hdep6 : x6 = true := by rw [hx6]; exact hd 6 (waitsB_iff.1 (by kernel_rfl))
        have hq := h6 (hx6.symm.trans hdep6)
        rw [hf] at hq
        have QS := hide hq.2
        have HK : Hid (∀ F, F = actE6 a b A C d V Q E r s w w1 w2 w4 R1 y8 y6 x0 x1 x2 x3 x4 x5 x6 true x8 → RelE6 a b A C d V Q E r s w w1 w2 w4 R1 y8 w5 (L.setIfInBounds 7 true) F (((v.setCell ⟨y6, 0, none⟩ (.string (T E.x))).setCell ⟨y6, 1, none⟩ (.string (T E.y))).setCell ⟨y6, 2, none⟩ (.string (T E.z)))) := hide (fun F hF => ⟨y6, by rw [hF, G, G, G, G, G, G, G, G, G, hx0, hx1, hx2, hx3, hx4, hx5, hx6, hx8]; rfl, below_spot hV hq.1 (.string (T E.x)) (.string (T E.y)) (.string (T E.z)), (fun _ => ⟨hq.1, by rw [show (L.setIfInBounds 7 true).getD 7 false = true from by rw [G]; rfl]; exact set3c (set3b (set3a QS.out _) _) _⟩), (fun _ => by rw [G]; show L.getD 6 false = true; exact hx6.symm.trans hdep6)⟩)
        have s0 := cell_blk QS.out 0
        have f0 := froz_blk QS.out 0
        have s1 := cell_blk QS.out 1
        have f1 := froz_blk QS.out 1
        have s2 := cell_blk QS.out 2
        have f2 := froz_blk QS.out 2
        have sl := lt_blk QS.out
        unfold actE6
        clear hq h6 g6 hV hd hx0 hx1 hx2 hx3 hx4 hx5 hx6 hx7 hx8 G hf hL hi
        subst hdep4
        subst hdep6
        simp only [sel_t]
        go_wp2_with fail
        exact HK.out _ rfl
      · have G := fun j => getD_set (j := j) hL hi
        obtain ⟨x0, hx0⟩ : ∃ x, x = L.getD 0 false := ⟨_, rfl⟩
        obtain ⟨x1, hx1⟩ : ∃ x, x = L.getD 1 false := ⟨_, rfl⟩
        obtain ⟨x2, hx2⟩ : ∃ x, x = L.getD 2 false := ⟨_, rfl⟩
        obtain ⟨x3, hx3⟩ : ∃ x, x = L.getD 3 false := ⟨_, rfl⟩
        obtain ⟨x4, hx4⟩ : ∃ x, x = L.getD 4 false := ⟨_, rfl⟩
        obtain ⟨x5, hx5⟩ : ∃ x, x = L.getD 5 false := ⟨_, rfl⟩
        obtain ⟨x6, hx6⟩ : ∃ x, x = L.getD 6 false := ⟨_, rfl⟩
        obtain ⟨x7, hx7⟩ : ∃ x, x = L.getD 7 false := ⟨_, rfl⟩
        obtain ⟨x8, hx8⟩ : ∃ x, x = L.getD 8 false := ⟨_, rfl⟩
        rw [← hx0, ← hx1, ← hx2, ← hx3, ← hx4, ← hx5, ← hx6, ← hx7, ← hx8]
        have hdep5 : x5 = true := by rw [hx5]; exact hd 5 (waitsB_iff.1 (by kernel_rfl))
        have HK : Hid (∀ F, F = actE6 a b A C d V Q E r s w w1 w2 w4 R1 y8 y6 x0 x1 x2 x3 x4 x5 x6 x7 true → RelE6 a b A C d V Q E r s w w1 w2 w4 R1 y8 w5 (L.setIfInBounds 8 true) F v) := hide (fun F hF => RelE6.keep hV h6 g6 (Below.refl _ v) (by rw [G]; rfl) (by rw [G]; rfl) (by rw [hF, G, G, G, G, G, G, G, G, G, hx0, hx1, hx2, hx3, hx4, hx5, hx6, hx7]; rfl))
        unfold actE6
        clear h6 g6 hV hd hx0 hx1 hx2 hx3 hx4 hx5 hx6 hx7 hx8 G hf hL hi
        subst hdep5
        simp only [sel_t]
        go_wp2_with fail
        exact HK.out _ rfl
    · intro F v hS
      obtain ⟨y6, rfl, hV, h6, g6⟩ := hS
      have Q6 : Hid (v.heap[y6]? = some (spotO (T E.x) (T E.y) (T E.z))) := hide (h6 rfl).2
      have q6 := (h6 rfl).1
      simp only [List.drop_succ_cons, List.drop_zero]
      show wpList _ _ _ _ (actE6 a b A C d V Q E r s w w1 w2 w4 R1 y8 y6 true true true true true true true true true) v
      unfold actE6
      simp only [sel_t]
      obtain ⟨w6, hw6⟩ : ∃ x, x = v := ⟨_, rfl⟩
      subst hw6
      have M1 := hide (below_blk hV M1.out (lt_blk M1.out))
      have D1 := hide (below_blk hV D1.out (lt_blk D1.out))
      have D4 := Q6
      have HB6 := hide (HB5.out.trans (hV.mono HB5.out.size))
      clear hV h6 g6 q6 Q6 hBr HPr HSP D3
      have c0 := cell_blk M1.out 0
      have c1 := cell_blk M1.out 1
      have c2 := cell_blk M1.out 2
      have c3 := cell_blk M1.out 3
      have c4 := cell_blk M1.out 4
      have c5 := cell_blk M1.out 5
      have c6 := cell_blk M1.out 6
      have c7 := cell_blk M1.out 7
      have c8 := cell_blk M1.out 8
      have c9 := cell_blk M1.out 9
      have c10 := cell_blk M1.out 10
      have cl := lt_blk M1.out
      have g0 := cell_blk D4.out 0
      have g1 := cell_blk D4.out 1
      have g2 := cell_blk D4.out 2
      have gl := lt_blk D4.out
      go_wp2_with fail
      refine (HM2.out _ (Nat.le_trans hB HB6.out.size) (HT.out.on HB6.out hB)).mono ?_
      rintro e w7 ⟨rfl, hb7⟩
      have D1 := hide (below_blk hb7 D1.out (lt_blk D1.out))
      have HB7 := hide (HB6.out.trans (hb7.mono HB6.out.size))
      clear hb7 c0 c1 c2 c3 c4 c5 c6 c7 c8 c9 c10 cl g0 g1 g2 gl M1 D4
      have HSC := hide (fun (a b c : ByteArray) (x : Of (Below w7.heap.size w7)) => lspot_cls a b c w7.heap.size w7 (Nat.le_refl _) x)
      have HPC := hide (fun (x : Of (Below w7.heap.size w7)) => show Calls Tryz.prog 42 #[vecV d, spotV b7 b11 b13] x.w fun e w' => e = .returned (.tuple #[.bool R3, .int .i64 0]) ∧ Cls (Below w7.heap.size w7) w' from (HPA.out x.w (Nat.le_trans hB (Nat.le_trans HB7.out.size x.h.size)) ((HT.out.on HB7.out hB).on x.h (Nat.le_trans hB HB7.out.size))).mono fun _ _ ⟨h, hb⟩ => ⟨h, Cls.mk (x.h.trans (hb.mono (by have := x.h.size; omega)))⟩)
      go_wp2_with fail
      have hx1 : ∀ x : Of (Below w7.heap.size w7), ∀ o, x.w.cell? ⟨w2.heap.size, o, none⟩ = w7.cell? ⟨w2.heap.size, o, none⟩ := fun x o => x.h.cell (p := ⟨w2.heap.size, o, none⟩) (lt_blk D1.out)
      have c1 := fun o => cell_blk D1.out o
      refine region_class (C := Cls (Below w7.heap.size w7)) (by kernel_rfl) (by kernel_rfl) (by kernel_rfl) (Cls.mk (Below.refl _ _).drew) ?_
      repeat (go_big_quiet_step (first | with_reducible exact HSC.out _ _ _ _ | with_reducible exact HPC.out _))
      refine wpQuiet_nil ?_
      intro w8 hcl
      have HB8 := hide (HB7.out.trans (hcl.out.mono HB7.out.size))
      clear hcl hx1 c1 HSC HPC D1
      rcases HF1.out with ⟨k0, rfl⟩ | ⟨k0, k1, rfl⟩ | ⟨k0, rfl⟩ <;> rcases HF2.out with rfl | ⟨rfl, rfl⟩
      all_goals
        first
        | have k2 : (0 ≤ s) = False := eq_false (by omega)
        | have k2 : (s ≤ 16) = False := eq_false (by omega)
        | have k2 : True := trivial
        go_wp2_with fail
        refine (HAW.out _ (Nat.le_trans hB HB8.out.size) (HT.out.on HB8.out hB)).mono ?_
        rintro e w9 ⟨rfl, hb9⟩
        have HB9 := hide (HB8.out.trans (hb9.mono HB8.out.size))
        clear hb9
        go_wp2_with fail
        go_ret
        exact ⟨rfl, HB9.out⟩
end Go.Proofs.YtbfojhneajedmaaGreatDoor
