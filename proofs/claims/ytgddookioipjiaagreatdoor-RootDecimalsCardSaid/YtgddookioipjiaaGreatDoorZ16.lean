/-
  Texts of the integers, laid together: Jk, Jl, Jm, Tt, Jt.
-/
import Derived.Lib.MinMax
import Derived.Test.YtgddookioipjiaaGreatDoorZ13
import Derived.Test.YtgddookioipjiaaGreatDoorZ15
namespace Go.Proofs.YtgddookioipjiaaGreatDoor
open Go.RowKit Go.KP Go.KI Go.Shelf
attribute [local go_sem] Oper.semAt_some

theorem clsq_call {f : Nat} {args : Array Value} {v : Value} {B n : Nat} {W0 : World} (hT : PQ B W0) (hB : B ≤ n) (H : ∀ w, B ≤ w.heap.size → PQ B w → Calls Tryz.prog f args w (Ret w v)) (x : Of (Below n W0)) (hx : n ≤ x.w.heap.size) :
    Calls Tryz.prog f args x.w fun e w' => e = .returned v ∧ Cls (Below n W0) w' :=
  (H x.w (Nat.le_trans hB hx) (hT.on x.h hB)).mono fun _ _ ⟨h, hb⟩ => ⟨h, Cls.mk (x.h.trans (hb.mono hx))⟩
set_option maxRecDepth 100000 in
theorem rExact_T {q : Rat} (rq : roomy q) (hq : 0 ≤ q.num) (B : Nat) (w : World) (hB : B ≤ w.heap.size) (hT : PQ B w) :
    Calls Tryz.prog 16 #[.string (T q)] w (Ret w (.tuple #[.string (rootT (sqR q)), .bool (rootB (sqR q)), .int .i64 0])) := by
  have HT := hide hT
  have X0 := hide (heap2 w (.cells #[.string (T q)] 22) (.cells #[.string (T q)] 22))
  have HC := hide (rCheck_ok w.heap.size (w.heap.size + 1) [q] [q] (by simp) (by simp) (fun x hx => by simp at hx; subst hx; exact rq) (fun x hx => by simp at hx; subst hx; omega) B _ (nums1 X0.out.1) (nums1 X0.out.2.1) (Nat.le_trans hB X0.out.2.2.2.size) (hT.on X0.out.2.2.2 hB))
  have HO := hide (fun w hB hT => rOf_T rq.1 B w hB hT)
  have HR := hide (fun w hB hT => rrootOf_T rq.1 hq B w hB hT)
  generalize rootT (sqR q) = RT at HR ⊢
  generalize rootB (sqR q) = RB at HR ⊢
  generalize numB q = N at HO HR
  generalize denB q = D at HO HR
  generalize T q = X at *
  clear rq hq hT
  go_enter Tryz.func16, Tryz.ntmps16
  go_wp2_with fail
  refine HC.out.mono ?_
  rintro e w1 ⟨rfl, hb1⟩
  have HB1 := hide (X0.out.2.2.2.trans (hb1.mono X0.out.2.2.2.size))
  clear hb1
  go_wp2_with fail
  refine (HO.out _ (Nat.le_trans hB HB1.out.size) (HT.out.on HB1.out hB)).mono ?_
  rintro e w2 ⟨rfl, hb2⟩
  have HB2 := hide (HB1.out.trans (hb2.mono HB1.out.size))
  clear hb2
  go_wp2_with fail
  refine (HR.out _ (Nat.le_trans hB HB2.out.size) (HT.out.on HB2.out hB)).mono ?_
  rintro e w3 ⟨rfl, hb3⟩
  have HB3 := hide (HB2.out.trans (hb3.mono HB2.out.size))
  clear hb3
  go_wp2_with fail
  refine bodyPost_ret (results_tmp3 rfl _ _ _) rfl ?_
  exact ⟨rfl, HB3.out⟩
theorem fits_pow {E : Nat} (h : E < 300) : fits ((10 ^ E : Nat) : Int) := fits_small (n := E + 1) (by rw [most_eq]; omega) (nat_abs_lt ((Nat.pow_lt_pow_iff_right (by omega)).2 (by omega)))
theorem bound4 {A B C D : Int} {E : Nat} (hE : E < 300) (h1 : A.natAbs < 10 ^ E) (h2 : B.natAbs < 10 ^ E) (h3 : C.natAbs < 10 ^ E) (h4 : D.natAbs < 10 ^ E) : ∃ N : Nat, fits (N : Int) ∧ A.natAbs ≤ N ∧ B.natAbs ≤ N ∧ C.natAbs ≤ N ∧ D.natAbs ≤ N :=
  ⟨10 ^ E, fits_pow hE, Nat.le_of_lt h1, Nat.le_of_lt h2, Nat.le_of_lt h3, Nat.le_of_lt h4⟩
/-- A row of four numbers as check sees it. -/
theorem nums4 {w : World} {b : Nat} {p q r s : Rat} (h : w.heap[b]? = some (.cells #[.string (T p), .string (T q), .string (T r), .string (T s)] 22 (0, 0))) : NumsAt w b [p, q, r, s] := by
  refine ⟨lt_blk h, fun i x hx => ?_⟩
  match i with
  | 0 => simp at hx; rw [← hx]; exact cell_blk h 0
  | 1 => simp at hx; rw [← hx]; exact cell_blk h 1
  | 2 => simp at hx; rw [← hx]; exact cell_blk h 2
  | 3 => simp at hx; rw [← hx]; exact cell_blk h 3
  | i + 4 => simp at hx
/-- The parts of a², times p. -/
theorem cmp_parts (a p b q : Rat) : cmpP (a.num * a.num * p.num) ((a.den : Int) * a.den * p.den) (b.num * b.num * q.num) ((b.den : Int) * b.den * q.den) = cmpR (a * a * p) (b * b * q) := by
  have key : ∀ x y : Rat, ((x.num * x.num * y.num : Int) : Rat) = x * x * y * (((x.den : Int) * x.den * y.den : Int) : Rat) := fun x y => by
    simp only [Rat.intCast_mul, Rat.intCast_natCast]
    rw [num_is x, num_is y]
    generalize ((x.den : Nat) : Rat) = d
    generalize ((y.den : Nat) : Rat) = e
    grind
  have pos : ∀ x y : Rat, (0 : Rat) < (((x.den : Int) * x.den * y.den : Int) : Rat) := fun x y => Rat.intCast_pos.2 (Int.mul_pos (Int.mul_pos (by have := x.den_pos; omega) (by have := x.den_pos; omega)) (by have := y.den_pos; omega))
  have k1 := key a p
  have k2 := key b q
  have p1 := pos a p
  have p2 := pos b q
  unfold cmpP
  generalize a.num * a.num * p.num = A at *
  generalize b.num * b.num * q.num = C at *
  generalize (a.den : Int) * a.den * p.den = D at *
  generalize (b.den : Int) * b.den * q.den = E at *
  generalize a * a * p = x at *
  generalize b * b * q = y at *
  have hlt : ∀ {u v : Int}, u < v ↔ (u : Rat) < (v : Rat) := Rat.intCast_lt_intCast.symm
  rcases cmpT_cases x y with ⟨h1, h2⟩ | ⟨h1, h2⟩ | ⟨h1, h2⟩ <;> rw [h2]
  · refine cmpI_lt (hlt.2 ?_)
    rw [Rat.intCast_mul, Rat.intCast_mul, k1, k2]
    have := Rat.mul_lt_mul_of_pos_right h1 (Rat.mul_pos p1 p2)
    grind
  · have e : A * E = C * D := by
      have : ((A * E : Int) : Rat) = ((C * D : Int) : Rat) := by
        rw [Rat.intCast_mul, Rat.intCast_mul, k1, k2, h1]
        grind
      exact_mod_cast this
    rw [e, cmpI_same]
  · refine cmpI_gt (hlt.2 ?_)
    rw [Rat.intCast_mul, Rat.intCast_mul, k1, k2]
    have := Rat.mul_lt_mul_of_pos_right h1 (Rat.mul_pos p1 p2)
    grind
set_option maxRecDepth 100000 in
set_option maxHeartbeats 16000000 in
theorem rCompare_T {a p b q : Rat} (ra : roomy a) (rp : roomy p) (rb : roomy b) (rq : roomy q) (hp : 0 ≤ p.num) (hq : 0 ≤ q.num) (B : Nat) (w : World) (hB : B ≤ w.heap.size) (hT : PQ B w) :
    Calls Tryz.prog 27 #[.string (T a), .string (T p), .string (T b), .string (T q)] w (Ret w (.tuple #[.int .i64 (rcmp a p b q), .int .i64 0])) := by
  have HT := hide hT
  have X0 := hide (heap2 w (.cells #[.string (T a), .string (T p), .string (T b), .string (T q)] 22) (.cells #[.string (T p), .string (T q)] 22))
  have HC := hide (rCheck_ok w.heap.size (w.heap.size + 1) [a, p, b, q] [p, q] (by simp) (by simp) (fun x hx => by simp at hx; rcases hx with rfl | rfl | rfl | rfl; exact ra; exact rp; exact rb; exact rq) (fun x hx => by simp at hx; rcases hx with rfl | rfl <;> omega) B _ (nums4 X0.out.1) (nums2 X0.out.2.1) (Nat.le_trans hB X0.out.2.2.2.size) (hT.on X0.out.2.2.2 hB))
  have S1 := hide (fun w => rSign_T a w)
  have S2 := hide (fun w => rSign_T p w)
  have S3 := hide (fun w => rSign_T b w)
  have S4 := hide (fun w => rSign_T q w)
  have O1 := hide (fun w hB hT => rOf_T ra.1 B w hB hT)
  have O2 := hide (fun w hB hT => rOf_T rp.1 B w hB hT)
  have O3 := hide (fun w hB hT => rOf_T rb.1 B w hB hT)
  have O4 := hide (fun w hB hT => rOf_T rq.1 B w hB hT)
  have sa := roomy_sz ra
  have sp := roomy_sz rp
  have sb := roomy_sz rb
  have sq := roomy_sz rq
  have da : ((a.den : Nat) : Int).natAbs < 10 ^ 90 := nat_abs_lt sa.2
  have dp : ((p.den : Nat) : Int).natAbs < 10 ^ 90 := nat_abs_lt sp.2
  have db : ((b.den : Nat) : Int).natAbs < 10 ^ 90 := nat_abs_lt sb.2
  have dq : ((q.den : Nat) : Int).natAbs < 10 ^ 90 := nat_abs_lt sq.2
  have a1 := fits_mul sa.1 sa.1 (by omega)
  have a2 := fits_mul da da (by omega)
  have a3 := fits_mul a1.2 sp.1 (by omega)
  have a4 := fits_mul a2.2 dp (by omega)
  have b1 := fits_mul sb.1 sb.1 (by omega)
  have b2 := fits_mul db db (by omega)
  have b3 := fits_mul b1.2 sq.1 (by omega)
  have b4 := fits_mul b2.2 dq (by omega)
  have T1 := hide (fun w hB hT => rtimes_I (a := a.num) (b := (a.den : Int)) (c := a.num) (d := (a.den : Int)) ra.1.1 ra.1.2 ra.1.1 ra.1.2 a1.1 a2.1 B w hB hT)
  have T2 := hide (fun w hB hT => rtimes_I (c := p.num) (d := (p.den : Int)) a1.1 a2.1 rp.1.1 rp.1.2 a3.1 a4.1 B w hB hT)
  have T3 := hide (fun w hB hT => rtimes_I (a := b.num) (b := (b.den : Int)) (c := b.num) (d := (b.den : Int)) rb.1.1 rb.1.2 rb.1.1 rb.1.2 b1.1 b2.1 B w hB hT)
  have T4 := hide (fun w hB hT => rtimes_I (c := q.num) (d := (q.den : Int)) b1.1 b2.1 rq.1.1 rq.1.2 b3.1 b4.1 B w hB hT)
  have hsq : ∀ z : Int, 0 ≤ z * z := fun z => by
    rcases Int.le_total 0 z with h | h
    · exact Int.mul_nonneg h h
    · have := Int.mul_nonneg (show 0 ≤ -z by omega) (show 0 ≤ -z by omega)
      rw [Int.neg_mul_neg] at this
      exact this
  obtain ⟨NB, fN, l3, l4, m3, m4⟩ := bound4 (by decide) a3.2 a4.2 b3.2 b4.2
  have HK := hide (fun w hB hT => rcompare_I (N := NB) (Int.mul_nonneg (hsq a.num) hp) (Int.mul_pos (Int.mul_pos (show 0 < (a.den : Int) by have := a.den_pos; omega) (show 0 < (a.den : Int) by have := a.den_pos; omega)) (show 0 < (p.den : Int) by have := p.den_pos; omega)) (Int.mul_nonneg (hsq b.num) hq) (Int.mul_pos (Int.mul_pos (show 0 < (b.den : Int) by have := b.den_pos; omega) (show 0 < (b.den : Int) by have := b.den_pos; omega)) (show 0 < (q.den : Int) by have := q.den_pos; omega)) l3 l4 m3 m4 fN B w hB hT)
  rw [cmp_parts a p b q] at HK
  rw [show numB a = iB a.num from rfl, show denB a = iB (a.den : Int) from rfl] at O1
  rw [show numB p = iB p.num from rfl, show denB p = iB (p.den : Int) from rfl] at O2
  rw [show numB b = iB b.num from rfl, show denB b = iB (b.den : Int) from rfl] at O3
  rw [show numB q = iB q.num from rfl, show denB q = iB (q.den : Int) from rfl] at O4
  have hxb := sgnR_bound (a * p)
  have hyb := sgnR_bound (b * q)
  rw [sgnR_mul] at hxb hyb
  have hkb : -1 ≤ cmpR (a * a * p) (b * b * q) ∧ cmpR (a * a * p) (b * b * q) ≤ 1 := by
    rcases cmpT_cases (a * a * p) (b * b * q) with ⟨_, h⟩ | ⟨_, h⟩ | ⟨_, h⟩ <;> rw [h] <;> decide
  show Calls _ _ _ _ (Ret w (.tuple #[.int .i64 (rcmpS (sgnR a * sgnR p) (sgnR b * sgnR q) (cmpR (a * a * p) (b * b * q))), .int .i64 0]))
  generalize cmpR (a * a * p) (b * b * q) = k at HK hkb ⊢
  obtain ⟨x, hx⟩ : ∃ x, x = sgnR a * sgnR p := ⟨_, rfl⟩
  obtain ⟨y, hy⟩ : ∃ x, x = sgnR b * sgnR q := ⟨_, rfl⟩
  rw [← hx] at hxb ⊢
  rw [← hy] at hyb ⊢
  have v1 : IntKind.i64.wrap (sgnR a * sgnR p) = x := by rw [← hx]; exact IntWalk.i64_in _ (by omega)
  have v2 : IntKind.i64.wrap (sgnR b * sgnR q) = y := by rw [← hy]; exact IntWalk.i64_in _ (by omega)
  have v3 : sgnR a * sgnR p = x := hx.symm
  have v4 : sgnR b * sgnR q = y := hy.symm
  generalize sgnR a = ga at *
  generalize sgnR p = gp at *
  generalize sgnR b = gb at *
  generalize sgnR q = gq at *
  have v5 : x = -1 ∨ x = 0 ∨ x = 1 := by omega
  have v6 : y = -1 ∨ y = 0 ∨ y = 1 := by omega
  generalize iB (a.num * a.num * p.num) = AN at *
  generalize iB ((a.den : Int) * a.den * p.den) = AD at *
  generalize iB (b.num * b.num * q.num) = BN at *
  generalize iB ((b.den : Int) * b.den * q.den) = BD at *
  generalize iB (a.num * a.num) = AN2 at *
  generalize iB ((a.den : Int) * a.den) = AD2 at *
  generalize iB (b.num * b.num) = BN2 at *
  generalize iB ((b.den : Int) * b.den) = BD2 at *
  generalize iB a.num = A1 at *
  generalize iB (a.den : Int) = A2 at *
  generalize iB p.num = P1 at *
  generalize iB (p.den : Int) = P2 at *
  generalize iB b.num = B1 at *
  generalize iB (b.den : Int) = B2 at *
  generalize iB q.num = Q1 at *
  generalize iB (q.den : Int) = Q2 at *
  generalize T a = XA at *
  generalize T p = XP at *
  generalize T b = XB at *
  generalize T q = XQ at *
  clear ra rp rb rq hp hq hT sa sp sb sq da dp db dq a1 a2 a3 a4 b1 b2 b3 b4 l3 l4 m3 m4 fN hsq hxb hyb hx hy
  go_enter Tryz.func27, Tryz.ntmps27
  go_wp2_with fail
  refine HC.out.mono ?_
  rintro e w1 ⟨rfl, hb1⟩
  have HB1 := hide (X0.out.2.2.2.trans (hb1.mono X0.out.2.2.2.size))
  clear hb1
  go_wp2_with fail
  refine (S1.out _).mono ?_
  rintro e w2 ⟨rfl, rfl⟩
  go_wp2_with fail
  refine (S2.out _).mono ?_
  rintro e w2 ⟨rfl, rfl⟩
  go_wp2_with fail
  refine (S3.out _).mono ?_
  rintro e w2 ⟨rfl, rfl⟩
  go_wp2_with fail
  refine (S4.out _).mono ?_
  rintro e w2 ⟨rfl, rfl⟩
  have HV5 := hide v5
  have HV6 := hide v6
  clear v5 v6
  rcases HV5.out with rfl | rfl | rfl <;> rcases HV6.out with rfl | rfl | rfl
  all_goals
    go_wp2_with fail
    first
      | (refine bodyPost_ret (results_tmp2 rfl _ _ _) rfl ?_
         exact ⟨rfl, HB1.out⟩)
      | skip
  all_goals
    refine (O1.out _ (Nat.le_trans hB HB1.out.size) (HT.out.on HB1.out hB)).mono ?_
    rintro e w2 ⟨rfl, hb2⟩
    have HB2 := hide (HB1.out.trans (hb2.mono HB1.out.size))
    clear hb2
    go_wp2_with fail
    refine (O3.out _ (Nat.le_trans hB HB2.out.size) (HT.out.on HB2.out hB)).mono ?_
    rintro e w3 ⟨rfl, hb3⟩
    have HB3 := hide (HB2.out.trans (hb3.mono HB2.out.size))
    clear hb3
    have X3 := hide (heap2 w3 (rpairO A1 A2) (rpairO B1 B2))
    go_wp2_with fail
    obtain ⟨W0, hW0⟩ : ∃ W, W = (w3.alloc (rpairO A1 A2)).alloc (rpairO B1 B2) := ⟨_, rfl⟩
    rw [← hW0] at X3 ⊢
    have E1 := hide X3.out.1
    have E2 := hide X3.out.2.1
    have HB4 := hide (HB3.out.trans (X3.out.2.2.2.mono HB3.out.size))
    clear hW0 X3
    have hBW : B ≤ W0.heap.size := Nat.le_trans hB HB4.out.size
    have HTW := HT.out.on HB4.out hB
    have N1 := hide (fun (o : Of (Below W0.heap.size W0)) => cls_call HTW.p10 hBW T1.out o o.h.size)
    have N2 := hide (fun (o : Of (Below W0.heap.size W0)) => clsq_call HTW hBW O2.out o o.h.size)
    have N3 := hide (fun (o : Of (Below W0.heap.size W0)) => cls_call HTW.p10 hBW T2.out o o.h.size)
    have N4 := hide (fun (o : Of (Below W0.heap.size W0)) => cls_call HTW.p10 hBW T3.out o o.h.size)
    have N5 := hide (fun (o : Of (Below W0.heap.size W0)) => clsq_call HTW hBW O4.out o o.h.size)
    have N6 := hide (fun (o : Of (Below W0.heap.size W0)) => cls_call HTW.p10 hBW T4.out o o.h.size)
    have N7 := hide (fun (o : Of (Below W0.heap.size W0)) => cls_call HTW.p10 hBW HK.out o o.h.size)
    have hx1 : ∀ x : Of (Below W0.heap.size W0), ∀ o, x.w.cell? ⟨w3.heap.size, o, none⟩ = W0.cell? ⟨w3.heap.size, o, none⟩ := fun x o => x.h.cell (p := ⟨w3.heap.size, o, none⟩) (lt_blk E1.out)
    have hx2 : ∀ x : Of (Below W0.heap.size W0), ∀ o, x.w.cell? ⟨w3.heap.size + 1, o, none⟩ = W0.cell? ⟨w3.heap.size + 1, o, none⟩ := fun x o => x.h.cell (p := ⟨w3.heap.size + 1, o, none⟩) (lt_blk E2.out)
    have c1 := fun o => cell_blk E1.out o
    have c2 := fun o => cell_blk E2.out o
    have kn : Nonempty (Of (Below W0.heap.size W0)) := ⟨⟨_, Below.refl _ _⟩⟩
    clear HTW hBW
    refine region_class (C := Cls (Below W0.heap.size W0)) (by kernel_rfl) (by kernel_rfl) (by kernel_rfl) (Cls.mk (Below.refl _ _).drew) ?_
    repeat (go_big_quiet_step (first | rfl | with_reducible exact N1.out _ | with_reducible exact N2.out _ | with_reducible exact N3.out _ | with_reducible exact N4.out _ | with_reducible exact N5.out _ | with_reducible exact N6.out _ | with_reducible exact N7.out _))
    refine wpQuiet_nil ?_
    intro w5 hcl
    have HB5 := hide (HB4.out.trans (hcl.out.mono HB4.out.size))
    clear hcl hx1 hx2 c1 c2 N1 N2 N3 N4 N5 N6 N7 kn
    go_wp2_with fail
    refine bodyPost_ret (results_tmp2 rfl _ _ _) rfl ?_
    exact ⟨by first | (rw [show rcmpS (-1) (-1) k = -k by unfold rcmpS; simp]; rfl) | (rw [show rcmpS 1 1 k = k by unfold rcmpS; simp]; rfl), HB5.out⟩
end Go.Proofs.YtgddookioipjiaaGreatDoor
namespace Go.KI
open Go
/-- A text of the laws: at most 20 bytes, a number. -/
def okS (s : ByteArray) : Prop := s.size ≤ 20 ∧ chkQ s.data.toList = 0
instance (s : ByteArray) : Decidable (okS s) := inferInstanceAs (Decidable (_ ∧ _))
/-- Products in order stay within the limits. -/
def okT : Rat → List Rat → Prop
  | _, [] => True
  | x, a :: l => fitsQ a ∧ mulC x a ∧ okT (x * a) l
def prodL (x : Rat) (l : List Rat) : Rat := l.foldl (· * ·) x
end Go.KI
namespace Go.Proofs.YtgddookioipjiaaGreatDoor
open Go.RowKit Go.KP Go.KI Go.Shelf
attribute [local go_sem] Oper.semAt_some

theorem okS_T {s : ByteArray} (h : okS s) : ∃ q : Rat, sz 20 q ∧ s = T q := by
  obtain ⟨e, _, _, _⟩ := chkQ_ok h.2
  exact ⟨valQ s.data.toList, chkQ_sz h.2 (by rw [bytes_len]; exact h.1) (by omega), T_of e⟩
/-- A row of texts in the memory. -/
def StrsAt (w : World) (b : Nat) (l : List ByteArray) : Prop := b < w.heap.size ∧ ∀ (i : Nat) s, l[i]? = some s → w.cell? ⟨b, i, none⟩ = some (.string s)
theorem StrsAt.below {w w2 : World} {b : Nat} {l : List ByteArray} {n : Nat} (h : StrsAt w b l) (hb : Below n w w2) (hn : b < n) : StrsAt w2 b l :=
  ⟨Nat.lt_of_lt_of_le h.1 hb.size, fun i q hq => by rw [← h.2 i q hq]; exact hb.cell (p := ⟨b, i, none⟩) hn⟩
theorem strs1 {w : World} {b : Nat} {p : ByteArray} (h : w.heap[b]? = some (.cells #[.string p] 22 (0, 0))) : StrsAt w b [p] := by
  refine ⟨lt_blk h, fun i x hx => ?_⟩
  match i with
  | 0 => simp at hx; rw [← hx]; exact cell_blk h 0
  | i + 1 => simp at hx
theorem strs2 {w : World} {b : Nat} {p q : ByteArray} (h : w.heap[b]? = some (.cells #[.string p, .string q] 22 (0, 0))) : StrsAt w b [p, q] := by
  refine ⟨lt_blk h, fun i x hx => ?_⟩
  match i with
  | 0 => simp at hx; rw [← hx]; exact cell_blk h 0
  | 1 => simp at hx; rw [← hx]; exact cell_blk h 1
  | i + 2 => simp at hx
theorem strs3 {w : World} {b : Nat} {p q r : ByteArray} (h : w.heap[b]? = some (.cells #[.string p, .string q, .string r] 22 (0, 0))) : StrsAt w b [p, q, r] := by
  refine ⟨lt_blk h, fun i x hx => ?_⟩
  match i with
  | 0 => simp at hx; rw [← hx]; exact cell_blk h 0
  | 1 => simp at hx; rw [← hx]; exact cell_blk h 1
  | 2 => simp at hx; rw [← hx]; exact cell_blk h 2
  | i + 3 => simp at hx
theorem strs5 {w : World} {b : Nat} {p q r s t : ByteArray} (h : w.heap[b]? = some (.cells #[.string p, .string q, .string r, .string s, .string t] 22 (0, 0))) : StrsAt w b [p, q, r, s, t] := by
  refine ⟨lt_blk h, fun i x hx => ?_⟩
  match i with
  | 0 => simp at hx; rw [← hx]; exact cell_blk h 0
  | 1 => simp at hx; rw [← hx]; exact cell_blk h 1
  | 2 => simp at hx; rw [← hx]; exact cell_blk h 2
  | 3 => simp at hx; rw [← hx]; exact cell_blk h 3
  | 4 => simp at hx; rw [← hx]; exact cell_blk h 4
  | i + 5 => simp at hx
theorem nums3 {w : World} {b : Nat} {p q r : Rat} (h : w.heap[b]? = some (.cells #[.string (T p), .string (T q), .string (T r)] 22 (0, 0))) : NumsAt w b [p, q, r] := by
  refine ⟨lt_blk h, fun i x hx => ?_⟩
  match i with
  | 0 => simp at hx; rw [← hx]; exact cell_blk h 0
  | 1 => simp at hx; rw [← hx]; exact cell_blk h 1
  | 2 => simp at hx; rw [← hx]; exact cell_blk h 2
  | i + 3 => simp at hx
set_option maxRecDepth 100000 in
set_option maxHeartbeats 8000000 in
theorem lsizes_any (b : Nat) (l : List ByteArray) (hl : l.length ≤ 1000) (B : Nat) (w : World) (hc : StrsAt w b l) (hB : B ≤ w.heap.size) (hT : PQ B w) :
    Calls Tryz.prog 20 #[.slice (some ⟨b, 0, none⟩) l.length l.length] w (Ret w (.bool (decide (∀ s ∈ l, okS s)))) := by
  have HT := hide hT
  have HC := hide hc
  obtain ⟨n, hn⟩ : ∃ n, n = l.length := ⟨_, rfl⟩
  rw [← hn] at hl ⊢
  have HN := hide hn
  obtain ⟨R, hR⟩ : ∃ R, R = decide (∀ s ∈ l, okS s) := ⟨_, rfl⟩
  rw [← hR]
  have HR := hide hR
  clear hc hn hT hR
  go_enter Tryz.func20, Tryz.ntmps20
  go_wp2_with fail
  go_loopw [7] (fun i wr => ∃ k : Nat, k ≤ n ∧ i = .int .i64 k ∧ Hid ((∀ s ∈ l.take k, okS s) ∧ Below w.heap.size w wr)) (fun i _ => n - (intOf i).toNat)
  case atStart => exact ⟨0, Nat.zero_le _, rfl, ⟨by simp, Below.refl _ _⟩⟩
  case round =>
    obtain ⟨k, hk, rfl, hin⟩ := hrel
    obtain ⟨wo, hwo⟩ : ∃ wo, wo = wr := ⟨_, rfl⟩
    subst hwo
    by_cases hlt : k < n
    · have hki : (k : Int) < (n : Int) := by omega
      have hk0 : (0 : Int) ≤ (k : Int) := by omega
      obtain ⟨s, hs⟩ : ∃ s, l[k]? = some s := ⟨_, List.getElem?_eq_getElem (by rw [← HN.out]; exact hlt)⟩
      have hm := List.mem_of_getElem? hs
      have hcell := (HC.out.below hin.out.2 HC.out.1).2 k s hs
      by_cases h20 : s.size ≤ 20
      · have hz : ((20 : Int) < (s.size : Int)) = False := eq_false (by omega)
        have H1 := hide (qCheck_any s (by omega) B wo (Nat.le_trans hB hin.out.2.size) (HT.out.on hin.out.2 hB))
        by_cases hq : chkQ s.data.toList = 0
        · have hn : Hid (∀ x ∈ l.take (k + 1), okS x) := hide (fun x hx => by
            rw [List.take_add_one, hs] at hx
            rcases List.mem_append.1 hx with h | h
            · exact hin.out.1 x h
            · simp at h; rw [h]; exact ⟨h20, hq⟩)
          have HB0 := hide hin.out.2
          rw [hq] at H1
          clear hs hm hlt h20 hq hin
          go_wp2_with fail
          refine H1.out.mono ?_
          rintro e w1 ⟨rfl, hb1⟩
          have HB1 := hide (HB0.out.trans (hb1.mono HB0.out.size))
          clear hb1
          go_wp2_with fail
          go_roundw
          case rel => exact ⟨k + 1, by omega, by simp, ⟨hn.out, HB1.out⟩⟩
          case measure => simp [intOf]; omega
        · have hf : R = false := by rw [HR.out, decide_eq_false_iff_not]; exact fun h => hq (h s hm).2
          have hqb : (chkQ s.data.toList == 0) = false := by simpa using hq
          have HB0 := hide hin.out.2
          generalize chkQ s.data.toList = E at H1 hqb
          subst hf
          clear hs hm hlt h20 hq hin HR
          go_wp2_with fail
          refine H1.out.mono ?_
          rintro e w1 ⟨rfl, hb1⟩
          have HB1 := hide (HB0.out.trans (hb1.mono HB0.out.size))
          clear hb1
          go_wp2_with fail
          go_ret
          exact ⟨rfl, HB1.out⟩
      · have hz : (20 : Int) < (s.size : Int) := by omega
        have hf : R = false := by rw [HR.out, decide_eq_false_iff_not]; exact fun h => h20 (h s hm).1
        have HB0 := hide hin.out.2
        subst hf
        clear hs hm hlt h20 hin HR
        go_wp2_with fail
        go_ret
        exact ⟨rfl, HB0.out⟩
    · obtain rfl : k = n := by omega
      have hki : ((k : Int) < (k : Int)) = False := eq_false (by omega)
      have hf : R = true := by
        rw [HR.out, decide_eq_true_iff]
        have h := hin.out.1
        rw [List.take_of_length_le (by rw [← HN.out]; omega)] at h
        exact h
      have HB0 := hide hin.out.2
      subst hf
      clear hlt hin HR
      go_wp2_with fail
      go_ret
      exact ⟨rfl, HB0.out⟩
theorem fitsQ_zero : fitsQ (0 : Rat) := sz_fits (p := 1) ⟨by decide, by decide⟩ (by rw [most_eq]; omega)
theorem cmpC_zero {q : Rat} (h : fitsQ q) : cmpC q 0 := by
  refine ⟨?_, ?_⟩
  · show fits (q.num * 1)
    rw [Int.mul_one]; exact h.1
  · show fits (0 * _)
    rw [Int.zero_mul]; exact fits_zero
set_option maxRecDepth 100000 in
theorem lsign_T {q : Rat} (fq : fitsQ q) (B : Nat) (w : World) (hB : B ≤ w.heap.size) (hT : PQ B w) :
    Calls Tryz.prog 22 #[.string (T q)] w (Ret w (.int .i64 (sgnR q))) := by
  have HT := hide hT
  have H1 := hide (fun w hB hT => qcmp_T fq fitsQ_zero (cmpC_zero fq) B w hB hT)
  rw [T0] at H1
  show Calls _ _ _ _ (Ret w (.int .i64 (cmpR q 0)))
  generalize cmpR q 0 = k at H1 ⊢
  generalize T q = X at H1 ⊢
  clear fq hT
  go_enter Tryz.func22, Tryz.ntmps22
  go_wp2_with fail
  refine (H1.out _ hB HT.out).mono ?_
  rintro e w1 ⟨rfl, hb1⟩
  have HB1 := hide hb1
  clear hb1
  go_wp2_with fail
  go_ret
  exact ⟨rfl, HB1.out⟩
theorem T1 : T 1 = ⟨#[49]⟩ := by
  rw [show T 1 = iB ((1 : Nat) : Int) from (iB_T _).symm]
  exact lit1
theorem fitsQ_one : fitsQ (1 : Rat) := sz_fits (p := 1) ⟨by decide, by decide⟩ (by rw [most_eq]; omega)
theorem okT_drop {x a : Rat} {l : List Rat} {k : Nat} (hs : l[k]? = some a) (h : okT (prodL x (l.take k)) (l.drop k)) : fitsQ a ∧ mulC (prodL x (l.take k)) a ∧ prodL x (l.take (k + 1)) = prodL x (l.take k) * a ∧ okT (prodL x (l.take (k + 1))) (l.drop (k + 1)) := by
  have hk : k < l.length := (List.getElem?_eq_some_iff.1 hs).1
  have e : l.drop k = a :: l.drop (k + 1) := by
    rw [List.drop_eq_getElem_cons hk]
    congr 1
    exact (List.getElem?_eq_some_iff.1 hs).2
  rw [e] at h
  have e2 : prodL x (l.take (k + 1)) = prodL x (l.take k) * a := by
    unfold prodL
    rw [List.take_add_one, hs, List.foldl_append]
    rfl
  exact ⟨h.1, h.2.1, e2, by rw [e2]; exact h.2.2⟩
set_option maxRecDepth 100000 in
set_option maxHeartbeats 8000000 in
theorem ltimes_T (b : Nat) (l : List Rat) (hl : l.length ≤ 1000) (hok : okT 1 l) (B : Nat) (w : World) (hc : NumsAt w b l) (hB : B ≤ w.heap.size) (hT : PQ B w) :
    Calls Tryz.prog 21 #[.slice (some ⟨b, 0, none⟩) l.length l.length] w (Ret w (.string (T (prodL 1 l)))) := by
  have HT := hide hT
  have HC := hide hc
  obtain ⟨n, hn⟩ : ∃ n, n = l.length := ⟨_, rfl⟩
  rw [← hn] at hl ⊢
  have HN := hide hn
  have HOK := hide hok
  clear hc hn hT hok
  go_enter Tryz.func21, Tryz.ntmps21
  go_wp2_with fail
  go_loopw [3, 9] (fun o i wr => ∃ k : Nat, k ≤ n ∧ o = .string (T (prodL 1 (l.take k))) ∧ i = .int .i64 k ∧ Hid (fitsQ (prodL 1 (l.take k)) ∧ okT (prodL 1 (l.take k)) (l.drop k) ∧ Below w.heap.size w wr)) (fun _ i _ => n - (intOf i).toNat)
  case atStart => exact ⟨0, Nat.zero_le _, by rw [show prodL 1 (l.take 0) = 1 from rfl, T1], rfl, ⟨fitsQ_one, HOK.out, Below.refl _ _⟩⟩
  case round =>
    obtain ⟨k, hk, rfl, rfl, hin⟩ := hrel
    obtain ⟨wo, hwo⟩ : ∃ wo, wo = wr := ⟨_, rfl⟩
    subst hwo
    by_cases hlt : k < n
    · have hki : (k : Int) < (n : Int) := by omega
      have hk0 : (0 : Int) ≤ (k : Int) := by omega
      obtain ⟨a, hs⟩ : ∃ s, l[k]? = some s := ⟨_, List.getElem?_eq_getElem (by rw [← HN.out]; exact hlt)⟩
      have hcell := (HC.out.below hin.out.2.2 HC.out.1).2 k a hs
      obtain ⟨fa, hm, he, hok⟩ := okT_drop hs hin.out.2.1
      have H1 := hide (qmul_to (T_list _) (T_list a) hin.out.1 fa hm B wo (Nat.le_trans hB hin.out.2.2.size) (HT.out.on hin.out.2.2 hB))
      rw [← he] at H1
      have hfit : fitsQ (prodL 1 (l.take (k + 1))) := by rw [he]; exact mulC_fits hm
      have HNX := hide (And.intro hfit hok)
      have HB0 := hide hin.out.2.2
      rw [show strB (ratS (prodL 1 (l.take (k + 1)))) = T (prodL 1 (l.take (k + 1))) from rfl] at H1
      obtain ⟨Z, hZ⟩ : ∃ Z, Z = T (prodL 1 (l.take (k + 1))) := ⟨_, rfl⟩
      rw [← hZ] at H1
      have HZ := hide hZ
      generalize T (prodL 1 (l.take k)) = Y at H1 ⊢
      generalize T a = X at H1 hcell
      clear hs hlt hin fa hm he hok hfit hZ
      go_wp2_with fail
      refine H1.out.mono ?_
      rintro e w1 ⟨rfl, hb1⟩
      have HB1 := hide (HB0.out.trans (hb1.mono HB0.out.size))
      clear hb1
      go_wp2_with fail
      go_roundw
      case rel => exact ⟨k + 1, by omega, by rw [HZ.out], by simp, ⟨HNX.out.1, HNX.out.2, HB1.out⟩⟩
      case measure => simp [intOf]; omega
    · obtain rfl : k = n := by omega
      have hki : ((k : Int) < (k : Int)) = False := eq_false (by omega)
      have HB0 := hide hin.out.2.2
      obtain ⟨Z, hZ⟩ : ∃ Z, Z = T (prodL 1 (l.take k)) := ⟨_, rfl⟩
      rw [← hZ]
      have HZ := hide (hZ.trans (by rw [List.take_of_length_le (by rw [← HN.out]; omega)]))
      clear hlt hin hZ
      go_wp2_with fail
      go_ret
      exact ⟨by rw [← HZ.out]; rfl, HB0.out⟩
/-- Sizes of products. -/
theorem okT_of : ∀ (l : List (Rat × Nat)) (x : Rat) (p : Nat), sz p x → (∀ y ∈ l, sz y.2 y.1) → p + (l.map (·.2)).sum ≤ 300 → okT x (l.map (·.1)) ∧ sz (p + (l.map (·.2)).sum) (prodL x (l.map (·.1))) := by
  intro l
  induction l with
  | nil => intro x p h _ _; exact ⟨trivial, by simpa [prodL] using h⟩
  | cons y l ih =>
    intro x p h hl hs
    have hy := hl y (by simp)
    simp only [List.map_cons, List.sum_cons] at hs ⊢
    obtain ⟨i1, i2⟩ := ih (x * y.1) (p + y.2) (sz_mul h hy) (fun z hz => hl z (by simp [hz])) (by omega)
    refine ⟨⟨sz_fits hy (by rw [most_eq]; omega), mulC_of h hy (by rw [most_eq]; omega), i1⟩, ?_⟩
    rw [show p + (y.2 + (l.map (·.2)).sum) = p + y.2 + (l.map (·.2)).sum by omega]
    exact i2
theorem sz_one : sz 1 (1 : Rat) := ⟨by decide, by decide⟩
theorem okT2 {a b : Rat} {p q : Nat} (ha : sz p a) (hb : sz q b) (h : p + q ≤ 299) : okT 1 [a, b] ∧ prodL 1 [a, b] = a * b ∧ sz (1 + (p + q)) (a * b) := by
  have e : prodL 1 [a, b] = a * b := by show 1 * a * b = a * b; rw [Rat.one_mul]
  have k := okT_of [(a, p), (b, q)] 1 1 sz_one (fun y hy => by simp at hy; rcases hy with rfl | rfl; exact ha; exact hb) (by simp; omega)
  have h2 := k.2
  simp only [List.map_cons, List.map_nil, List.sum_cons, List.sum_nil, Nat.add_zero] at h2
  rw [e] at h2
  exact ⟨k.1, e, h2⟩
theorem okT3 {a b c : Rat} {p q r : Nat} (ha : sz p a) (hb : sz q b) (hc : sz r c) (h : p + q + r ≤ 299) : okT 1 [a, b, c] ∧ prodL 1 [a, b, c] = a * b * c ∧ sz (1 + (p + (q + r))) (a * b * c) := by
  have e : prodL 1 [a, b, c] = a * b * c := by show 1 * a * b * c = a * b * c; rw [Rat.one_mul]
  have k := okT_of [(a, p), (b, q), (c, r)] 1 1 sz_one (fun y hy => by simp at hy; rcases hy with rfl | rfl | rfl; exact ha; exact hb; exact hc) (by simp; omega)
  have h2 := k.2
  simp only [List.map_cons, List.map_nil, List.sum_cons, List.sum_nil, Nat.add_zero] at h2
  rw [e] at h2
  exact ⟨k.1, e, h2⟩
set_option maxRecDepth 100000 in
theorem ltimes2 {a b : Rat} {p q : Nat} (ha : sz p a) (hb : sz q b) (h : p + q ≤ 299) (B : Nat) (w : World) (r : Nat) (hr : w.heap[r]? = some (.cells #[.string (T a), .string (T b)] 22 (0, 0))) (hB : B ≤ w.heap.size) (hT : PQ B w) :
    Calls Tryz.prog 21 #[.slice (some ⟨r, 0, none⟩) 2 2] w (Ret w (.string (T (a * b)))) := by
  obtain ⟨k1, k2, _⟩ := okT2 ha hb h
  have := ltimes_T r [a, b] (by simp) k1 B w (nums2 hr) hB hT
  rw [k2] at this
  exact this
set_option maxRecDepth 100000 in
theorem ltimes3 {a b c : Rat} {p q s : Nat} (ha : sz p a) (hb : sz q b) (hc : sz s c) (h : p + q + s ≤ 299) (B : Nat) (w : World) (r : Nat) (hr : w.heap[r]? = some (.cells #[.string (T a), .string (T b), .string (T c)] 22 (0, 0))) (hB : B ≤ w.heap.size) (hT : PQ B w) :
    Calls Tryz.prog 21 #[.slice (some ⟨r, 0, none⟩) 3 3] w (Ret w (.string (T (a * b * c)))) := by
  obtain ⟨k1, k2, _⟩ := okT3 ha hb hc h
  have := ltimes_T r [a, b, c] (by simp) k1 B w (nums3 hr) hB hT
  rw [k2] at this
  exact this
end Go.Proofs.YtgddookioipjiaaGreatDoor
namespace Go.Proofs.YtgddookioipjiaaGreatDoor
open Go.RowKit Go.KP Go.KI Go.Shelf
attribute [local go_sem] Oper.semAt_some

theorem txq {x : Rat} {n d : Nat} {a b : List UInt8} (h1 : x.num = (n : Int)) (h2 : x.den = d) (h3 : d ≠ 1) (ha : Lib.decDigits n = a) (hb : Lib.decDigits d = b) : T x = strB (a ++ 47 :: b) := by
  unfold T ratS
  rw [if_neg (by omega), h1, Lib.itoa_nonneg, h2, ha, hb]
theorem txn {x : Rat} {n : Nat} {a : List UInt8} (h : x = ((n : Nat) : Rat)) (ha : Lib.decDigits n = a) : T x = strB a := by
  rw [h, show T ((n : Nat) : Rat) = iB (n : Int) from (iB_T _).symm, iB_lit n a ha]
abbrev e12 : Rat := ⟨1, 2, by decide, by decide⟩
abbrev e94 : Rat := ⟨9, 4, by decide, by decide⟩
abbrev e32 : Rat := ⟨3, 2, by decide, by decide⟩
abbrev e100 : Rat := ⟨1, 100, by decide, by decide⟩
abbrev e141 : Rat := ⟨141, 100, by decide, by decide⟩
theorem ex8 : T 8 = ⟨#[56]⟩ := txn (n := 8) rfl (a := [56]) (by decide +kernel)
theorem ex2 : T 2 = ⟨#[50]⟩ := txn (n := 2) rfl (a := [50]) (by decide +kernel)
theorem ex12 : T e12 = ⟨#[49, 47, 50]⟩ := txq (n := 1) (d := 2) rfl rfl (by decide) (a := [49]) (b := [50]) (by decide +kernel) (by decide +kernel)
theorem ex94 : T e94 = ⟨#[57, 47, 52]⟩ := txq (n := 9) (d := 4) rfl rfl (by decide) (a := [57]) (b := [52]) (by decide +kernel) (by decide +kernel)
theorem ex32 : T e32 = ⟨#[51, 47, 50]⟩ := txq (n := 3) (d := 2) rfl rfl (by decide) (a := [51]) (b := [50]) (by decide +kernel) (by decide +kernel)
theorem ex100 : T e100 = ⟨#[49, 47, 49, 48, 48]⟩ := txq (n := 1) (d := 100) rfl rfl (by decide) (a := [49]) (b := [49, 48, 48]) (by decide +kernel) (by decide +kernel)
theorem ex141 : T e141 = ⟨#[49, 52, 49, 47, 49, 48, 48]⟩ := txq (n := 141) (d := 100) rfl rfl (by decide) (a := [49, 52, 49]) (b := [49, 48, 48]) (by decide +kernel) (by decide +kernel)
theorem roomy_lit {x : Rat} (h : x.num.natAbs < 10 ^ 3 ∧ x.den < 10 ^ 3) : roomy x := roomy_of (p := 3) h (by omega)
theorem normN_8 : normN 8 = (2, 2) := by decide +kernel
theorem norm8 : normC 8 = 2 ∧ normL 8 = 2 := by
  have e : normN ((8 : Rat).num.toNat * (8 : Rat).den) = (2, 2) := normN_8
  unfold normC normL
  rw [e]
  exact ⟨by decide +kernel, rfl⟩
theorem norm12 : normC e12 = e12 ∧ normL e12 = 2 := by
  have e : normN (e12.num.toNat * e12.den) = (1, 2) := normN_2
  unfold normC normL
  rw [e]
  exact ⟨by decide +kernel, rfl⟩
theorem sqR94 : sqR e94 = some e32 := (sqR_some (by decide +kernel)).2 ⟨by decide +kernel, by decide +kernel⟩
theorem floor141 : floorR 2 e100 = e141 := by
  have e : unitsN 2 e100 1 = 141 := by
    unfold unitsN
    rw [show (2 : Rat).num * ((e100.den : Int) * e100.den) * ((1 : Nat) : Int) / (((2 : Rat).den : Int) * (e100.num * e100.num)) = 20000 by decide +kernel]
    exact rootN_eq (by decide) (by decide)
  unfold floorR
  rw [e]
  decide +kernel
theorem mxe4 (w : World) : (Builtin.max_ #[26, 26, 26, 26] 26 #[.int .i64 0, .int .i64 0, .int .i64 0, .int .i64 0]).run Tryz.prog w = .ok (.int .i64 0) w := by kernel_rfl
set_option maxRecDepth 100000 in
set_option maxHeartbeats 8000000 in
theorem l3awake_any (B : Nat) (w : World) (hB : B ≤ w.heap.size) (hT : PR B w) :
    Calls Tryz.prog 13 #[] w (Ret w (.bool true)) := by
  have HT := hide hT
  have H1 := hide (fun w hB hT => rNormal_pos (q := 8) (roomy_lit (by decide +kernel)) (by decide +kernel) B w hB hT)
  have H2 := hide (fun w hB hT => rNormal_pos (q := e12) (roomy_lit (by decide +kernel)) (by decide +kernel) B w hB hT)
  have H3 := hide (fun w hB hT => rExact_T (q := e94) (roomy_lit (by decide +kernel)) (by decide +kernel) B w hB hT)
  have H4 := hide (fun w hB hT => rFloor_T (q := 2) (u := e100) (roomy_lit (by decide +kernel)) (roomy_lit (by decide +kernel)) (by decide +kernel) (by decide +kernel) B w hB hT)
  rw [norm8.1, norm8.2, ex8, ex2, lit2] at H1
  rw [norm12.1, norm12.2, ex12, lit2] at H2
  rw [sqR94, ex94] at H3
  dsimp only [rootT, rootB] at H3
  rw [ex32] at H3
  rw [floor141, ex2, ex100, ex141] at H4
  have hmx := mxe4
  clear hT
  go_enter Tryz.func13, Tryz.ntmps13
  go_wp2_with fail
  refine (H1.out _ hB HT.out).mono ?_
  rintro e w1 ⟨rfl, hb1⟩
  have HB1 := hide hb1
  clear hb1
  go_wp2_with fail
  refine (H2.out _ (Nat.le_trans hB HB1.out.size) (HT.out.on HB1.out hB)).mono ?_
  rintro e w2 ⟨rfl, hb2⟩
  have HB2 := hide (HB1.out.trans (hb2.mono HB1.out.size))
  clear hb2
  go_wp2_with fail
  refine (H3.out _ (Nat.le_trans hB HB2.out.size) (HT.out.on HB2.out hB).pq).mono ?_
  rintro e w3 ⟨rfl, hb3⟩
  have HB3 := hide (HB2.out.trans (hb3.mono HB2.out.size))
  clear hb3
  go_wp2_with fail
  refine (H4.out _ (Nat.le_trans hB HB3.out.size) (HT.out.on HB3.out hB).pq).mono ?_
  rintro e w4 ⟨rfl, hb4⟩
  have HB4 := hide (HB3.out.trans (hb4.mono HB3.out.size))
  clear hb4
  go_wp2_with fail
  go_ret
  exact ⟨rfl, HB4.out⟩
end Go.Proofs.YtgddookioipjiaaGreatDoor
namespace Go.Proofs.YtgddookioipjiaaGreatDoor
open Go.RowKit Go.KP Go.KI Go.Shelf
attribute [local go_sem] Oper.semAt_some

theorem floor_native (n : Int) {d : Int} (hd : 0 < d) : (n.tmod d < 0 ∧ n / d = n.tdiv d - 1) ∨ ((n.tmod d < 0) = False ∧ n / d = n.tdiv d) := by
  have h1 := Int.mul_tdiv_add_tmod n d
  have h2 := Int.mul_ediv_add_emod n d
  have h3 := Int.emod_nonneg n (show d ≠ 0 by omega)
  have h4 := Int.emod_lt_of_pos n hd
  have h5 := @Int.tdiv_eq_ediv n d
  by_cases hc : 0 ≤ n ∨ d ∣ n
  · rw [if_pos hc, Int.add_zero] at h5
    rw [h5] at h1
    exact .inr ⟨eq_false (by omega), h5.symm⟩
  · rw [if_neg hc, Int.sign_eq_one_of_pos hd] at h5
    rw [h5, Int.mul_add, Int.mul_one] at h1
    have h6 : n % d ≠ 0 := fun e => hc (.inr (Int.dvd_of_emod_eq_zero e))
    exact .inl ⟨by omega, by omega⟩
/-- What Floor answers. -/
def floorS (l : List UInt8) : List UInt8 := if chkQ l = 0 then Lib.itoa (valQ l).floor else []
set_option maxRecDepth 100000 in
set_option maxHeartbeats 4000000 in
theorem qFloor_any (s : ByteArray) (hs : s.size ≤ 1000000) (B : Nat) (w : World) (hB : B ≤ w.heap.size) (hT : PQ B w) :
    Calls Tryz.prog 23 #[.string s] w (Ret w (pairV (floorS s.data.toList) (chkQ s.data.toList))) := by
  have HT := hide hT
  have HN := hide (nativeOf_any s hs w)
  by_cases hq : natQ s.data.toList
  · rw [natOV_yes hq] at HN
    rw [show floorS s.data.toList = Lib.itoa (valQ s.data.toList).floor from if_pos hq.1, hq.1, Rat.floor_def]
    obtain ⟨a1, a2, a3⟩ := natQ_lt hq
    obtain ⟨x, hx⟩ : ∃ x, x = (valQ s.data.toList).num := ⟨_, rfl⟩
    obtain ⟨y, hy⟩ : ∃ y, y = (valQ s.data.toList).den := ⟨_, rfl⟩
    rw [← hx, ← hy] at HN
    rw [← hx, ← hy]
    rw [← hx] at a1
    rw [← hy] at a2 a3
    have hfl := floor_native x (d := (y : Int)) (by omega)
    have hqa : (x / (y : Int)).natAbs ≤ x.natAbs := Int.natAbs_ediv_le_natAbs _ _
    obtain ⟨q, hq1⟩ : ∃ q, q = x.tdiv (y : Int) := ⟨_, rfl⟩
    obtain ⟨r, hr1⟩ : ∃ r, r = x.tmod (y : Int) := ⟨_, rfl⟩
    obtain ⟨F, hF⟩ : ∃ F, F = x / (y : Int) := ⟨_, rfl⟩
    rw [← hq1, ← hr1, ← hF] at hfl
    rw [← hF] at hqa ⊢
    have q1 := hq1.symm
    have r1 := hr1.symm
    have y0 : ((y : Int) == 0) = false := by
      simp only [beq_eq_false_iff_ne, ne_eq]
      omega
    have y1 : 0 < (y : Int) := by omega
    have b1 : -100000000 < F := by omega
    have b2 : F < 100000000 := by omega
    have HI := hide (fun w hT => itoa_any F (by omega) (by omega) B w hT)
    obtain ⟨X, hX⟩ : ∃ X, X = strB (Lib.itoa F) := ⟨_, rfl⟩
    rw [show pairV (Lib.itoa F) 0 = .tuple #[.string X, .int .i64 0] by rw [hX]]
    rw [← hX] at HI
    rcases hfl with ⟨e1, e2⟩ | ⟨e1, e2⟩
    case' inl =>
      subst e2
      have b3 : -100000000 < q := by omega
      have b4 : q ≤ 100000000 := by omega
    case' inr => subst e2
    all_goals
      clear hx hy hq1 hr1 hF hX hq hqa hT a1
      go_enter Tryz.func23, Tryz.ntmps23
      go_wp2_with fail
      refine HN.out.mono ?_
      rintro e w1 ⟨rfl, hb1⟩
      have HB1 := hide (hb1.trans ((heap1 w1 (natO x (y : Int))).2.2.mono hb1.size))
      clear hb1
      go_wp2_with fail
      have HT1 := hide (HT.out.p10.on HB1.out hB)
      refine (HI.out _ HT1.out).mono ?_
      rintro e w2 ⟨rfl, hb2⟩
      have HB2 := hide (HB1.out.trans (hb2.mono HB1.out.size))
      clear hb2
      go_wp2_with fail
      refine bodyPost_ret (results_tmp2 rfl _ _ _) rfl ?_
      exact ⟨rfl, HB2.out⟩
  · rw [natOV_no hq] at HN
    have HR := hide (fun w hB hT => qread_any s hs B w hB hT)
    by_cases hc : chkQ s.data.toList = 0
    · rw [readV_good hc] at HR
      obtain ⟨_, f, _, _⟩ := chkQ_ok hc
      have dp : ((valQ s.data.toList).den : Int) ≠ 0 := den_ne _
      have hfl : (valQ s.data.toList).floor = (valQ s.data.toList).num.fdiv ((valQ s.data.toList).den : Int) := by
        rw [Rat.floor_def, Int.fdiv_eq_ediv_of_nonneg _ (by omega)]
      rw [show floorS s.data.toList = Lib.itoa (valQ s.data.toList).floor from if_pos hc, hc, hfl]
      have HD := hide (fun w hB hT => Divide_to (s := strB (Lib.itoa (valQ s.data.toList).num)) (t := strB (Lib.itoa ((valQ s.data.toList).den : Int))) (q := strB (Lib.itoa ((valQ s.data.toList).num.fdiv ((valQ s.data.toList).den : Int)))) (r := strB (Lib.itoa ((valQ s.data.toList).num.fmod ((valQ s.data.toList).den : Int)))) (strB_list _) (strB_list _) (strB_list _) (strB_list _) f.1 f.2 dp B w hB hT)
      obtain ⟨n, hn⟩ : ∃ n, n = strB (Lib.itoa (valQ s.data.toList).num) := ⟨_, rfl⟩
      obtain ⟨d, hd⟩ : ∃ d, d = strB (Lib.itoa ((valQ s.data.toList).den : Int)) := ⟨_, rfl⟩
      obtain ⟨X, hX⟩ : ∃ X, X = strB (Lib.itoa ((valQ s.data.toList).num.fdiv ((valQ s.data.toList).den : Int))) := ⟨_, rfl⟩
      obtain ⟨Y, hY⟩ : ∃ X, X = strB (Lib.itoa ((valQ s.data.toList).num.fmod ((valQ s.data.toList).den : Int))) := ⟨_, rfl⟩
      rw [← hn, ← hd, ← hX, ← hY] at HD
      rw [← hn, ← hd] at HR
      rw [show pairV (Lib.itoa ((valQ s.data.toList).num.fdiv ((valQ s.data.toList).den : Int))) 0 = .tuple #[.string X, .int .i64 0] by rw [hX]]
      clear hn hd hX hY hc hfl dp f hq hT
      go_enter Tryz.func23, Tryz.ntmps23
      go_wp2_with fail
      refine HN.out.mono ?_
      rintro e w1 ⟨rfl, hb1⟩
      have HB1 := hide (hb1.trans ((heap1 w1 (natO 0 0)).2.2.mono hb1.size))
      clear hb1
      go_wp2_with fail
      refine (HR.out _ (Nat.le_trans hB HB1.out.size) (HT.out.on HB1.out hB)).mono ?_
      rintro e w2 ⟨rfl, hb2⟩
      have HB2 := hide (HB1.out.trans (hb2.mono HB1.out.size))
      have HB2b := hide (HB2.out.trans ((heap1 w2 (partsO n d)).2.2.mono HB2.out.size))
      clear hb2
      go_wp2_with fail
      refine (HD.out _ (Nat.le_trans hB HB2b.out.size) (HT.out.p10.on HB2b.out hB)).mono ?_
      rintro e w3 ⟨rfl, hb3⟩
      have HB3 := hide (HB2b.out.trans (hb3.mono HB2b.out.size))
      clear hb3
      go_wp2_with fail
      refine bodyPost_ret (results_tmp2 rfl _ _ _) rfl ?_
      exact ⟨rfl, HB3.out⟩
    · rw [readV_bad hc] at HR
      rw [show floorS s.data.toList = [] from if_neg hc, pairV_err]
      have hne : (chkQ s.data.toList != 0) = true := by simpa using hc
      obtain ⟨E, hE⟩ : ∃ E, E = chkQ s.data.toList := ⟨_, rfl⟩
      rw [← hE] at HR hne ⊢
      clear hE hc hq hT
      go_enter Tryz.func23, Tryz.ntmps23
      go_wp2_with fail
      refine HN.out.mono ?_
      rintro e w1 ⟨rfl, hb1⟩
      have HB1 := hide (hb1.trans ((heap1 w1 (natO 0 0)).2.2.mono hb1.size))
      clear hb1
      go_wp2_with fail
      refine (HR.out _ (Nat.le_trans hB HB1.out.size) (HT.out.on HB1.out hB)).mono ?_
      rintro e w2 ⟨rfl, hb2⟩
      have HB2 := hide (HB1.out.trans (hb2.mono HB1.out.size))
      clear hb2
      go_wp2_with fail
      refine bodyPost_ret (results_tmp2 rfl _ _ _) rfl ?_
      exact ⟨rfl, HB2.out.trans ((heap1 w2 _).2.2.mono HB2.out.size)⟩
theorem qfloor_to {s : ByteArray} {x : Rat} (h1 : s.data.toList = ratS x) (f1 : fitsQ x) (B : Nat) (w : World) (hB : B ≤ w.heap.size) (hT : PQ B w) :
    Calls Tryz.prog 23 #[.string s] w (Ret w (.tuple #[.string (strB (ratS ((x.floor : Int) : Rat))), .int .i64 0])) := by
  obtain ⟨a1, a2⟩ := good_val h1 f1
  have h := qFloor_any s (good_len h1 f1) B w hB hT
  unfold floorS at h
  rw [if_pos a1, a1, a2, ← ratS_int] at h
  exact h
end Go.Proofs.YtgddookioipjiaaGreatDoor
namespace Go.Proofs.YtgddookioipjiaaGreatDoor
open Go.RowKit Go.KP Go.KI Go.Shelf
attribute [local go_sem] Oper.semAt_some

theorem sgn_nonneg {q : Rat} (h : ¬ sgnR q < 0) : 0 ≤ q.num := by
  refine Rat.num_nonneg.2 (Rat.not_lt.1 fun h1 => h ?_)
  rw [show sgnR q = -1 from cmpT_lt h1]
  decide
theorem sgn_pos {q : Rat} (h : ¬ sgnR q ≤ 0) : 0 < q.num := by
  refine num_gt (Rat.not_le.1 fun h1 => h ?_)
  rcases cmpT_cases q 0 with ⟨_, h2⟩ | ⟨_, h2⟩ | ⟨h2, _⟩
  · rw [show sgnR q = -1 from h2]; decide
  · rw [show sgnR q = 0 from h2]; decide
  · exact absurd h2 (Rat.not_lt.2 h1)
theorem sgn_ge {q : Rat} (h : 0 ≤ q) : 0 ≤ sgnR q := by
  rcases cmpT_cases q 0 with ⟨h1, _⟩ | ⟨_, h2⟩ | ⟨_, h2⟩
  · exact absurd h1 (Rat.not_lt.2 h)
  · rw [show sgnR q = 0 from h2]; decide
  · rw [show sgnR q = 1 from h2]; decide
theorem sgn_neg {q : Rat} (h : q < 0) : sgnR q < 0 := by
  rw [show sgnR q = -1 from cmpT_lt h]
  decide
theorem cmp_le {x y : Rat} (h : x ≤ y) : cmpR x y ≤ 0 := by
  rcases cmpT_cases x y with ⟨_, h2⟩ | ⟨_, h2⟩ | ⟨h1, _⟩
  · rw [h2]; decide
  · rw [h2]; decide
  · exact absurd h1 (Rat.not_lt.2 h)
theorem floor_natc (n : Nat) : (((((n : Nat) : Rat).floor : Int) : Rat)) = ((n : Nat) : Rat) := by
  rw [show ((n : Nat) : Rat) = (((n : Nat) : Int) : Rat) from rfl, Rat.floor_intCast]
theorem mxe2 (w : World) : (Builtin.max_ #[26, 26] 26 #[.int .i64 0, .int .i64 0]).run Tryz.prog w = .ok (.int .i64 0) w := by kernel_rfl
theorem beqs (N : ByteArray) : (N.toList == N.toList) = true ∧ (N.toList != N.toList) = false := by simp
set_option maxRecDepth 100000 in
set_option maxHeartbeats 16000000 in
theorem lawFloors_any (q u : ByteArray) (n0 : Nat) (w : World) (hB : n0 ≤ w.heap.size) (hT : PR n0 w) :
    Calls Tryz.prog 8 #[.string q, .string u] w (Ret w (.bool true)) := by
  have HT := hide hT
  have HAW := hide (fun w hB hT => l3awake_any n0 w hB hT)
  have X0 := hide (heap1 w (.cells #[.string q, .string u] 22))
  have HF := hide (lsizes_any w.heap.size [q, u] (by simp) n0 _ (strs2 X0.out.1) (Nat.le_trans hB X0.out.2.2.size) (hT.on X0.out.2.2 hB).pq)
  clear hT
  by_cases h : ∀ s ∈ [q, u], okS s
  rotate_left
  · rw [decide_eq_false h] at HF
    clear h
    go_enter Tryz.func8, Tryz.ntmps8
    go_wp2_with fail
    refine HF.out.mono ?_
    rintro e w1 ⟨rfl, hb1⟩
    have HB1 := hide (X0.out.2.2.trans (hb1.mono X0.out.2.2.size))
    clear hb1 X0
    go_wp2_with fail
    refine (HAW.out _ (Nat.le_trans hB HB1.out.size) (HT.out.on HB1.out hB)).mono ?_
    rintro e w99 ⟨rfl, hb99⟩
    have HB99 := hide (HB1.out.trans (hb99.mono HB1.out.size))
    clear hb99
    go_wp2_with fail
    go_ret
    exact ⟨rfl, HB99.out⟩
  rw [decide_eq_true h] at HF
  obtain ⟨Q, sQ, rfl⟩ := okS_T (h q (by simp))
  obtain ⟨U, sU, rfl⟩ := okS_T (h u (by simp))
  clear h
  have fQ := sz_fits sQ (by rw [most_eq]; omega)
  have rQ := roomy_of sQ (by omega)
  have fU := sz_fits sU (by rw [most_eq]; omega)
  have rU := roomy_of sU (by omega)
  have HS0 := hide (fun w hB hT => lsign_T fQ n0 w hB hT)
  have HS1 := hide (fun w hB hT => lsign_T fU n0 w hB hT)
  by_cases g0 : sgnR Q < 0
  · clear sQ rQ fQ sU rU fU
    generalize sgnR Q = z0 at *
    go_enter Tryz.func8, Tryz.ntmps8
    go_wp2_with fail
    refine HF.out.mono ?_
    rintro e w1 ⟨rfl, hb1⟩
    have HB1 := hide (X0.out.2.2.trans (hb1.mono X0.out.2.2.size))
    clear hb1 X0
    go_wp2_with fail
    refine (HS0.out _ (Nat.le_trans hB HB1.out.size) (HT.out.on HB1.out hB).pq).mono ?_
    rintro e w2 ⟨rfl, hb2⟩
    have HB2 := hide (HB1.out.trans (hb2.mono HB1.out.size))
    clear hb2
    go_wp2_with fail
    refine (HAW.out _ (Nat.le_trans hB HB2.out.size) (HT.out.on HB2.out hB)).mono ?_
    rintro e w99 ⟨rfl, hb99⟩
    have HB99 := hide (HB2.out.trans (hb99.mono HB2.out.size))
    clear hb99
    go_wp2_with fail
    go_ret
    exact ⟨rfl, HB99.out⟩
  have nQ := sgn_nonneg g0
  replace g0 := eq_false g0
  by_cases g1 : sgnR U ≤ 0
  · clear sQ rQ fQ sU rU fU
    generalize sgnR Q = z0 at *
    generalize sgnR U = z1 at *
    go_enter Tryz.func8, Tryz.ntmps8
    go_wp2_with fail
    refine HF.out.mono ?_
    rintro e w1 ⟨rfl, hb1⟩
    have HB1 := hide (X0.out.2.2.trans (hb1.mono X0.out.2.2.size))
    clear hb1 X0
    go_wp2_with fail
    refine (HS0.out _ (Nat.le_trans hB HB1.out.size) (HT.out.on HB1.out hB).pq).mono ?_
    rintro e w2 ⟨rfl, hb2⟩
    have HB2 := hide (HB1.out.trans (hb2.mono HB1.out.size))
    clear hb2
    go_wp2_with fail
    refine (HS1.out _ (Nat.le_trans hB HB2.out.size) (HT.out.on HB2.out hB).pq).mono ?_
    rintro e w3 ⟨rfl, hb3⟩
    have HB3 := hide (HB2.out.trans (hb3.mono HB2.out.size))
    clear hb3
    go_wp2_with fail
    refine (HAW.out _ (Nat.le_trans hB HB3.out.size) (HT.out.on HB3.out hB)).mono ?_
    rintro e w99 ⟨rfl, hb99⟩
    have HB99 := hide (HB3.out.trans (hb99.mono HB3.out.size))
    clear hb99
    go_wp2_with fail
    go_ret
    exact ⟨rfl, HB99.out⟩
  have nU := sgn_pos g1
  replace g1 := eq_false g1
  have law := floor_law nQ nU
  have sX := floorR_sz sQ sU
  have fX := sz_fits sX (by rw [most_eq]; omega)
  have sN := sz_natc (unitsN_lt (f := 1) (k := 31) sQ sU (by omega) (by omega)) (by omega)
  have up := pos_num nU
  have un : U ≠ 0 := Rat.ne_of_gt up
  have C1 := hide (fun w hB hT => rFloor_T rQ rU nQ nU n0 w hB hT)
  have C2 := hide (fun w hB hT => qdiv_to (T_list (floorR Q U)) (T_list U) fX fU un (cmpC_of sX sU (by rw [most_eq]; omega)) n0 w hB hT)
  rw [law.1, show strB (ratS ((unitsN Q U 1 : Nat) : Rat)) = T ((unitsN Q U 1 : Nat) : Rat) from rfl] at C2
  have C3 := hide (fun w hB hT => qfloor_to (T_list ((unitsN Q U 1 : Nat) : Rat)) (sz_fits sN (by rw [most_eq]; omega)) n0 w hB hT)
  rw [floor_natc, show strB (ratS ((unitsN Q U 1 : Nat) : Rat)) = T ((unitsN Q U 1 : Nat) : Rat) from rfl] at C3
  have C4 := hide (fun w hB hT => qadd_to (T_list (floorR Q U)) (T_list U) fX fU (addC_of sX sU (by rw [most_eq]; omega)) n0 w hB hT)
  rw [show strB (ratS (floorR Q U + U)) = T (floorR Q U + U) from rfl] at C4
  have sY := sz_add sX sU
  have fY := sz_fits sY (by rw [most_eq]; omega)
  have C5 := hide (fun w hB hT => lsign_T fX n0 w hB hT)
  have C6 := hide (fun w r hr hB hT => ltimes2 sX sX (by omega) n0 w r hr hB hT)
  have sXX := (okT2 sX sX (by omega)).2.2
  have sYY := (okT2 sY sY (by omega)).2.2
  have C7 := hide (fun w hB hT => qcmp_T (sz_fits sXX (by rw [most_eq]; omega)) fQ (cmpC_of sXX sQ (by rw [most_eq]; omega)) n0 w hB hT)
  have C8 := hide (fun w r hr hB hT => ltimes2 sY sY (by omega) n0 w r hr hB hT)
  have C9 := hide (fun w hB hT => qcmp_T (sz_fits sYY (by rw [most_eq]; omega)) fQ (cmpC_of sYY sQ (by rw [most_eq]; omega)) n0 w hB hT)
  have a1 : (sgnR (floorR Q U) < 0) = False := eq_false (by have := sgn_ge law.2.1; omega)
  have a2 : cmpR (floorR Q U * floorR Q U) Q ≤ 0 := cmp_le law.2.2.1
  have a3 : 0 < cmpR ((floorR Q U + U) * (floorR Q U + U)) Q := by rw [cmpT_gt law.2.2.2]; decide
  have hmx := mxe4
  generalize sgnR (floorR Q U) = z5 at *
  generalize cmpR (floorR Q U * floorR Q U) Q = z6 at *
  generalize cmpR ((floorR Q U + U) * (floorR Q U + U)) Q = z7 at *
  generalize T (floorR Q U * floorR Q U) = XX at *
  generalize T ((floorR Q U + U) * (floorR Q U + U)) = YY at *
  generalize T (floorR Q U + U) = Y at *
  generalize T (floorR Q U) = X at *
  generalize T ((unitsN Q U 1 : Nat) : Rat) = N at *
  clear law sX fX sN up un sY fY sXX sYY rQ rU sQ sU fQ fU nQ nU
  generalize sgnR Q = z0 at *
  generalize sgnR U = z1 at *
  generalize T Q = TQ at *
  generalize T U = TU at *
  obtain ⟨e1, e2⟩ := beqs N
  go_enter Tryz.func8, Tryz.ntmps8
  go_wp2_with fail
  refine HF.out.mono ?_
  rintro e w1 ⟨rfl, hb1⟩
  have HB1 := hide (X0.out.2.2.trans (hb1.mono X0.out.2.2.size))
  clear hb1 X0
  go_wp2_with fail
  refine (HS0.out _ (Nat.le_trans hB HB1.out.size) (HT.out.on HB1.out hB).pq).mono ?_
  rintro e w2 ⟨rfl, hb2⟩
  have HB2 := hide (HB1.out.trans (hb2.mono HB1.out.size))
  clear hb2
  go_wp2_with fail
  refine (HS1.out _ (Nat.le_trans hB HB2.out.size) (HT.out.on HB2.out hB).pq).mono ?_
  rintro e w3 ⟨rfl, hb3⟩
  have HB3 := hide (HB2.out.trans (hb3.mono HB2.out.size))
  clear hb3
  go_wp2_with fail
  refine (C1.out _ (Nat.le_trans hB HB3.out.size) (HT.out.on HB3.out hB).pq).mono ?_
  rintro e w4 ⟨rfl, hb4⟩
  have HB4 := hide (HB3.out.trans (hb4.mono HB3.out.size))
  clear hb4
  go_wp2_with fail
  refine (C2.out _ (Nat.le_trans hB HB4.out.size) (HT.out.on HB4.out hB).pq).mono ?_
  rintro e w5 ⟨rfl, hb5⟩
  have HB5 := hide (HB4.out.trans (hb5.mono HB4.out.size))
  clear hb5
  go_wp2_with fail
  refine (C3.out _ (Nat.le_trans hB HB5.out.size) (HT.out.on HB5.out hB).pq).mono ?_
  rintro e w6 ⟨rfl, hb6⟩
  have HB6 := hide (HB5.out.trans (hb6.mono HB5.out.size))
  clear hb6
  go_wp2_with fail
  refine (C4.out _ (Nat.le_trans hB HB6.out.size) (HT.out.on HB6.out hB).pq).mono ?_
  rintro e w7 ⟨rfl, hb7⟩
  have HB7 := hide (HB6.out.trans (hb7.mono HB6.out.size))
  clear hb7
  go_wp2_with fail
  refine (C5.out _ (Nat.le_trans hB HB7.out.size) (HT.out.on HB7.out hB).pq).mono ?_
  rintro e w8 ⟨rfl, hb8⟩
  have HB8 := hide (HB7.out.trans (hb8.mono HB7.out.size))
  clear hb8
  go_wp2_with fail
  have X := hide (heap1 w8 (.cells #[.string X, .string X] 22))
  have HX := hide (HB8.out.trans (X.out.2.2.mono HB8.out.size))
  refine (C6.out _ w8.heap.size X.out.1 (Nat.le_trans hB HX.out.size) (HT.out.on HX.out hB).pq).mono ?_
  rintro e w9 ⟨rfl, hb9⟩
  have HB9 := hide (HX.out.trans (hb9.mono HX.out.size))
  clear hb9 X HX
  go_wp2_with fail
  refine (C7.out _ (Nat.le_trans hB HB9.out.size) (HT.out.on HB9.out hB).pq).mono ?_
  rintro e w10 ⟨rfl, hb10⟩
  have HB10 := hide (HB9.out.trans (hb10.mono HB9.out.size))
  clear hb10
  go_wp2_with fail
  have X := hide (heap1 w10 (.cells #[.string Y, .string Y] 22))
  have HX := hide (HB10.out.trans (X.out.2.2.mono HB10.out.size))
  refine (C8.out _ w10.heap.size X.out.1 (Nat.le_trans hB HX.out.size) (HT.out.on HX.out hB).pq).mono ?_
  rintro e w11 ⟨rfl, hb11⟩
  have HB11 := hide (HX.out.trans (hb11.mono HX.out.size))
  clear hb11 X HX
  go_wp2_with fail
  refine (C9.out _ (Nat.le_trans hB HB11.out.size) (HT.out.on HB11.out hB).pq).mono ?_
  rintro e w12 ⟨rfl, hb12⟩
  have HB12 := hide (HB11.out.trans (hb12.mono HB11.out.size))
  clear hb12
  go_wp2_with fail
  refine (HAW.out _ (Nat.le_trans hB HB12.out.size) (HT.out.on HB12.out hB)).mono ?_
  rintro e w99 ⟨rfl, hb99⟩
  have HB99 := hide (HB12.out.trans (hb99.mono HB12.out.size))
  clear hb99
  go_wp2_with fail
  go_ret
  exact ⟨rfl, HB99.out⟩
end Go.Proofs.YtgddookioipjiaaGreatDoor
