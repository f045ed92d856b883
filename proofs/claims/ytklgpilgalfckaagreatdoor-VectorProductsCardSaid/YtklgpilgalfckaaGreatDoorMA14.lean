/-
 Texts laid together.
-/
import Derived.Test.YtklgpilgalfckaaGreatDoorMA13
import Derived.Test.YtklgpilgalfckaaGreatDoorMA3
import Derived.Test.YtklgpilgalfckaaGreatDoorMA5
import Derived.Test.YtklgpilgalfckaaGreatDoorMA7
import Derived.Laws.StructEq
set_option maxRecDepth 100000
set_option maxHeartbeats 16000000
namespace Go.Proofs.YtklgpilgalfckaaGreatDoor
open Go.RowKit Go.KP Go.KI Go.Shelf
attribute [local go_sem] Oper.semAt_some

abbrev termV (c n : ByteArray) : Value := .agg #[.string c, .string n]
abbrev termO (c n : ByteArray) : Obj := .cells #[.string c, .string n] 95
def dlen (q : Rat) : Nat := max (Lib.decDigits q.num.natAbs).length (Lib.decDigits q.den).length
theorem yii {q : Rat} {p : Nat} (h : sz p q) (hp : 1 ≤ p) : dlen q ≤ p := by
 have h1 := (yn hp).2 h.1
 have h2 := (yn hp).2 h.2
 unfold dlen
 omega
theorem yaE (s : ByteArray) (w : World) :
 Calls Tryz.prog 202 #[.string s] w (fun e w' => e = .returned (.int .i64 (strB (digs s.data.toList)).size) ∧ w' = w) := by
 have H := hide (zm s w)
 obtain ⟨D, hD⟩ := xe (strB (digs s.data.toList))
 rw [← hD] at H ⊢
 clear hD
 go_enter Tryz.func202, Tryz.ntmps202
 go_wp2_with fail
 refine H.out.mono ?_
 rintro e w1 ⟨rfl, rfl⟩
 go_wp2_with fail
 go_ret
 exact ⟨rfl, rfl⟩
theorem jZ {q : Rat} (fq : fitsQ q) (B : Nat) (w : World) (hB : B ≤ w.heap.size) (hT : PQ B w) :
 Calls Tryz.prog 150 #[.string (T q)] w (Ret w (.int .i64 (dlen q))) := by
 have H1 : Hid (Calls Tryz.prog 119 #[.string (T q)] w (Ret w (.tuple #[.string (numB q), .string (denB q), .int .i64 0]))) := hide (by
  have h := yaP (T q) (yW fq).1 B w hB hT
  obtain ⟨_, g2, g3⟩ := yW fq
  unfold partsR at h
  rw [if_pos g2, g3] at h
  exact h)
 have HN := hide (fun w => yaE (numB q) w)
 have HD := hide (fun w => yaE (denB q) w)
 have e1 : (strB (digs (numB q).data.toList)).size = (Lib.decDigits q.num.natAbs).length := by unfold numB; rw [yh, yQ, yu]
 have e2 : (strB (digs (denB q).data.toList)).size = (Lib.decDigits q.den).length := by unfold denB; rw [yh, yQ, yu, Int.natAbs_natCast]
 rw [e1] at HN
 rw [e2] at HD
 have e3 : ((dlen q : Nat) : Int) = max ((Lib.decDigits q.num.natAbs).length : Int) ((Lib.decDigits q.den).length : Int) := by unfold dlen; omega
 rw [e3]
 obtain ⟨X, hX⟩ := xe (T q)
 obtain ⟨N, hN⟩ := xe (numB q)
 obtain ⟨D, hD⟩ := xe (denB q)
 obtain ⟨x, hx⟩ := xe ((Lib.decDigits q.num.natAbs).length)
 obtain ⟨y, hy⟩ := xe ((Lib.decDigits q.den).length)
 rw [← hX] at H1 ⊢
 rw [← hN] at H1 HN
 rw [← hD] at H1 HD
 rw [← hx] at HN ⊢
 rw [← hy] at HD ⊢
 clear hX hN hD hT fq e1 e2 e3 hx hy
 go_enter Tryz.func150, Tryz.ntmps150
 go_wp2_with fail
 refine H1.out.mono ?_
 rintro e w1 ⟨rfl, hb1⟩
 have HB1 := hide hb1
 clear hb1 H1
 go_wp2_with fail
 refine (HN.out _).mono ?_
 rintro e w2 ⟨rfl, rfl⟩
 go_wp2_with fail
 refine (HD.out _).mono ?_
 rintro e w3 ⟨rfl, rfl⟩
 go_wp2_with fail
 go_ret
 exact ⟨rfl, HB1.out⟩
theorem yey (m : Nat) : T ((m : Nat) : Rat) = strB (Lib.decDigits m) := by
 unfold T
 rw [show ((m : Nat) : Rat) = (((m : Nat) : Int) : Rat) from rfl, jW, Lib.itoa_nonneg]
theorem jT (m : Nat) : ((m : Nat) : Rat).num = m ∧ ((m : Nat) : Rat).den = 1 := ⟨rfl, rfl⟩
structure RootOk (m : Nat) : Prop where
 pos : 0 < m
 few : (Lib.decDigits m).length ≤ 16
 norm : normN m = (1, m)
theorem RootOk.sz {m : Nat} (h : RootOk m) : sz 16 ((m : Nat) : Rat) := ⟨by
 rw [(jT m).1, Int.natAbs_natCast]
 exact (yn (by omega)).1 h.few, by rw [(jT m).2]; decide⟩
theorem yfO {c : Rat} {m : Nat} (fc : fitsQ c) (hc : c ≠ 0) (lc : dlen c ≤ 60) (hm : RootOk m) (B : Nat) (w : World) (hB : B ≤ w.heap.size) (hT : PR B w) :
 Calls Tryz.prog 98 #[termV (T c) (T (m : Rat))] w (Ret w (.int .i64 0)) := by
 have HT := hide hT
 have fm : fitsQ ((m : Nat) : Rat) := jI hm.sz (by rw [yC]; omega)
 have hck : ∀ {q : Rat}, fitsQ q → ∀ w, B ≤ w.heap.size → PQ B w → Calls Tryz.prog 89 #[.string (T q)] w (Ret w (.int .i64 0)) := fun {q} hq w hB hT => by
  have h := zW (T q) (yW hq).1 B w hB hT
  rw [(yW hq).2.1] at h
  exact h
 have HC1 := hide (hck fc)
 have HC2 := hide (hck fm)
 have HL1 := hide (fun w hB hT => jZ fc B w hB hT)
 have HL2 := hide (fun w hB hT => jZ fm B w hB hT)
 have l2 : dlen ((m : Nat) : Rat) ≤ 40 := Nat.le_trans (yii hm.sz (by omega)) (by omega)
 have hz : ((T c).toList == [48]) = false := (zz (yI c)).2 (fun e => hc (yeR (yp (by rw [yI, e, T0]))))
 obtain ⟨hN, hD⟩ := jT m
 have hm0 := hm.pos
 have hX0 : ((T ((m : Nat) : Rat)).toList == [48]) = false := (zz (yI _)).2 (fun e => by
  have h : ((m : Nat) : Rat) = 0 := yeR (yp (by rw [yI, e, T0]))
  have h2 := congrArg Rat.num h
  rw [hN] at h2
  have h3 : (m : Int) = 0 := h2
  omega)
 have HP := hide (fun w => Tryz.strings_HasPrefix (T ((m : Nat) : Rat)) ⟨#[45]⟩ w)
 have eP : Lib.hasPrefix (T ((m : Nat) : Rat)).data.toList (⟨#[45]⟩ : ByteArray).data.toList = false := by
  refine (prefix45 _).trans ?_
  rw [yI]
  simp only [beq_eq_false_iff_ne, ne_eq]
  intro e
  have := qI.1 e
  rw [hN] at this
  omega
 rw [eP] at HP
 have HK := hide (fun w => Tryz.strings_Contains_one (T ((m : Nat) : Rat)) 47 w)
 have eK : decide (0 ≤ Lib.indexByte (T ((m : Nat) : Rat)).data.toList 47) = false := by
  rw [← Lib.contains_iff_indexByte, yey, yh]
  cases hc : (Lib.decDigits m).contains 47 with
  |false => rfl
  |true =>
   have h := yE m 47 (by simpa using hc)
   exact absurd h (by decide)
 rw [eK] at HK
 have eX : strB (Lib.itoa (normL ((m : Nat) : Rat))) = T ((m : Nat) : Rat) := by
  rw [yey, Lib.itoa_nonneg]
  unfold normL
  rw [hN, hD, Int.toNat_natCast, Nat.mul_one, hm.norm]
 have eC : T (normC ((m : Nat) : Rat)) = ⟨#[49]⟩ := by
  have e : normC ((m : Nat) : Rat) = ((1 : Nat) : Rat) := by
   unfold normC
   rw [hN, hD, Int.toNat_natCast, Nat.mul_one, hm.norm]
   show Rat.divInt 1 1 = 1
   decide +kernel
  rw [e, yey, qC]
  rfl
 have sN : (numB ((m : Nat) : Rat)).size + (denB ((m : Nat) : Rat)).size ≤ 17 := by
  have h1 : (numB ((m : Nat) : Rat)).size = (Lib.decDigits m).length := by unfold numB; rw [yu, hN, Lib.itoa_nonneg]
  have h2 : (denB ((m : Nat) : Rat)).size = 1 := by
   unfold denB
   rw [yu, hD, Lib.itoa_nonneg]
   decide +kernel
  have := hm.few
  omega
 have HNO := hide (fun w hB hT => ju (vi hm.sz (by omega)) (by rw [hN]; omega) sN B w hB hT)
 rw [eX, eC] at HNO
 have l1i : ((60 : Int) < (dlen c : Int)) = False := eq_false (by omega)
 have l2i : ((40 : Int) < (dlen ((m : Nat) : Rat) : Int)) = False := eq_false (by omega)
 have h1 : ((T ((m : Nat) : Rat)).toList == [49]) = true ∨ ((T ((m : Nat) : Rat)).toList == [49]) = false := by
  cases (T ((m : Nat) : Rat)).toList == [49] <;> simp
 obtain ⟨X, hX⟩ := xe (T ((m : Nat) : Rat))
 obtain ⟨Y, hY⟩ := xe (T c)
 obtain ⟨x1, hx1⟩ := xe (dlen c)
 obtain ⟨x2, hx2⟩ := xe (dlen ((m : Nat) : Rat))
 rw [← hX] at HC2 HL2 HP HK HNO hX0 h1 ⊢
 rw [← hY] at HC1 HL1 hz ⊢
 rw [← hx1] at HL1 l1i
 rw [← hx2] at HL2 l2i
 have X0 := hide (heap1 w (termO Y X))
 clear hck hN hD eP eK eX eC sN hX hY hx1 hx2 l2 lc fc hc fm hm hm0 hT
 rcases h1 with h1 | h1
 all_goals
  go_enter Tryz.func98, Tryz.ntmps98
  go_wp2_with fail
  refine (HC1.out _ (Nat.le_trans hB X0.out.2.2.size) (HT.out.on X0.out.2.2 hB).pq).mono ?_
  rintro e w1 ⟨rfl, hb1⟩
  have G1 := hide (yc hb1 X0.out.1 (yd X0.out.1))
  have HB1 := hide (X0.out.2.2.trans (hb1.mono X0.out.2.2.size))
  have k0 := ya G1.out 0
  have k1 := ya G1.out 1
  have kl := yd G1.out
  clear hb1
  go_wp2_with fail
  refine (HC2.out _ (Nat.le_trans hB HB1.out.size) (HT.out.on HB1.out hB).pq).mono ?_
  rintro e w2 ⟨rfl, hb2⟩
  have G2 := bh hb2 G1
  have HB2 := bt HB1 hb2
  clear hb2 k0 k1 kl
  have k0 := ya G2.out 0
  have k1 := ya G2.out 1
  have kl := yd G2.out
  go_wp2_with fail
  refine (HL1.out _ (Nat.le_trans hB HB2.out.size) (HT.out.on HB2.out hB).pq).mono ?_
  rintro e w3 ⟨rfl, hb3⟩
  have G3 := bh hb3 G2
  have HB3 := bt HB2 hb3
  clear hb3 k0 k1 kl
  have k0 := ya G3.out 0
  have k1 := ya G3.out 1
  have kl := yd G3.out
  go_wp2_with fail
  refine (HL2.out _ (Nat.le_trans hB HB3.out.size) (HT.out.on HB3.out hB).pq).mono ?_
  rintro e w4 ⟨rfl, hb4⟩
  have G4 := bh hb4 G3
  have HB4 := bt HB3 hb4
  clear hb4 k0 k1 kl
  have k0 := ya G4.out 0
  have k1 := ya G4.out 1
  have kl := yd G4.out
  go_wp2_with fail
 ·go_ret
  exact ⟨rfl, HB4.out⟩
 ·refine (HP.out _).mono ?_
  rintro e w5 ⟨rfl, rfl⟩
  go_wp2_with fail
  refine (HK.out _).mono ?_
  rintro e w5 ⟨rfl, rfl⟩
  go_wp2_with fail
  refine (HNO.out _ (Nat.le_trans hB HB4.out.size) (HT.out.on HB4.out hB)).mono ?_
  rintro e w6 ⟨rfl, hb6⟩
  have G6 := bh hb6 G4
  have HB6 := bt HB4 hb6
  clear hb6 k0 k1 kl
  have k0 := ya G6.out 0
  have k1 := ya G6.out 1
  have kl := yd G6.out
  go_wp2_with fail
  go_ret
  exact ⟨rfl, HB6.out⟩
attribute [local go_sem] Oper.semAt_some vidx0 vidx1 vidx2

theorem heap5 (w : World) (o1 o2 o3 o4 o5 : Obj) : (((((w.alloc o1).alloc o2).alloc o3).alloc o4).alloc o5).heap[w.heap.size + 2]? = some o3 ∧ (((((w.alloc o1).alloc o2).alloc o3).alloc o4).alloc o5).heap.size = w.heap.size + 5 ∧ Below w.heap.size w (((((w.alloc o1).alloc o2).alloc o3).alloc o4).alloc o5) := by
 obtain ⟨_, _, a3, a4, a5⟩ := heap3 w o1 o2 o3
 obtain ⟨_, _, b4, b5⟩ := heap2 (((w.alloc o1).alloc o2).alloc o3) o4 o5
 rw [a4] at b4 b5
 exact ⟨yc b5 a3 (by omega), by omega, a5.trans (b5.mono (by omega))⟩
def cmpsV (a b : V3) : Prop := cmpC a.x b.x ∧ cmpC a.y b.y ∧ cmpC a.z b.z
theorem yhn {p q : Nat} {a b : V3} (ha : szV p a) (hb : szV q b) (h : p + q ≤ most) : cmpsV a b := ⟨km ha.1 hb.1 h, km ha.2.1 hb.2.1 h, km ha.2.2 hb.2.2 h⟩
theorem yeM {a b : V3} (fa : fitsV a) (fb : fitsV b) (hc : cmpsV a b) (B : Nat) (w : World) (hB : B ≤ w.heap.size) (hT : PQ B w) :
 Calls Tryz.prog 43 #[vecV a, vecV b] w (Ret w (.tuple #[.int .i64 (vcmp a b), .int .i64 0])) := by
 have HT := hide hT
 have HC := hide (fun w hB hT => yc7 fa fb B w hB hT)
 have H1 := hide (fun w hB hT => ygh fa.1 fb.1 hc.1 B w hB hT)
 have H2 := hide (fun w hB hT => ygh fa.2.1 fb.2.1 hc.2.1 B w hB hT)
 have H3 := hide (fun w hB hT => ygh fa.2.2 fb.2.2 hc.2.2 B w hB hT)
 have X0 := hide (heap2 w (vecO a) (vecO b))
 have HL1 := hide (fun w => jm (T a.x) (T a.y) (T a.z) w)
 have HL2 := hide (fun w => jm (T b.x) (T b.y) (T b.z) w)
 obtain ⟨V, hV⟩ := xe (vcmp a b)
 rw [← hV]
 unfold vcmp at hV
 obtain ⟨x, hx⟩ := xe (cmpR a.x b.x)
 obtain ⟨y, hy⟩ := xe (cmpR a.y b.y)
 obtain ⟨z, hz⟩ := xe (cmpR a.z b.z)
 rw [← hx] at H1 hV
 rw [← hy] at H2 hV
 rw [← hz] at H3 hV
 clear hx hy hz hT fa fb hc
 by_cases hx : x = 0
 rotate_left
 ·rw [if_pos hx] at hV
  have hx2 : (x != 0) = true := by simpa using hx
  clear hx
  subst hV
  go_enter Tryz.func43, Tryz.ntmps43
  go_wp2_with fail
  refine (HC.out _ (Nat.le_trans hB X0.out.2.2.2.size) (HT.out.on X0.out.2.2.2 hB)).mono ?_
  rintro e w1 ⟨rfl, hb1⟩
  have HB1 := hide (X0.out.2.2.2.trans (hb1.mono X0.out.2.2.2.size))
  have G1 := hide (yc hb1 X0.out.1 (yd X0.out.1))
  have G2 := hide (yc hb1 X0.out.2.1 (yd X0.out.2.1))
  have l1 := yd G1.out
  have l2 := yd G2.out
  have k0 := ya G1.out 0
  have k1 := ya G1.out 1
  have k2 := ya G1.out 2
  have m0 := ya G2.out 0
  have m1 := ya G2.out 1
  have m2 := ya G2.out 2
  clear hb1
  go_wp2_with fail
  refine (HL2.out _).mono ?_
  rintro e w0 ⟨rfl, rfl⟩
  have X3 := hide (heap3 w1 (sptO (T b.x) (T b.y) (T b.z)) (arrO (T b.x) (T b.y) (T b.z)) (arrO (T b.x) (T b.y) (T b.z))).2.2.2.2
  have G3 := hide (yc X3.out G1.out (yd G1.out))
  clear k0 k1 k2 m0 m1 m2 l1 l2
  have l1 := yd G3.out
  have k0 := ya G3.out 0
  have k1 := ya G3.out 1
  have k2 := ya G3.out 2
  go_wp2_with fail
  refine (HL1.out _).mono ?_
  rintro e w0 ⟨rfl, rfl⟩
  have Y0 := hide (heap5 w1 (sptO (T b.x) (T b.y) (T b.z)) (arrO (T b.x) (T b.y) (T b.z)) (arrO (T b.x) (T b.y) (T b.z)) (sptO (T a.x) (T a.y) (T a.z)) (arrO (T a.x) (T a.y) (T a.z)))
  have Y1 := hide Y0.out.1
  have YB := hide (HB1.out.trans (Y0.out.2.2.mono HB1.out.size))
  clear k0 k1 k2 l1
  go_wp2_with fail
  refine wp_loop_rounds 1 ?_
  rw [rounds_succ]
  go_wp2_with fail
  refine (H1.out _ (Nat.le_trans hB YB.out.size) (HT.out.on YB.out hB)).mono ?_
  rintro e w2 ⟨rfl, hb2⟩
  have HB2 := hide (YB.out.trans (hb2.mono YB.out.size))
  clear hb2
  go_wp2_with fail
  refine bodyPost_ret (results_tmp2 rfl _ _ _) rfl ?_
  exact ⟨rfl, HB2.out⟩
 subst hx
 rw [if_neg (by simp)] at hV
 by_cases hy : y = 0
 rotate_left
 ·rw [if_pos hy] at hV
  have hy2 : (y != 0) = true := by simpa using hy
  clear hy
  subst hV
  go_enter Tryz.func43, Tryz.ntmps43
  go_wp2_with fail
  refine (HC.out _ (Nat.le_trans hB X0.out.2.2.2.size) (HT.out.on X0.out.2.2.2 hB)).mono ?_
  rintro e w1 ⟨rfl, hb1⟩
  have HB1 := hide (X0.out.2.2.2.trans (hb1.mono X0.out.2.2.2.size))
  have G1 := hide (yc hb1 X0.out.1 (yd X0.out.1))
  have G2 := hide (yc hb1 X0.out.2.1 (yd X0.out.2.1))
  have l1 := yd G1.out
  have l2 := yd G2.out
  have k0 := ya G1.out 0
  have k1 := ya G1.out 1
  have k2 := ya G1.out 2
  have m0 := ya G2.out 0
  have m1 := ya G2.out 1
  have m2 := ya G2.out 2
  clear hb1
  go_wp2_with fail
  refine (HL2.out _).mono ?_
  rintro e w0 ⟨rfl, rfl⟩
  have X3 := hide (heap3 w1 (sptO (T b.x) (T b.y) (T b.z)) (arrO (T b.x) (T b.y) (T b.z)) (arrO (T b.x) (T b.y) (T b.z))).2.2.2.2
  have G3 := hide (yc X3.out G1.out (yd G1.out))
  clear k0 k1 k2 m0 m1 m2 l1 l2
  have l1 := yd G3.out
  have k0 := ya G3.out 0
  have k1 := ya G3.out 1
  have k2 := ya G3.out 2
  go_wp2_with fail
  refine (HL1.out _).mono ?_
  rintro e w0 ⟨rfl, rfl⟩
  have Y0 := hide (heap5 w1 (sptO (T b.x) (T b.y) (T b.z)) (arrO (T b.x) (T b.y) (T b.z)) (arrO (T b.x) (T b.y) (T b.z)) (sptO (T a.x) (T a.y) (T a.z)) (arrO (T a.x) (T a.y) (T a.z)))
  have Y1 := hide Y0.out.1
  have YB := hide (HB1.out.trans (Y0.out.2.2.mono HB1.out.size))
  clear k0 k1 k2 l1
  go_wp2_with fail
  refine wp_loop_rounds 2 ?_
  rw [rounds_succ]
  go_wp2_with fail
  refine (H1.out _ (Nat.le_trans hB YB.out.size) (HT.out.on YB.out hB)).mono ?_
  rintro e w2 ⟨rfl, hb2⟩
  have Z2 := bh hb2 Y1
  have HB2 := hide (YB.out.trans (hb2.mono YB.out.size))
  clear hb2
  go_wp2_with fail
  have k1 := ya Z2.out 1
  rw [rounds_succ]
  go_wp2_with fail
  refine (H2.out _ (Nat.le_trans hB HB2.out.size) (HT.out.on HB2.out hB)).mono ?_
  rintro e w3 ⟨rfl, hb3⟩
  have HB3 := bt HB2 hb3
  clear hb3
  go_wp2_with fail
  refine bodyPost_ret (results_tmp2 rfl _ _ _) rfl ?_
  exact ⟨rfl, HB3.out⟩
 subst hy
 rw [if_neg (by simp)] at hV
 subst hV
 have hz : V = 0 ∨ (V != 0) = true := by
  by_cases h : V = 0
  ·exact .inl h
  ·exact .inr (by simpa using h)
 rcases hz with rfl | hz
 all_goals
  go_enter Tryz.func43, Tryz.ntmps43
  go_wp2_with fail
  refine (HC.out _ (Nat.le_trans hB X0.out.2.2.2.size) (HT.out.on X0.out.2.2.2 hB)).mono ?_
  rintro e w1 ⟨rfl, hb1⟩
  have HB1 := hide (X0.out.2.2.2.trans (hb1.mono X0.out.2.2.2.size))
  have G1 := hide (yc hb1 X0.out.1 (yd X0.out.1))
  have G2 := hide (yc hb1 X0.out.2.1 (yd X0.out.2.1))
  have l1 := yd G1.out
  have l2 := yd G2.out
  have k0 := ya G1.out 0
  have k1 := ya G1.out 1
  have k2 := ya G1.out 2
  have m0 := ya G2.out 0
  have m1 := ya G2.out 1
  have m2 := ya G2.out 2
  clear hb1
  go_wp2_with fail
  refine (HL2.out _).mono ?_
  rintro e w0 ⟨rfl, rfl⟩
  have X3 := hide (heap3 w1 (sptO (T b.x) (T b.y) (T b.z)) (arrO (T b.x) (T b.y) (T b.z)) (arrO (T b.x) (T b.y) (T b.z))).2.2.2.2
  have G3 := hide (yc X3.out G1.out (yd G1.out))
  clear k0 k1 k2 m0 m1 m2 l1 l2
  have l1 := yd G3.out
  have k0 := ya G3.out 0
  have k1 := ya G3.out 1
  have k2 := ya G3.out 2
  go_wp2_with fail
  refine (HL1.out _).mono ?_
  rintro e w0 ⟨rfl, rfl⟩
  have Y0 := hide (heap5 w1 (sptO (T b.x) (T b.y) (T b.z)) (arrO (T b.x) (T b.y) (T b.z)) (arrO (T b.x) (T b.y) (T b.z)) (sptO (T a.x) (T a.y) (T a.z)) (arrO (T a.x) (T a.y) (T a.z)))
  have Y1 := hide Y0.out.1
  have YB := hide (HB1.out.trans (Y0.out.2.2.mono HB1.out.size))
  clear k0 k1 k2 l1
  go_wp2_with fail
  refine wp_loop_rounds 4 ?_
  rw [rounds_succ]
  go_wp2_with fail
  refine (H1.out _ (Nat.le_trans hB YB.out.size) (HT.out.on YB.out hB)).mono ?_
  rintro e w2 ⟨rfl, hb2⟩
  have Z2 := bh hb2 Y1
  have HB2 := hide (YB.out.trans (hb2.mono YB.out.size))
  clear hb2
  go_wp2_with fail
  have k1 := ya Z2.out 1
  rw [rounds_succ]
  go_wp2_with fail
  refine (H2.out _ (Nat.le_trans hB HB2.out.size) (HT.out.on HB2.out hB)).mono ?_
  rintro e w3 ⟨rfl, hb3⟩
  have Z3 := bh hb3 Z2
  have HB3 := bt HB2 hb3
  clear hb3 k1
  go_wp2_with fail
  have k1 := ya Z3.out 2
  rw [rounds_succ]
  go_wp2_with fail
  refine (H3.out _ (Nat.le_trans hB HB3.out.size) (HT.out.on HB3.out hB)).mono ?_
  rintro e w4 ⟨rfl, hb4⟩
  have HB4 := bt HB3 hb4
  clear hb4
  go_wp2_with fail
  first
   |(refine bodyPost_ret (results_tmp2 rfl _ _ _) rfl ?_
     exact ⟨rfl, HB4.out⟩)
   |(rw [rounds_succ]
     go_wp2_with fail
     refine bodyPost_ret (results_tmp2 rfl _ _ _) rfl ?_
     exact ⟨rfl, HB4.out⟩)
end Go.Proofs.YtklgpilgalfckaaGreatDoor
namespace Go.KP
open Go
section
variable {P : Program} {md : Region.Mode}

theorem yfY {l : List Oper} {Q : Exit → Act → World → Prop} {n f : Nat} {S : Array Bool → Act → World → Prop} (hg : gateB md l 0 n = true) (hn : n ≤ l.length)
 (hS : ∀ a w, S (Array.replicate n true) a w → wpAny P md l.toArray Q f (padded (Array.replicate n true) (l.length - n)) a w)
 (hstep : ∀ (i : Nat) (o : Oper) (L : Array Bool) (a : Act) (w : World), i < n → l[i]? = some o → L.size = n → L.getD i false = false → (∀ j, waits md l.toArray i j → L.getD j false = true) → S L a w → o.wp P a w (fun a' w' => S (L.setIfInBounds i true) a' w') Q) :
 ∀ (fuel : Nat) (L : Array Bool) (a : Act), L.size = n → down md l.toArray L → (∀ j, j < 0 → j < n → L.getD j false = true) → L.toList.count false = fuel →
 ∀ w, S L a w → wpAny P md l.toArray Q (fuel + f) (padded L (l.length - n)) a w := by
 intro fuel
 induction fuel with
 |zero =>
  intro L a hL hd hk hc w h
  have : L = Array.replicate n true := by
   have hne := List.count_eq_zero.1 hc
   apply Array.ext
   ·simp [hL]
   ·intro i h1 h2
    rw [Array.getElem_replicate]
    cases hx : L[i] with
    |true => rfl
    |false => exact absurd (by rw [← hx]; simp) hne
  subst this
  rw [Nat.zero_add]
  exact hS a w h
 |succ fuel ih =>
  intro L a hL hd hk hc w h
  obtain ⟨j0, hj0, hjf⟩ : ∃ j, j < n ∧ L.getD j false = false := by
   have hmem : false ∈ L.toList := List.count_pos_iff.1 (by omega)
   obtain ⟨j, hj, hx⟩ := List.mem_iff_getElem.1 hmem
   refine ⟨j, by simpa [hL] using hj, ?_⟩
   have : j < L.size := by simpa using hj
   simpa [this] using hx
  have hpre : ∀ i, i ∈ Region.ready md l.toArray (padded L (l.length - n)) → i < n ∧ i ∈ Region.ready md (l.take n).toArray L := by
   intro i hi
   obtain ⟨h1, h2, h3⟩ := zc.1 hi
   have hin : i < n := by
    rcases Nat.lt_or_ge i n with h | h
    ·exact h
    ·exfalso
     have hil : i < l.length := by simpa using h1
     rcases yag hg i hil h with ⟨j, hj, hw⟩ | hall
     ·have := h3 j hw
      rw [qb, Array.getD_eq_getD_getElem?, Array.getElem?_eq_none (by omega)] at this
      simp at this
     ·have key : ∀ d j, n - j = d → j < n → L.getD j false = true := by
       intro d
       induction d using Nat.strongRecOn with
       | _ d ihd =>
         intro j hdj hj
         rcases hall j hj with h4 | h4 | ⟨m, h4, h5, h6⟩
         ·exact hk j h4 hj
         ·have := h3 j h4
          rwa [qb] at this
         ·exact hd m j (ihd (n - m) (by omega) m rfl h4) h6
      have := key _ j0 rfl hj0
      rw [hjf] at this
      cases this
   refine ⟨hin, zc.2 ⟨by simp; omega, ?_, fun j hj => ?_⟩⟩
   ·rwa [vj (by omega)] at h2
   ·have := h3 j ((zK hin).1 hj)
    rwa [qb] at this
  have hback : ∀ i, i ∈ Region.ready md (l.take n).toArray L → i ∈ Region.ready md l.toArray (padded L (l.length - n)) := by
   intro i hi
   obtain ⟨h1, h2, h3⟩ := zc.1 hi
   have hin : i < n := by simp at h1; omega
   refine zc.2 ⟨by simp; omega, ?_, fun j hj => ?_⟩
   ·rwa [vj (by omega)]
   ·rw [qb]
    exact h3 j ((zK hin).2 hj)
  rw [Nat.add_right_comm]
  refine ⟨fun h0 => ?_, fun i hi => ?_⟩
  ·obtain ⟨i, hi⟩ := yaU hg hL j0 hj0 hjf
   have := hback i hi
   rw [h0] at this
   cases this
  ·obtain ⟨hin, hr⟩ := hpre i hi
   obtain ⟨r1, r2, r3⟩ := zc.1 hr
   have hiL : i < L.size := by omega
   have hfi : L.getD i false = false := by rw [← ycW hiL]; exact r2
   obtain ⟨b1, b2, b3⟩ := jx hg i hin
   have hd' : down md l.toArray (L.setIfInBounds i true) := by
    intro x y hx hxy
    have hmono : ∀ y, L.getD y false = true → (L.setIfInBounds i true).getD y false = true := by
     intro y hy
     by_cases hyi : y = i
     ·subst hyi; rw [hfi] at hy; cases hy
     ·simpa [Array.getD_eq_getD_getElem?, Array.getElem?_setIfInBounds_ne (Ne.symm hyi)] using hy
    by_cases hxi : x = i
    ·subst hxi
     exact hmono y (r3 y ((zK hin).2 hxy))
    ·have hx' : L.getD x false = true := by simpa [Array.getD_eq_getD_getElem?, Array.getElem?_setIfInBounds_ne (Ne.symm hxi)] using hx
     exact hmono y (hd x y hx' hxy)
   have hk' : ∀ j, j < 0 → j < n → (L.setIfInBounds i true).getD j false = true := by
    intro j h1 h2
    have hj := hk j h1 h2
    by_cases hji : j = i
    ·subst hji; rw [hfi] at hj; cases hj
    ·simpa [Array.getD_eq_getD_getElem?, Array.getElem?_setIfInBounds_ne (Ne.symm hji)] using hj
   have hnext : ∀ a' w', S (L.setIfInBounds i true) a' w' → wpAny P md l.toArray Q (fuel + f) ((padded L (l.length - n)).setIfInBounds i true) a' w' := by
    intro a' w' h'
    rw [yaH hiL]
    exact ih _ a' (by simpa using hL) hd' hk' (by have := count_set hiL hfi; omega) w' h'
   unfold wpOp
   have e2 : l.toArray[i]? = some l[i] := by simp [b1]
   rw [e2]
   have hgd : l[i].guard = none := b2 _ (List.getElem?_eq_getElem b1)
   have hw1 : ∀ ys, Region.wanted l[i] ys = true := fun ys => by simp [Region.wanted, hgd]
   simp only [hw1, if_true]
   exact .inl (Oper.wp_mono hnext (hstep i l[i] L a w hin (List.getElem?_eq_getElem b1) hL hfi (fun j hj => r3 j ((zK hin).2 hj)) h))
theorem ycx {id : Nat} {Q : Exit → Act → World → Prop} {a : Act} {w : World} {l : List Oper} (n : Nat) (S : Array Bool → Act → World → Prop) (hm : P.follows .mixedOrders = true) (hn : n ≤ l.length)
 (hg : gateB .any l 0 n = true) (hs : seqB .any l n = true) (h0 : S (Array.replicate n false) a { w with drawn := w.drawn + 1 })
 (hstep : ∀ (i : Nat) (o : Oper) (L : Array Bool) (a : Act) (w : World), i < n → l[i]? = some o → L.size = n → L.getD i false = false → (∀ j, waits .any l.toArray i j → L.getD j false = true) → S L a w → o.wp P a w (fun a' w' => S (L.setIfInBounds i true) a' w') Q)
 (hend : ∀ a w, S (Array.replicate n true) a w → wpList P l.toArray Q (l.drop n) a w) : (Code.region id l.toArray true).wp P Q a w := by
 refine wp_region_any hm ?_
 have h2 := yfY (P := P) (Q := Q) (S := S) (f := (l.drop n).length) hg hn (fun a2 w2 h3 => yfX hs (l.drop n) n a2 w2 (fun j => by simp) (Nat.le_refl _) (by simp; omega) (hend a2 w2 h3)) hstep
  n (Array.replicate n false) a (by simp) (fun i j hi => by simp [Array.getD_eq_getD_getElem?, Array.getElem?_replicate] at hi; split at hi <;> simp at hi) (fun j hj => by omega) (by simp) _ h0
 have e : padded (Array.replicate n false) (l.length - n) = Array.replicate l.toArray.size false := by
  unfold padded
  rw [Array.replicate_append_replicate]
  congr 1
  simp
  omega
 rw [e] at h2
 have e2 : n + (l.drop n).length = l.toArray.size := by simp; omega
 rw [e2] at h2
 exact h2
theorem vm {L : Array Bool} {i j n : Nat} (hL : L.size = n) (hi : i < n) : (L.setIfInBounds i true).getD j false = if i = j then true else L.getD j false := by
 simp only [Array.getD_eq_getD_getElem?, Array.getElem?_setIfInBounds]
 by_cases h : i = j
 ·subst h
  simp [hL, hi]
 ·simp [h]
end
end Go.KP
namespace Go.Proofs.YtklgpilgalfckaaGreatDoor
open Go.RowKit Go.KP Go.KI Go.Shelf
attribute [local go_sem] Oper.semAt_some vidx0 vidx1 vidx2

theorem ybv {a b c d : Rat} (h : mulO a d = none) : minorO a b c d = none := by unfold minorO; rw [h, Option.bind_none]
theorem ybi {a b c d : Rat} (h : mulO b c = none) : minorO a b c d = none := by
 unfold minorO
 rw [h]
 cases mulO a d <;> rfl
theorem ybg {a b c d p q : Rat} (h1 : mulO a d = some p) (h2 : mulO b c = some q) : minorO a b c d = subO p q := by unfold minorO; rw [h1, Option.bind_some, h2, Option.bind_some]
theorem ydF {x y z : Option Rat} (h : x = none) : all3 x y z = none := by rw [h]; rfl
theorem ydf {x y z : Option Rat} (h : y = none) : all3 x y z = none := by rw [h]; cases x <;> rfl
theorem ydh {x y z : Option Rat} (h : z = none) : all3 x y z = none := by rw [h]; cases x <;> cases y <;> rfl
def sel (b : Bool) (v : Value) : Value := if b then v else undef
theorem yhV (v : Value) : sel true v = v := rfl
abbrev zarr : Obj := arrO ⟨#[]⟩ ⟨#[]⟩ ⟨#[]⟩
def actX (a b : V3) (n : Nat) (b7 b8 : Nat) (x0 x1 x2 x3 x4 x5 : Bool) : Act :=
 { tmps := #[vecV a, vecV b, .pointer (some ⟨n, 0, none⟩), .pointer (some ⟨n + 1, 0, none⟩), .pointer (some ⟨n + 1 + 1, 0, none⟩), .int .i64 0, .pointer (some ⟨n + 1 + 1 + 1, 0, none⟩), sel x4 (.pointer (some ⟨b7, 0, none⟩)), sel x5 (.pointer (some ⟨b8, 0, none⟩)), undef, undef, undef, undef, undef, undef, sel x0 (vecV a), sel x1 (vecV a), sel x2 (vecV b), sel x3 (vecV b), undef, undef, undef, undef, undef, undef, undef, undef, undef, undef, undef, undef, undef, undef, undef, undef, undef, undef, undef, undef, undef, undef, undef, undef, undef, undef, undef, undef, undef, undef, undef, undef, undef, undef, undef, undef, undef, undef, undef, undef, undef, undef, undef, undef, undef, undef, undef, undef, undef, undef, undef, undef], defers := [] }
def TakeX (a b : V3) (n : Nat) (W0 : World) (L : Array Bool) (A : Act) (w : World) : Prop :=
 ∃ b7 b8, A = actX a b n b7 b8 (L.getD 0 false) (L.getD 1 false) (L.getD 2 false) (L.getD 3 false) (L.getD 4 false) (L.getD 5 false) ∧ Below W0.heap.size W0 w ∧
  (L.getD 4 false = true → W0.heap.size ≤ b7 ∧ w.heap[b7]? = some zarr) ∧ (L.getD 5 false = true → W0.heap.size ≤ b8 ∧ w.heap[b8]? = some zarr) ∧ (L.getD 4 false = true → L.getD 5 false = true → b7 ≠ b8)
theorem TakeX.keep {a b : V3} {n : Nat} {W0 w w' : World} {L L' : Array Bool} {A' : Act} {b7 b8 : Nat} (hB : Below W0.heap.size W0 w) (h7 : L.getD 4 false = true → W0.heap.size ≤ b7 ∧ w.heap[b7]? = some zarr) (h8 : L.getD 5 false = true → W0.heap.size ≤ b8 ∧ w.heap[b8]? = some zarr) (hne : L.getD 4 false = true → L.getD 5 false = true → b7 ≠ b8)
 (hb : Below w.heap.size w w') (h4 : L'.getD 4 false = L.getD 4 false) (h5 : L'.getD 5 false = L.getD 5 false) (hA : A' = actX a b n b7 b8 (L'.getD 0 false) (L'.getD 1 false) (L'.getD 2 false) (L'.getD 3 false) (L.getD 4 false) (L.getD 5 false)) : TakeX a b n W0 L' A' w' := by
 refine ⟨b7, b8, by rw [hA, h4, h5], hB.trans (hb.mono hB.size), ?_, ?_, ?_⟩
 ·rw [h4]
  intro h
  exact ⟨(h7 h).1, yc hb (h7 h).2 (yd (h7 h).2)⟩
 ·rw [h5]
  intro h
  exact ⟨(h8 h).1, yc hb (h8 h).2 (yd (h8 h).2)⟩
 ·rw [h4, h5]
  exact hne
theorem yfr {a b : V3} (fa : fitsV a) (fb : fitsV b) (B : Nat) (w : World) (hB : B ≤ w.heap.size) (hT : PQ B w) :
 Calls Tryz.prog 51 #[vecV a, vecV b] w (ResV w (crossO a b)) := by
 have HT := hide hT
 have FA := hide fa
 have FB := hide fb
 have HO := hide (show crossO a b = all3 (minorO a.y a.z b.y b.z) (minorO a.z a.x b.z b.x) (minorO a.x a.y b.x b.y) from rfl)
 obtain ⟨O, hO⟩ := xe (crossO a b)
 rw [← hO] at HO ⊢
 have HOF := hide (fun a b c w => yfl a b c w)
 obtain ⟨W0, hW0⟩ := xe ((((w.alloc (sptO (T a.x) (T a.y) (T a.z))).alloc (sptO (T b.x) (T b.y) (T b.z))).alloc (spotO ⟨#[]⟩ ⟨#[]⟩ ⟨#[]⟩)).alloc (arrO ⟨#[]⟩ ⟨#[]⟩ ⟨#[]⟩))
 have hX := heap3 w (sptO (T a.x) (T a.y) (T a.z)) (sptO (T b.x) (T b.y) (T b.z)) (spotO ⟨#[]⟩ ⟨#[]⟩ ⟨#[]⟩)
 have hY := heap1 (((w.alloc (sptO (T a.x) (T a.y) (T a.z))).alloc (sptO (T b.x) (T b.y) (T b.z))).alloc (spotO ⟨#[]⟩ ⟨#[]⟩ ⟨#[]⟩)) (arrO ⟨#[]⟩ ⟨#[]⟩ ⟨#[]⟩)
 rw [← hW0, hX.2.2.2.1] at hY
 have hs0 : W0.heap.size = w.heap.size + 4 := hY.2.1
 have E2 := hide (yc hY.2.2 hX.1 (by omega))
 have E3 := hide (yc hY.2.2 hX.2.1 (by omega))
 have E4 := hide (yc hY.2.2 hX.2.2.1 (by omega))
 have E6 := hide hY.1
 have HB0 := hide (hX.2.2.2.2.trans (hY.2.2.mono (by omega)))
 have HS0 := hide hs0
 clear hX hY hO hT fa fb hs0
 go_enter Tryz.func51, Tryz.ntmps51
 go_wp2_with fail
 rw [← hW0]
 have HW0 := hide hW0
 clear hW0
 have HL1 := hide (fun w => jm (T a.x) (T a.y) (T a.z) w)
 have HL2 := hide (fun w => jm (T b.x) (T b.y) (T b.z) w)
 refine ycx 6 (TakeX a b w.heap.size W0) (by kernel_rfl) (by decide) (by kernel_rfl) (by kernel_rfl) ⟨0, 0, rfl, (Below.refl _ _).drew, (fun h => by cases h), (fun h => by cases h), (fun h => by cases h)⟩ ?_ ?_
 ·intro i o L A v hi ho hL hf hd hS
  obtain ⟨b7, b8, rfl, hV, h7, h8, hne⟩ := hS
  have hi6 : i = 0 ∨ i = 1 ∨ i = 2 ∨ i = 3 ∨ i = 4 ∨ i = 5 := by omega
  rcases hi6 with rfl | rfl | rfl | rfl | rfl | rfl
  all_goals
   simp only [List.getElem?_cons_zero, List.getElem?_cons_succ, Option.some.injEq] at ho
   subst ho
  ·have G := fun j => vm (j := j) hL hi
   obtain ⟨x0, hx0⟩ := xe (L.getD 0 false)
   obtain ⟨x1, hx1⟩ := xe (L.getD 1 false)
   obtain ⟨x2, hx2⟩ := xe (L.getD 2 false)
   obtain ⟨x3, hx3⟩ := xe (L.getD 3 false)
   obtain ⟨x4, hx4⟩ := xe (L.getD 4 false)
   obtain ⟨x5, hx5⟩ := xe (L.getD 5 false)
   rw [← hx0, ← hx1, ← hx2, ← hx3, ← hx4, ← hx5]
   have HK : Hid (∀ A', A' = actX a b w.heap.size b7 b8 true x1 x2 x3 x4 x5 → TakeX a b w.heap.size W0 (L.setIfInBounds 0 true) A' v) := hide (fun A' hA => TakeX.keep hV h7 h8 hne (Below.refl _ v) (by rw [G]; rfl) (by rw [G]; rfl) (by rw [hA, G, G, G, G, hx1, hx2, hx3, hx4, hx5]; rfl))
   have e2 := yc hV E2.out (yd E2.out)
   have l2 := yd e2
   have k0 := ya e2 0
   have k1 := ya e2 1
   have k2 := ya e2 2
   unfold actX
   clear h7 h8 hne hV hd e2 hx0 hx1 hx2 hx3 hx4 hx5 G hf hL hi
   go_wp2_with fail
   exact HK.out _ rfl
  ·have G := fun j => vm (j := j) hL hi
   obtain ⟨x0, hx0⟩ := xe (L.getD 0 false)
   obtain ⟨x1, hx1⟩ := xe (L.getD 1 false)
   obtain ⟨x2, hx2⟩ := xe (L.getD 2 false)
   obtain ⟨x3, hx3⟩ := xe (L.getD 3 false)
   obtain ⟨x4, hx4⟩ := xe (L.getD 4 false)
   obtain ⟨x5, hx5⟩ := xe (L.getD 5 false)
   rw [← hx0, ← hx1, ← hx2, ← hx3, ← hx4, ← hx5]
   have HK : Hid (∀ A', A' = actX a b w.heap.size b7 b8 x0 true x2 x3 x4 x5 → TakeX a b w.heap.size W0 (L.setIfInBounds 1 true) A' ((v.alloc (sptO (T a.x) (T a.y) (T a.z))).alloc (arrO (T a.x) (T a.y) (T a.z)))) := hide (fun A' hA => TakeX.keep hV h7 h8 hne (heap2 v (sptO (T a.x) (T a.y) (T a.z)) (arrO (T a.x) (T a.y) (T a.z))).2.2.2 (by rw [G]; rfl) (by rw [G]; rfl) (by rw [hA, G, G, G, G, hx0, hx2, hx3, hx4, hx5]; rfl))
   have hdep : x0 = true := by rw [hx0]; exact hd 0 (qw.1 (by kernel_rfl))
   have HK := hide HK.out
   unfold actX
   clear h7 h8 hne hV hd hx0 hx1 hx2 hx3 hx4 hx5 G hf hL hi
   subst hdep
   simp only [yhV]
   go_wp2_with fail
   refine (HL1.out _).mono ?_
   rintro e v' ⟨rfl, rfl⟩
   go_wp2_with fail
   exact HK.out _ rfl
  ·have G := fun j => vm (j := j) hL hi
   obtain ⟨x0, hx0⟩ := xe (L.getD 0 false)
   obtain ⟨x1, hx1⟩ := xe (L.getD 1 false)
   obtain ⟨x2, hx2⟩ := xe (L.getD 2 false)
   obtain ⟨x3, hx3⟩ := xe (L.getD 3 false)
   obtain ⟨x4, hx4⟩ := xe (L.getD 4 false)
   obtain ⟨x5, hx5⟩ := xe (L.getD 5 false)
   rw [← hx0, ← hx1, ← hx2, ← hx3, ← hx4, ← hx5]
   have HK : Hid (∀ A', A' = actX a b w.heap.size b7 b8 x0 x1 true x3 x4 x5 → TakeX a b w.heap.size W0 (L.setIfInBounds 2 true) A' v) := hide (fun A' hA => TakeX.keep hV h7 h8 hne (Below.refl _ v) (by rw [G]; rfl) (by rw [G]; rfl) (by rw [hA, G, G, G, G, hx0, hx1, hx3, hx4, hx5]; rfl))
   have e2 := yc hV E3.out (yd E3.out)
   have l2 := yd e2
   have k0 := ya e2 0
   have k1 := ya e2 1
   have k2 := ya e2 2
   unfold actX
   clear h7 h8 hne hV hd e2 hx0 hx1 hx2 hx3 hx4 hx5 G hf hL hi
   go_wp2_with fail
   exact HK.out _ rfl
  ·have G := fun j => vm (j := j) hL hi
   obtain ⟨x0, hx0⟩ := xe (L.getD 0 false)
   obtain ⟨x1, hx1⟩ := xe (L.getD 1 false)
   obtain ⟨x2, hx2⟩ := xe (L.getD 2 false)
   obtain ⟨x3, hx3⟩ := xe (L.getD 3 false)
   obtain ⟨x4, hx4⟩ := xe (L.getD 4 false)
   obtain ⟨x5, hx5⟩ := xe (L.getD 5 false)
   rw [← hx0, ← hx1, ← hx2, ← hx3, ← hx4, ← hx5]
   have HK : Hid (∀ A', A' = actX a b w.heap.size b7 b8 x0 x1 x2 true x4 x5 → TakeX a b w.heap.size W0 (L.setIfInBounds 3 true) A' ((v.alloc (sptO (T b.x) (T b.y) (T b.z))).alloc (arrO (T b.x) (T b.y) (T b.z)))) := hide (fun A' hA => TakeX.keep hV h7 h8 hne (heap2 v (sptO (T b.x) (T b.y) (T b.z)) (arrO (T b.x) (T b.y) (T b.z))).2.2.2 (by rw [G]; rfl) (by rw [G]; rfl) (by rw [hA, G, G, G, G, hx0, hx1, hx2, hx4, hx5]; rfl))
   have hdep : x2 = true := by rw [hx2]; exact hd 2 (qw.1 (by kernel_rfl))
   have HK := hide HK.out
   unfold actX
   clear h7 h8 hne hV hd hx0 hx1 hx2 hx3 hx4 hx5 G hf hL hi
   subst hdep
   simp only [yhV]
   go_wp2_with fail
   refine (HL2.out _).mono ?_
   rintro e v' ⟨rfl, rfl⟩
   go_wp2_with fail
   exact HK.out _ rfl
  ·have G := fun j => vm (j := j) hL hi
   obtain ⟨x0, hx0⟩ := xe (L.getD 0 false)
   obtain ⟨x1, hx1⟩ := xe (L.getD 1 false)
   obtain ⟨x2, hx2⟩ := xe (L.getD 2 false)
   obtain ⟨x3, hx3⟩ := xe (L.getD 3 false)
   obtain ⟨x4, hx4⟩ := xe (L.getD 4 false)
   obtain ⟨x5, hx5⟩ := xe (L.getD 5 false)
   rw [← hx0, ← hx1, ← hx2, ← hx3, ← hx4, ← hx5]
   have HK : Hid (∀ A', A' = actX a b w.heap.size v.heap.size b8 x0 x1 x2 x3 true x5 → TakeX a b w.heap.size W0 (L.setIfInBounds 4 true) A' (v.alloc zarr)) := hide (fun A' hA => ⟨v.heap.size, b8, by rw [hA, G, G, G, G, G, G, hx0, hx1, hx2, hx3, hx5]; rfl, hV.trans ((heap1 v zarr).2.2.mono hV.size), (fun _ => ⟨hV.size, heap_alloc_new v _⟩), (fun h => by rw [G] at h; have h2 := h8 h; exact ⟨h2.1, yc (heap1 v zarr).2.2 h2.2 (yd h2.2)⟩), (fun _ h => by rw [G] at h; have h2 := yd (h8 h).2; omega)⟩)
   unfold actX
   clear h7 h8 hne hV hd hx0 hx1 hx2 hx3 hx4 hx5 G hf hL hi
   go_wp2_with fail
   exact HK.out _ rfl
  ·have G := fun j => vm (j := j) hL hi
   obtain ⟨x0, hx0⟩ := xe (L.getD 0 false)
   obtain ⟨x1, hx1⟩ := xe (L.getD 1 false)
   obtain ⟨x2, hx2⟩ := xe (L.getD 2 false)
   obtain ⟨x3, hx3⟩ := xe (L.getD 3 false)
   obtain ⟨x4, hx4⟩ := xe (L.getD 4 false)
   obtain ⟨x5, hx5⟩ := xe (L.getD 5 false)
   rw [← hx0, ← hx1, ← hx2, ← hx3, ← hx4, ← hx5]
   have HK : Hid (∀ A', A' = actX a b w.heap.size b7 v.heap.size x0 x1 x2 x3 x4 true → TakeX a b w.heap.size W0 (L.setIfInBounds 5 true) A' (v.alloc zarr)) := hide (fun A' hA => ⟨b7, v.heap.size, by rw [hA, G, G, G, G, G, G, hx0, hx1, hx2, hx3, hx4]; rfl, hV.trans ((heap1 v zarr).2.2.mono hV.size), (fun h => by rw [G] at h; have h2 := h7 h; exact ⟨h2.1, yc (heap1 v zarr).2.2 h2.2 (yd h2.2)⟩), (fun _ => ⟨hV.size, heap_alloc_new v _⟩), (fun h _ => by rw [G] at h; have h2 := yd (h7 h).2; omega)⟩)
   unfold actX
   clear h7 h8 hne hV hd hx0 hx1 hx2 hx3 hx4 hx5 G hf hL hi
   go_wp2_with fail
   exact HK.out _ rfl
 ·intro A v hS
  obtain ⟨b7, b8, rfl, hV, h7, h8, hne⟩ := hS
  have hb7 := (h7 rfl).1
  have hb8 := (h8 rfl).1
  have A7 := hide (h7 rfl).2
  have A8 := hide (h8 rfl).2
  have hne78 : b7 ≠ b8 := hne rfl rfl
  have A4 := hide (yc hV E4.out (yd E4.out))
  have A6 := hide (yc hV E6.out (yd E6.out))
  have HV := hide (HB0.out.trans (hV.mono HB0.out.size))
  have k0 := ya A7.out 0
  have k1 := ya A7.out 1
  have k2 := ya A7.out 2
  have f0 := yf A7.out 0
  have f1 := yf A7.out 1
  have f2 := yf A7.out 2
  have m0 := ya A8.out 0
  have m1 := ya A8.out 1
  have m2 := ya A8.out 2
  have g0 := yf A8.out 0
  have g1 := yf A8.out 1
  have g2 := yf A8.out 2
  have l7 := yd A7.out
  have l8 := yd A8.out
  clear hV h7 h8 hne
  simp only [List.drop_succ_cons, List.drop_zero]
  show wpList _ _ _ _ (actX a b w.heap.size b7 b8 true true true true true true) v
  unfold actX
  simp only [yhV]
  go_wp2_with fail
  obtain ⟨u0, hu0⟩ := xe (((((((v.setCell ⟨b7, 0, none⟩ (.string (T a.x))).setCell ⟨b7, 1, none⟩ (.string (T a.y))).setCell ⟨b7, 2, none⟩ (.string (T a.z))).setCell ⟨b8, 0, none⟩ (.string (T b.x))).setCell ⟨b8, 1, none⟩ (.string (T b.y))).setCell ⟨b8, 2, none⟩ (.string (T b.z))))
  rw [← hu0]
  have hs0 := HS0.out
  have X7 : Hid (u0.heap[b7]? = some (arrO (T a.x) (T a.y) (T a.z))) := hide (by rw [hu0]; exact yk (yk (yk (set3c (set3b (set3a A7.out _) _) _) (Ne.symm hne78) _) (Ne.symm hne78) _) (Ne.symm hne78) _)
  have X8 : Hid (u0.heap[b8]? = some (arrO (T b.x) (T b.y) (T b.z))) := hide (by rw [hu0]; exact set3c (set3b (set3a (yk (yk (yk A8.out hne78 _) hne78 _) hne78 _) _) _) _)
  have Y4 : Hid (u0.heap[w.heap.size + 2]? = some (spotO ⟨#[]⟩ ⟨#[]⟩ ⟨#[]⟩)) := hide (by rw [hu0]; exact yk (yk (yk (yk (yk (yk A4.out (by omega) _) (by omega) _) (by omega) _) (by omega) _) (by omega) _) (by omega) _)
  have Y6 : Hid (u0.heap[w.heap.size + 3]? = some (arrO ⟨#[]⟩ ⟨#[]⟩ ⟨#[]⟩)) := hide (by rw [hu0]; exact yk (yk (yk (yk (yk (yk A6.out (by omega) _) (by omega) _) (by omega) _) (by omega) _) (by omega) _) (by omega) _)
  have HB : Hid (Below w.heap.size w u0) := hide (by rw [hu0]; exact yA (yA HV.out (by omega) _ _ _) (by omega) _ _ _)
  have NE7 := hide (show w.heap.size + 3 ≠ b7 by omega)
  have NE8 := hide (show w.heap.size + 3 ≠ b8 by omega)
  clear hu0 hs0 A4 A6 A7 A8 HV k0 k1 k2 f0 f1 f2 m0 m1 m2 g0 g1 g2 l7 l8 hb7 hb8 hne78
  refine wp_loop_rounds 4 ?_
  rw [rounds_succ]
  have k7 := ya X7.out 1
  have k8 := ya X8.out 2
  have l7 := yd X7.out
  have l8 := yd X8.out
  go_wp2_with fail
  refine zT 6 _ (by kernel_rfl) (by decide) rfl (by kernel_rfl) (by kernel_rfl) (by kernel_rfl) (by kernel_rfl) (by kernel_rfl) (by kernel_rfl) (C := fun w' => ∃ m, w' = u0.drewN m) ⟨1, rfl⟩ ?_
  simp only [List.take_succ_cons, List.take_zero, List.drop_succ_cons, List.drop_zero]
  repeat (quiet_step (fail))
  refine wpQuiet_nil ?_
  intro _ hw'
  obtain ⟨nq, rfl⟩ := hw'
  go_wp2_with fail
  refine (wF FA.out.2.1 FB.out.2.2 B (u0.drewN nq) (Nat.le_trans hB HB.out.size) (HT.out.on (below_drewN HB.out nq) hB)).mono ?_
  rintro e v1 (⟨p0, hz, rfl, hb⟩ | ⟨hz, rfl, hb⟩)
  all_goals
   have hb2 := (below_drewN (Below.refl u0.heap.size u0) nq).trans hb
   clear k7 k8 l7 l8 hb
   go_wp2_with fail
   refine ⟨fun w'' => ∃ m, w'' = v1.drewN m, ⟨0, rfl⟩, ?_⟩
   repeat (quiet_step (fail))
   refine wpQuiet_nil ?_
   intro _ hw'
   obtain ⟨nq2, rfl⟩ := hw'
   obtain ⟨u1, hu⟩ := xe (v1.drewN nq2)
   have hb3 : Below u0.heap.size u0 u1 := by rw [hu]; exact below_drewN hb2 nq2
   rw [← hu]
   have HZ := hide hz
   have X7 := bh hb3 X7
   have X8 := bh hb3 X8
   have Y4 := bh hb3 Y4
   have Y6 := bh hb3 Y6
   have HB := hide (HB.out.trans (hb3.mono HB.out.size))
   clear hu hb2 hb3 hz
  rotate_left
  ·have k0 := ya Y4.out 0
   have k1 := ya Y4.out 1
   have k2 := ya Y4.out 2
   have f0 := yf Y4.out 0
   have f1 := yf Y4.out 1
   have f2 := yf Y4.out 2
   have l6 := yd Y4.out
   go_wp2_with fail
   exact yz rfl (set3c (set3b (set3a Y4.out _) _) _) rfl rfl rfl (.inr ⟨HO.out.trans (ydF (ybv HZ.out)), rfl, yA HB.out (show w.heap.size ≤ w.heap.size + 1 + 1 by omega) _ _ _⟩)
  have Hp0 := HZ
  have k7 := ya X7.out 2
  have k8 := ya X8.out 1
  have l7 := yd X7.out
  have l8 := yd X8.out
  go_wp2_with fail
  refine zT 6 _ (by kernel_rfl) (by decide) rfl (by kernel_rfl) (by kernel_rfl) (by kernel_rfl) (by kernel_rfl) (by kernel_rfl) (by kernel_rfl) (C := fun w' => ∃ m, w' = u1.drewN m) ⟨1, rfl⟩ ?_
  simp only [List.take_succ_cons, List.take_zero, List.drop_succ_cons, List.drop_zero]
  repeat (quiet_step (fail))
  refine wpQuiet_nil ?_
  intro _ hw'
  obtain ⟨nq, rfl⟩ := hw'
  go_wp2_with fail
  refine (wF FA.out.2.2 FB.out.2.1 B (u1.drewN nq) (Nat.le_trans hB HB.out.size) (HT.out.on (below_drewN HB.out nq) hB)).mono ?_
  rintro e v2 (⟨q0, hz, rfl, hb⟩ | ⟨hz, rfl, hb⟩)
  all_goals
   have hb2 := (below_drewN (Below.refl u1.heap.size u1) nq).trans hb
   clear k7 k8 l7 l8 hb
   go_wp2_with fail
   refine ⟨fun w'' => ∃ m, w'' = v2.drewN m, ⟨0, rfl⟩, ?_⟩
   repeat (quiet_step (fail))
   refine wpQuiet_nil ?_
   intro _ hw'
   obtain ⟨nq2, rfl⟩ := hw'
   obtain ⟨u2, hu⟩ := xe (v2.drewN nq2)
   have hb3 : Below u1.heap.size u1 u2 := by rw [hu]; exact below_drewN hb2 nq2
   rw [← hu]
   have HZ := hide hz
   have X7 := bh hb3 X7
   have X8 := bh hb3 X8
   have Y4 := bh hb3 Y4
   have Y6 := bh hb3 Y6
   have HB := hide (HB.out.trans (hb3.mono HB.out.size))
   clear hu hb2 hb3 hz
  rotate_left
  ·have k0 := ya Y4.out 0
   have k1 := ya Y4.out 1
   have k2 := ya Y4.out 2
   have f0 := yf Y4.out 0
   have f1 := yf Y4.out 1
   have f2 := yf Y4.out 2
   have l6 := yd Y4.out
   go_wp2_with fail
   exact yz rfl (set3c (set3b (set3a Y4.out _) _) _) rfl rfl rfl (.inr ⟨HO.out.trans (ydF (ybi HZ.out)), rfl, yA HB.out (show w.heap.size ≤ w.heap.size + 1 + 1 by omega) _ _ _⟩)
  have Hq0 := HZ
  go_wp2_with fail
  have HD := hide (fun w hB hT => ygo (yY Hp0.out).2 (yY Hq0.out).2 B w hB hT)
  refine (HD.out _ (Nat.le_trans hB HB.out.size) (HT.out.on HB.out hB)).mono ?_
  rintro e v3 (⟨z0, hz, rfl, hb⟩ | ⟨hz, rfl, hb⟩)
  all_goals
   have X7 := hide (yc hb X7.out (yd X7.out))
   have X8 := hide (yc hb X8.out (yd X8.out))
   have Y4 := hide (yc hb Y4.out (yd Y4.out))
   have Y6 := hide (yc hb Y6.out (yd Y6.out))
   have HB := hide (HB.out.trans (hb.mono HB.out.size))
   have HZ := hide ((ybg Hp0.out Hq0.out).trans hz)
   have j0 := ya Y6.out 0
   have j1 := yf Y6.out 0
   have j2 := yd Y6.out
   clear hb hz HD
  rotate_left
  ·have S4 := hide (yk (c := w.heap.size + 3) (o := 0) Y4.out (by omega) (.string ⟨#[]⟩))
   have k0 := ya S4.out 0
   have k1 := ya S4.out 1
   have k2 := ya S4.out 2
   have f0 := yf S4.out 0
   have f1 := yf S4.out 1
   have f2 := yf S4.out 2
   have l6 := yd S4.out
   go_wp2_with fail
   exact yz rfl (set3c (set3b (set3a S4.out _) _) _) rfl rfl rfl (.inr ⟨HO.out.trans (ydF HZ.out), rfl, yA (HB.out.setCell (p := ⟨w.heap.size + 3, 0, none⟩) (Nat.le_add_right _ _) (.string ⟨#[]⟩)) (show w.heap.size ≤ w.heap.size + 1 + 1 by omega) _ _ _⟩)
  have Y4 := hide (yk (c := w.heap.size + 3) (o := 0) Y4.out (by omega) (.string (T z0)))
  have ne7 : w.heap.size + 3 ≠ b7 := NE7.out
  have ne8 : w.heap.size + 3 ≠ b8 := NE8.out
  have X7 := hide (yk (c := w.heap.size + 3) (o := 0) X7.out ne7 (.string (T z0)))
  have X8 := hide (yk (c := w.heap.size + 3) (o := 0) X8.out ne8 (.string (T z0)))
  have Y6 := hide (set3a Y6.out (.string (T z0)))
  have HB := hide (HB.out.setCell (p := ⟨w.heap.size + 3, 0, none⟩) (Nat.le_add_right _ _) (.string (T z0)))
  have HM0 := HZ
  clear ne7 ne8
  go_wp2_with fail
  clear j0 j1 j2
  obtain ⟨u3, hu⟩ := xe (v3.setCell ⟨w.heap.size + 3, 0, none⟩ (.string (T z0)))
  rw [← hu] at X7 X8 Y4 Y6 HB
  show Code.rounds _ _ _ _ _ (v3.setCell ⟨w.heap.size + 3, 0, none⟩ (.string (T z0)))
  rw [← hu, rounds_succ]
  clear hu
  have k7 := ya X7.out 2
  have k8 := ya X8.out 0
  have l7 := yd X7.out
  have l8 := yd X8.out
  go_wp2_with fail
  refine zT 6 _ (by kernel_rfl) (by decide) rfl (by kernel_rfl) (by kernel_rfl) (by kernel_rfl) (by kernel_rfl) (by kernel_rfl) (by kernel_rfl) (C := fun w' => ∃ m, w' = u3.drewN m) ⟨1, rfl⟩ ?_
  simp only [List.take_succ_cons, List.take_zero, List.drop_succ_cons, List.drop_zero]
  repeat (quiet_step (fail))
  refine wpQuiet_nil ?_
  intro _ hw'
  obtain ⟨nq, rfl⟩ := hw'
  go_wp2_with fail
  refine (wF FA.out.2.2 FB.out.1 B (u3.drewN nq) (Nat.le_trans hB HB.out.size) (HT.out.on (below_drewN HB.out nq) hB)).mono ?_
  rintro e v4 (⟨p1, hz, rfl, hb⟩ | ⟨hz, rfl, hb⟩)
  all_goals
   have hb2 := (below_drewN (Below.refl u3.heap.size u3) nq).trans hb
   clear k7 k8 l7 l8 hb
   go_wp2_with fail
   refine ⟨fun w'' => ∃ m, w'' = v4.drewN m, ⟨0, rfl⟩, ?_⟩
   repeat (quiet_step (fail))
   refine wpQuiet_nil ?_
   intro _ hw'
   obtain ⟨nq2, rfl⟩ := hw'
   obtain ⟨u4, hu⟩ := xe (v4.drewN nq2)
   have hb3 : Below u3.heap.size u3 u4 := by rw [hu]; exact below_drewN hb2 nq2
   rw [← hu]
   have HZ := hide hz
   have X7 := bh hb3 X7
   have X8 := bh hb3 X8
   have Y4 := bh hb3 Y4
   have Y6 := bh hb3 Y6
   have HB := hide (HB.out.trans (hb3.mono HB.out.size))
   clear hu hb2 hb3 hz
  rotate_left
  ·have k0 := ya Y4.out 0
   have k1 := ya Y4.out 1
   have k2 := ya Y4.out 2
   have f0 := yf Y4.out 0
   have f1 := yf Y4.out 1
   have f2 := yf Y4.out 2
   have l6 := yd Y4.out
   go_wp2_with fail
   exact yz rfl (set3c (set3b (set3a Y4.out _) _) _) rfl rfl rfl (.inr ⟨HO.out.trans (ydf (ybv HZ.out)), rfl, yA HB.out (show w.heap.size ≤ w.heap.size + 1 + 1 by omega) _ _ _⟩)
  have Hp1 := HZ
  have k7 := ya X7.out 0
  have k8 := ya X8.out 2
  have l7 := yd X7.out
  have l8 := yd X8.out
  go_wp2_with fail
  refine zT 6 _ (by kernel_rfl) (by decide) rfl (by kernel_rfl) (by kernel_rfl) (by kernel_rfl) (by kernel_rfl) (by kernel_rfl) (by kernel_rfl) (C := fun w' => ∃ m, w' = u4.drewN m) ⟨1, rfl⟩ ?_
  simp only [List.take_succ_cons, List.take_zero, List.drop_succ_cons, List.drop_zero]
  repeat (quiet_step (fail))
  refine wpQuiet_nil ?_
  intro _ hw'
  obtain ⟨nq, rfl⟩ := hw'
  go_wp2_with fail
  refine (wF FA.out.1 FB.out.2.2 B (u4.drewN nq) (Nat.le_trans hB HB.out.size) (HT.out.on (below_drewN HB.out nq) hB)).mono ?_
  rintro e v5 (⟨q1, hz, rfl, hb⟩ | ⟨hz, rfl, hb⟩)
  all_goals
   have hb2 := (below_drewN (Below.refl u4.heap.size u4) nq).trans hb
   clear k7 k8 l7 l8 hb
   go_wp2_with fail
   refine ⟨fun w'' => ∃ m, w'' = v5.drewN m, ⟨0, rfl⟩, ?_⟩
   repeat (quiet_step (fail))
   refine wpQuiet_nil ?_
   intro _ hw'
   obtain ⟨nq2, rfl⟩ := hw'
   obtain ⟨u5, hu⟩ := xe (v5.drewN nq2)
   have hb3 : Below u4.heap.size u4 u5 := by rw [hu]; exact below_drewN hb2 nq2
   rw [← hu]
   have HZ := hide hz
   have X7 := bh hb3 X7
   have X8 := bh hb3 X8
   have Y4 := bh hb3 Y4
   have Y6 := bh hb3 Y6
   have HB := hide (HB.out.trans (hb3.mono HB.out.size))
   clear hu hb2 hb3 hz
  rotate_left
  ·have k0 := ya Y4.out 0
   have k1 := ya Y4.out 1
   have k2 := ya Y4.out 2
   have f0 := yf Y4.out 0
   have f1 := yf Y4.out 1
   have f2 := yf Y4.out 2
   have l6 := yd Y4.out
   go_wp2_with fail
   exact yz rfl (set3c (set3b (set3a Y4.out _) _) _) rfl rfl rfl (.inr ⟨HO.out.trans (ydf (ybi HZ.out)), rfl, yA HB.out (show w.heap.size ≤ w.heap.size + 1 + 1 by omega) _ _ _⟩)
  have Hq1 := HZ
  go_wp2_with fail
  have HD := hide (fun w hB hT => ygo (yY Hp1.out).2 (yY Hq1.out).2 B w hB hT)
  refine (HD.out _ (Nat.le_trans hB HB.out.size) (HT.out.on HB.out hB)).mono ?_
  rintro e v6 (⟨z1, hz, rfl, hb⟩ | ⟨hz, rfl, hb⟩)
  all_goals
   have X7 := hide (yc hb X7.out (yd X7.out))
   have X8 := hide (yc hb X8.out (yd X8.out))
   have Y4 := hide (yc hb Y4.out (yd Y4.out))
   have Y6 := hide (yc hb Y6.out (yd Y6.out))
   have HB := hide (HB.out.trans (hb.mono HB.out.size))
   have HZ := hide ((ybg Hp1.out Hq1.out).trans hz)
   have j0 := ya Y6.out 1
   have j1 := yf Y6.out 1
   have j2 := yd Y6.out
   clear hb hz HD
  rotate_left
  ·have S4 := hide (yk (c := w.heap.size + 3) (o := 1) Y4.out (by omega) (.string ⟨#[]⟩))
   have k0 := ya S4.out 0
   have k1 := ya S4.out 1
   have k2 := ya S4.out 2
   have f0 := yf S4.out 0
   have f1 := yf S4.out 1
   have f2 := yf S4.out 2
   have l6 := yd S4.out
   go_wp2_with fail
   exact yz rfl (set3c (set3b (set3a S4.out _) _) _) rfl rfl rfl (.inr ⟨HO.out.trans (ydf HZ.out), rfl, yA (HB.out.setCell (p := ⟨w.heap.size + 3, 1, none⟩) (Nat.le_add_right _ _) (.string ⟨#[]⟩)) (show w.heap.size ≤ w.heap.size + 1 + 1 by omega) _ _ _⟩)
  have Y4 := hide (yk (c := w.heap.size + 3) (o := 1) Y4.out (by omega) (.string (T z1)))
  have ne7 : w.heap.size + 3 ≠ b7 := NE7.out
  have ne8 : w.heap.size + 3 ≠ b8 := NE8.out
  have X7 := hide (yk (c := w.heap.size + 3) (o := 1) X7.out ne7 (.string (T z1)))
  have X8 := hide (yk (c := w.heap.size + 3) (o := 1) X8.out ne8 (.string (T z1)))
  have Y6 := hide (set3b Y6.out (.string (T z1)))
  have HB := hide (HB.out.setCell (p := ⟨w.heap.size + 3, 1, none⟩) (Nat.le_add_right _ _) (.string (T z1)))
  have HM1 := HZ
  clear ne7 ne8
  go_wp2_with fail
  clear j0 j1 j2
  obtain ⟨u6, hu⟩ := xe (v6.setCell ⟨w.heap.size + 3, 1, none⟩ (.string (T z1)))
  rw [← hu] at X7 X8 Y4 Y6 HB
  show Code.rounds _ _ _ _ _ (v6.setCell ⟨w.heap.size + 3, 1, none⟩ (.string (T z1)))
  rw [← hu, rounds_succ]
  clear hu
  have k7 := ya X7.out 0
  have k8 := ya X8.out 1
  have l7 := yd X7.out
  have l8 := yd X8.out
  go_wp2_with fail
  refine zT 6 _ (by kernel_rfl) (by decide) rfl (by kernel_rfl) (by kernel_rfl) (by kernel_rfl) (by kernel_rfl) (by kernel_rfl) (by kernel_rfl) (C := fun w' => ∃ m, w' = u6.drewN m) ⟨1, rfl⟩ ?_
  simp only [List.take_succ_cons, List.take_zero, List.drop_succ_cons, List.drop_zero]
  repeat (quiet_step (fail))
  refine wpQuiet_nil ?_
  intro _ hw'
  obtain ⟨nq, rfl⟩ := hw'
  go_wp2_with fail
  refine (wF FA.out.1 FB.out.2.1 B (u6.drewN nq) (Nat.le_trans hB HB.out.size) (HT.out.on (below_drewN HB.out nq) hB)).mono ?_
  rintro e v7 (⟨p2, hz, rfl, hb⟩ | ⟨hz, rfl, hb⟩)
  all_goals
   have hb2 := (below_drewN (Below.refl u6.heap.size u6) nq).trans hb
   clear k7 k8 l7 l8 hb
   go_wp2_with fail
   refine ⟨fun w'' => ∃ m, w'' = v7.drewN m, ⟨0, rfl⟩, ?_⟩
   repeat (quiet_step (fail))
   refine wpQuiet_nil ?_
   intro _ hw'
   obtain ⟨nq2, rfl⟩ := hw'
   obtain ⟨u7, hu⟩ := xe (v7.drewN nq2)
   have hb3 : Below u6.heap.size u6 u7 := by rw [hu]; exact below_drewN hb2 nq2
   rw [← hu]
   have HZ := hide hz
   have X7 := bh hb3 X7
   have X8 := bh hb3 X8
   have Y4 := bh hb3 Y4
   have Y6 := bh hb3 Y6
   have HB := hide (HB.out.trans (hb3.mono HB.out.size))
   clear hu hb2 hb3 hz
  rotate_left
  ·have k0 := ya Y4.out 0
   have k1 := ya Y4.out 1
   have k2 := ya Y4.out 2
   have f0 := yf Y4.out 0
   have f1 := yf Y4.out 1
   have f2 := yf Y4.out 2
   have l6 := yd Y4.out
   go_wp2_with fail
   exact yz rfl (set3c (set3b (set3a Y4.out _) _) _) rfl rfl rfl (.inr ⟨HO.out.trans (ydh (ybv HZ.out)), rfl, yA HB.out (show w.heap.size ≤ w.heap.size + 1 + 1 by omega) _ _ _⟩)
  have Hp2 := HZ
  have k7 := ya X7.out 1
  have k8 := ya X8.out 0
  have l7 := yd X7.out
  have l8 := yd X8.out
  go_wp2_with fail
  refine zT 6 _ (by kernel_rfl) (by decide) rfl (by kernel_rfl) (by kernel_rfl) (by kernel_rfl) (by kernel_rfl) (by kernel_rfl) (by kernel_rfl) (C := fun w' => ∃ m, w' = u7.drewN m) ⟨1, rfl⟩ ?_
  simp only [List.take_succ_cons, List.take_zero, List.drop_succ_cons, List.drop_zero]
  repeat (quiet_step (fail))
  refine wpQuiet_nil ?_
  intro _ hw'
  obtain ⟨nq, rfl⟩ := hw'
  go_wp2_with fail
  refine (wF FA.out.2.1 FB.out.1 B (u7.drewN nq) (Nat.le_trans hB HB.out.size) (HT.out.on (below_drewN HB.out nq) hB)).mono ?_
  rintro e v8 (⟨q2, hz, rfl, hb⟩ | ⟨hz, rfl, hb⟩)
  all_goals
   have hb2 := (below_drewN (Below.refl u7.heap.size u7) nq).trans hb
   clear k7 k8 l7 l8 hb
   go_wp2_with fail
   refine ⟨fun w'' => ∃ m, w'' = v8.drewN m, ⟨0, rfl⟩, ?_⟩
   repeat (quiet_step (fail))
   refine wpQuiet_nil ?_
   intro _ hw'
   obtain ⟨nq2, rfl⟩ := hw'
   obtain ⟨u8, hu⟩ := xe (v8.drewN nq2)
   have hb3 : Below u7.heap.size u7 u8 := by rw [hu]; exact below_drewN hb2 nq2
   rw [← hu]
   have HZ := hide hz
   have X7 := bh hb3 X7
   have X8 := bh hb3 X8
   have Y4 := bh hb3 Y4
   have Y6 := bh hb3 Y6
   have HB := hide (HB.out.trans (hb3.mono HB.out.size))
   clear hu hb2 hb3 hz
  rotate_left
  ·have k0 := ya Y4.out 0
   have k1 := ya Y4.out 1
   have k2 := ya Y4.out 2
   have f0 := yf Y4.out 0
   have f1 := yf Y4.out 1
   have f2 := yf Y4.out 2
   have l6 := yd Y4.out
   go_wp2_with fail
   exact yz rfl (set3c (set3b (set3a Y4.out _) _) _) rfl rfl rfl (.inr ⟨HO.out.trans (ydh (ybi HZ.out)), rfl, yA HB.out (show w.heap.size ≤ w.heap.size + 1 + 1 by omega) _ _ _⟩)
  have Hq2 := HZ
  go_wp2_with fail
  have HD := hide (fun w hB hT => ygo (yY Hp2.out).2 (yY Hq2.out).2 B w hB hT)
  refine (HD.out _ (Nat.le_trans hB HB.out.size) (HT.out.on HB.out hB)).mono ?_
  rintro e v9 (⟨z2, hz, rfl, hb⟩ | ⟨hz, rfl, hb⟩)
  all_goals
   have X7 := hide (yc hb X7.out (yd X7.out))
   have X8 := hide (yc hb X8.out (yd X8.out))
   have Y4 := hide (yc hb Y4.out (yd Y4.out))
   have Y6 := hide (yc hb Y6.out (yd Y6.out))
   have HB := hide (HB.out.trans (hb.mono HB.out.size))
   have HZ := hide ((ybg Hp2.out Hq2.out).trans hz)
   have j0 := ya Y6.out 2
   have j1 := yf Y6.out 2
   have j2 := yd Y6.out
   clear hb hz HD
  rotate_left
  ·have S4 := hide (yk (c := w.heap.size + 3) (o := 2) Y4.out (by omega) (.string ⟨#[]⟩))
   have k0 := ya S4.out 0
   have k1 := ya S4.out 1
   have k2 := ya S4.out 2
   have f0 := yf S4.out 0
   have f1 := yf S4.out 1
   have f2 := yf S4.out 2
   have l6 := yd S4.out
   go_wp2_with fail
   exact yz rfl (set3c (set3b (set3a S4.out _) _) _) rfl rfl rfl (.inr ⟨HO.out.trans (ydh HZ.out), rfl, yA (HB.out.setCell (p := ⟨w.heap.size + 3, 2, none⟩) (Nat.le_add_right _ _) (.string ⟨#[]⟩)) (show w.heap.size ≤ w.heap.size + 1 + 1 by omega) _ _ _⟩)
  have Y4 := hide (yk (c := w.heap.size + 3) (o := 2) Y4.out (by omega) (.string (T z2)))
  have ne7 : w.heap.size + 3 ≠ b7 := NE7.out
  have ne8 : w.heap.size + 3 ≠ b8 := NE8.out
  have X7 := hide (yk (c := w.heap.size + 3) (o := 2) X7.out ne7 (.string (T z2)))
  have X8 := hide (yk (c := w.heap.size + 3) (o := 2) X8.out ne8 (.string (T z2)))
  have Y6 := hide (set3c Y6.out (.string (T z2)))
  have HB := hide (HB.out.setCell (p := ⟨w.heap.size + 3, 2, none⟩) (Nat.le_add_right _ _) (.string (T z2)))
  have HM2 := HZ
  clear ne7 ne8
  go_wp2_with fail
  clear j0 j1 j2
  obtain ⟨u9, hu⟩ := xe (v9.setCell ⟨w.heap.size + 3, 2, none⟩ (.string (T z2)))
  rw [← hu] at X7 X8 Y4 Y6 HB
  show Code.rounds _ _ _ _ _ (v9.setCell ⟨w.heap.size + 3, 2, none⟩ (.string (T z2)))
  rw [← hu, rounds_succ]
  clear hu
  have k0 := ya Y6.out 0
  have k1 := ya Y6.out 1
  have k2 := ya Y6.out 2
  have l6 := yd Y6.out
  go_wp2_with fail
  refine (HOF.out _ _ _ _).mono ?_
  rintro e w4 ⟨rfl, rfl⟩
  clear k0 k1 k2 l6
  have X5 := hide (heap2 u9 (arrO (T z0) (T z1) (T z2)) (spotO (T z0) (T z1) (T z2)))
  have R6 := hide (yc X5.out.2.2.2 Y4.out (yd Y4.out))
  have RB := hide (HB.out.trans (X5.out.2.2.2.mono HB.out.size))
  have k0 := ya R6.out 0
  have k1 := ya R6.out 1
  have k2 := ya R6.out 2
  have f0 := yf R6.out 0
  have f1 := yf R6.out 1
  have f2 := yf R6.out 2
  have l6 := yd R6.out
  go_wp2_with fail
  exact yz rfl (set3c (set3b (set3a R6.out _) _) _) rfl rfl rfl (.inl ⟨⟨z0, z1, z2⟩, HO.out.trans (by rw [HM0.out, HM1.out, HM2.out]; rfl), rfl, yA RB.out (show w.heap.size ≤ w.heap.size + 1 + 1 by omega) _ _ _⟩)

theorem wa {a b : V3} (fa : fitsV a) (fb : fitsV b) (B : Nat) (w : World) (hB : B ≤ w.heap.size) (hT : PQ B w) :
 Calls Tryz.prog 19 #[vecV a, vecV b] w (ResV w (crossO a b)) := by
 have HT := hide hT
 have HC := hide (fun w hB hT => yc7 fa fb B w hB hT)
 have HD := hide (fun w hB hT => yfr fa fb B w hB hT)
 have X0 := hide (heap3 w (vecO a) (vecO b) (spotO ⟨#[]⟩ ⟨#[]⟩ ⟨#[]⟩))
 obtain ⟨O, hO⟩ := xe (crossO a b)
 rw [← hO] at HD ⊢
 clear hO hT fa fb
 go_enter Tryz.func19, Tryz.ntmps19
 go_wp2_with fail
 refine (HC.out _ (Nat.le_trans hB X0.out.2.2.2.2.size) (HT.out.on X0.out.2.2.2.2 hB)).mono ?_
 rintro e w1 ⟨rfl, hb1⟩
 have HB1 := hide (X0.out.2.2.2.2.trans (hb1.mono X0.out.2.2.2.2.size))
 have G1 := hide (yc hb1 X0.out.1 (yd X0.out.1))
 have G2 := hide (yc hb1 X0.out.2.1 (yd X0.out.2.1))
 have G4 := hide (yc hb1 X0.out.2.2.1 (yd X0.out.2.2.1))
 have k0 := ya G1.out 0
 have k1 := ya G1.out 1
 have k2 := ya G1.out 2
 have m0 := ya G2.out 0
 have m1 := ya G2.out 1
 have m2 := ya G2.out 2
 clear hb1
 go_wp2_with fail
 refine (HD.out _ (Nat.le_trans hB HB1.out.size) (HT.out.on HB1.out hB)).mono ?_
 rintro e w3 (⟨z, hz, rfl, hb3⟩ | ⟨hz, rfl, hb3⟩)
 all_goals
  have HZ := hide hz
  have HB3 := bt HB1 hb3
  have G5 := bh hb3 G4
  clear hb3 hz k0 k1 k2 m0 m1 m2
  have k0 := ya G5.out 0
  have k1 := ya G5.out 1
  have k2 := ya G5.out 2
  have f0 := yf G5.out 0
  have f1 := yf G5.out 1
  have f2 := yf G5.out 2
  have l6 := yd G5.out
  go_wp2_with fail
  first
   |exact yz rfl (set3c (set3b (set3a G5.out _) _) _) rfl rfl rfl (.inl ⟨_, HZ.out, rfl, yA HB3.out (show w.heap.size ≤ w.heap.size + 1 + 1 by omega) _ _ _⟩)
   |exact yz rfl (set3c (set3b (set3a G5.out _) _) _) rfl rfl rfl (.inr ⟨HZ.out, rfl, yA HB3.out (show w.heap.size ≤ w.heap.size + 1 + 1 by omega) _ _ _⟩)
theorem eqZero (c : V3) (w : World) : (Op.equalIn 10000 28 (vecV c) (.agg #[.string ⟨#[48]⟩, .string ⟨#[48]⟩, .string ⟨#[48]⟩])).run Tryz.prog w = .ok (decide (c = vzero)) w := by
 have h := ygT c vzero w
 unfold vecV at h
 rw [show vzero.x = 0 from rfl, show vzero.y = 0 from rfl, show vzero.z = 0 from rfl, T0] at h
 exact h
theorem ydx {a b c : V3} (fa : fitsV a) (fb : fitsV b) (hc : crossO a b = some c) {is : Bool} (his : is = decide (c = vzero)) (B : Nat) (w : World) (hB : B ≤ w.heap.size) (hT : PQ B w) :
 Calls Tryz.prog 23 #[vecV a, vecV b] w (Ret w (.tuple #[.bool is, .int .i64 0])) := by
 have HT := hide hT
 have HD := hide (fun w hB hT => (wa fa fb B w hB hT).mono fun _ _ h => ResV.of hc h)
 have X0 := hide (heap2 w (vecO a) (vecO b))
 have he := eqZero c
 rw [← his] at he
 clear hc his hT fa fb
 go_enter Tryz.func23, Tryz.ntmps23
 go_wp2_with fail
 refine (HD.out _ (Nat.le_trans hB X0.out.2.2.2.size) (HT.out.on X0.out.2.2.2 hB)).mono ?_
 rintro e w1 ⟨rfl, hb1⟩
 have HB1 := hide ((X0.out.2.2.2.trans (hb1.mono X0.out.2.2.2.size)).trans ((heap1 w1 (vecO c)).2.2.mono (X0.out.2.2.2.trans (hb1.mono X0.out.2.2.2.size)).size))
 clear hb1
 go_wp2_with fail
 refine bodyPost_ret (results_tmp2 rfl _ _ _) rfl ?_
 exact ⟨rfl, HB1.out⟩
attribute [local go_sem] Oper.semAt_some

theorem ye3 {c : Rat} {m : Nat} (fc : fitsQ c) (hc : c ≠ 0) (lc : dlen c ≤ 60) (hm : RootOk m) (b : Nat) (B : Nat) (w : World) (hb : w.heap[b]? = some (termO (T c) (T (m : Rat)))) (hB : B ≤ w.heap.size) (hT : PR B w) :
 Calls Tryz.prog 56 #[.slice (some ⟨b, 0, none⟩) 1 1] w (Ret w (.int .i64 0)) := by
 have HT := hide hT
 have HR := hide (fun w hB hT => yfO fc hc lc hm B w hB hT)
 obtain ⟨X, hX⟩ := xe (T ((m : Nat) : Rat))
 obtain ⟨Y, hY⟩ := xe (T c)
 rw [← hX, ← hY] at HR hb
 have G := hide hb
 have k0 := ya G.out 0
 have k1 := ya G.out 1
 have kl := yd G.out
 have X0 := hide (heap1 w (termO Y X))
 clear hX hY fc hc lc hm hT hb
 go_enter Tryz.func56, Tryz.ntmps56
 go_wp2_with fail
 refine wp_loop_rounds 2 ?_
 rw [rounds_succ]
 go_wp2_with fail
 refine (HR.out _ (Nat.le_trans hB X0.out.2.2.size) (HT.out.on X0.out.2.2 hB)).mono ?_
 rintro e w1 ⟨rfl, hb1⟩
 have HB1 := hide (X0.out.2.2.trans (hb1.mono X0.out.2.2.size))
 clear hb1
 go_wp2_with fail
 rw [rounds_succ]
 go_wp2_with fail
 go_ret
 exact ⟨rfl, HB1.out⟩
def ResS (w : World) (c n : ByteArray) (e : Ending) (w' : World) : Prop := ∃ b, w.heap.size ≤ b ∧ w'.heap[b]? = some (termO c n) ∧ e = .returned (.tuple #[.slice (some ⟨b, 0, none⟩) 1 1, .int .i64 0]) ∧ Below w.heap.size w w'
theorem xK {a : V3} {q : Rat} (fa : fitsV a) (hd : dotO a a = some q) (fq : roomy q) (h0 : 0 < q.num) (hs : (numB q).size + (denB q).size ≤ 17) (fc : fitsQ (normC q)) (hc : normC q ≠ 0) (lc : dlen (normC q) ≤ 60) (hm : RootOk (normL q)) (B : Nat) (w : World) (hB : B ≤ w.heap.size) (hT : PR B w) :
 Calls Tryz.prog 21 #[vecV a] w (ResS w (T (normC q)) (T (normL q : Rat))) := by
 have HT := hide hT
 have HC := hide (fun w hB hT => yd7 fa B w hB hT)
 have HN := hide (fun w hB hT => ju fq h0 hs B w hB hT)
 have HS := hide (fun b w hb hB hT => ye3 fc hc lc hm b B w hb hB hT)
 have eX : strB (Lib.itoa (normL q)) = T ((normL q : Nat) : Rat) := by rw [yey, Lib.itoa_nonneg]
 rw [eX] at HN
 have hz : ((T (normC q)).toList == [48]) = false := (zz (yI _)).2 (fun e => hc (yeR (yp (by rw [yI, e, T0]))))
 obtain ⟨X, hX⟩ := xe (T ((normL q : Nat) : Rat))
 obtain ⟨Y, hY⟩ := xe (T (normC q))
 rw [← hX, ← hY] at HN HS ⊢
 rw [← hY] at hz
 have HD := hide (fun w hB hT => (yai fa fa B w hB hT).mono fun _ _ hr => ResO.of hd hr)
 have X0 := hide (heap1 w (vecO a))
 clear hX hY eX fa hd fq h0 hs fc hc lc hm hT
 go_enter Tryz.func21, Tryz.ntmps21
 go_wp2_with fail
 refine (HC.out _ (Nat.le_trans hB X0.out.2.2.size) (HT.out.on X0.out.2.2 hB).pq).mono ?_
 rintro e w1 ⟨rfl, hb1⟩
 have G1 := hide (yc hb1 X0.out.1 (yd X0.out.1))
 have HB1 := hide (X0.out.2.2.trans (hb1.mono X0.out.2.2.size))
 have k0 := ya G1.out 0
 have k1 := ya G1.out 1
 have k2 := ya G1.out 2
 have kl := yd G1.out
 clear hb1
 go_wp2_with fail
 refine (HD.out _ (Nat.le_trans hB HB1.out.size) (HT.out.on HB1.out hB).pq).mono ?_
 rintro e w2 ⟨rfl, hb2⟩
 have HB2 := bt HB1 hb2
 clear hb2 k0 k1 k2 kl G1
 go_wp2_with fail
 refine (HN.out _ (Nat.le_trans hB HB2.out.size) (HT.out.on HB2.out hB)).mono ?_
 rintro e w3 ⟨rfl, hb3⟩
 have HB3 := bt HB2 hb3
 clear hb3
 have X3 := hide (heap1 w3 (termO Y X))
 have HB4 := hide (HB3.out.trans (X3.out.2.2.mono HB3.out.size))
 have HS4 := hide (HS.out w3.heap.size (w3.alloc (termO Y X)) X3.out.1 (Nat.le_trans hB HB4.out.size) (HT.out.on HB4.out hB))
 go_wp2_with fail
 refine HS4.out.mono ?_
 rintro e w5 ⟨rfl, hb5⟩
 have G5 := hide (yc hb5 X3.out.1 (yd X3.out.1))
 have HB5 := bt HB4 hb5
 have HL := hide HB3.out.size
 clear hb5 X3 HS4
 go_wp2_with fail
 refine bodyPost_ret (results_tmp2 rfl _ _ _) rfl ?_
 exact ⟨w3.heap.size, HL.out, G5.out, rfl, HB5.out⟩
theorem eqTerm (a b : ByteArray) (w : World) : (Op.equalIn 10000 95 (.agg #[.string a, .string b]) (.agg #[.string a, .string b])).run Tryz.prog w = .ok true w := by
 have hS : Tryz.prog.underlying 95 = some (.struct (Tryz.prog.fieldsOf 95)) := by kernel_rfl
 have hp : Tryz.prog.stoodInHeld 95 = false := by kernel_rfl
 rw [show (10000 : Nat) = 9999 + 1 from rfl, run_equalIn_agg w 9999 95 _ _ hS hp]
 simp only [Program.fieldsOf, Tryz.underlying95]
 go_simp
theorem yeE (a b : Nat) (c n : ByteArray) (w : World) (h1 : w.heap[a]? = some (termO c n)) (h2 : w.heap[b]? = some (termO c n)) :
 Calls Tryz.prog 44 #[.slice (some ⟨a, 0, none⟩) 1 1, .slice (some ⟨b, 0, none⟩) 1 1] w (Ret w (.bool true)) := by
 have k0 := ya h1 0
 have k1 := ya h1 1
 have kl := yd h1
 have m0 := ya h2 0
 have m1 := ya h2 1
 have ml := yd h2
 have he := fun w => eqTerm c n w
 clear h1 h2
 go_enter Tryz.func44, Tryz.ntmps44
 go_wp2_with fail
 refine wp_loop_rounds 2 ?_
 rw [rounds_succ]
 go_wp2_with fail
 go_quiet (fail)
 go_wp2_with fail
 rw [rounds_succ]
 go_wp2_with fail
 go_ret
 exact ⟨rfl, below_drewN (Below.refl _ _) _⟩
abbrev v100 : V3 := ⟨1, 0, 0⟩
abbrev v010 : V3 := ⟨0, 1, 0⟩
abbrev v001 : V3 := ⟨0, 0, 1⟩
abbrev r12 : Rat := ⟨1, 2, by decide, by decide⟩
abbrev r13 : Rat := ⟨1, 3, by decide, by decide⟩
abbrev vHalf : V3 := ⟨r12, r12, 0⟩
abbrev v3412 : V3 := ⟨3, 4, 12⟩
abbrev vC1 : V3 := ⟨r12, 0, 0⟩
abbrev vC2 : V3 := ⟨r13, 9, 0⟩
theorem tx (m : Nat) (l : List UInt8) (h : Lib.decDigits m = l) : T ((m : Nat) : Rat) = strB l := by rw [yey, h]
theorem tx1 : T 1 = ⟨#[49]⟩ := tx 1 [49] (by decide +kernel)
theorem tx3 : T 3 = ⟨#[51]⟩ := tx 3 [51] (by decide +kernel)
theorem tx4 : T 4 = ⟨#[52]⟩ := tx 4 [52] (by decide +kernel)
theorem tx9 : T 9 = ⟨#[57]⟩ := tx 9 [57] (by decide +kernel)
theorem tx12 : T 12 = ⟨#[49, 50]⟩ := tx 12 [49, 50] (by decide +kernel)
theorem tx13 : T 13 = ⟨#[49, 51]⟩ := tx 13 [49, 51] (by decide +kernel)
theorem tx2 : T 2 = ⟨#[50]⟩ := tx 2 [50] (by decide +kernel)
theorem txf {x : Rat} {l : List UInt8} (h1 : x.num = 1) (h2 : x.den ≠ 1) (h : Lib.decDigits x.den = l) : T x = strB (49 :: 47 :: l) := by
 unfold T ratS
 rw [if_neg h2, h1, show (1 : Int) = ((1 : Nat) : Int) from rfl, Lib.itoa_nonneg, Lib.decDigits_one (by omega), h]
 rfl
theorem txr12 : T r12 = ⟨#[49, 47, 50]⟩ := txf rfl (by decide) (by decide +kernel)
theorem txr13 : T r13 = ⟨#[49, 47, 51]⟩ := txf rfl (by decide) (by decide +kernel)
theorem szd {x : Rat} {p : Nat} (h : x.num.natAbs < 10 ^ p ∧ x.den < 10 ^ p) : sz p x := h
theorem vv (a : V3) {x y z : ByteArray} (h1 : T a.x = x) (h2 : T a.y = y) (h3 : T a.z = z) : vecV a = spotV x y z := by
 show Value.agg #[.string (T a.x), .string (T a.y), .string (T a.z)] = _
 rw [h1, h2, h3]
theorem yho : RootOk 2 := ⟨by omega, by decide +kernel, yfR⟩
theorem yhs : RootOk 1 := ⟨by omega, by decide +kernel, by decide +kernel⟩
theorem norm12 : normC r12 = r12 ∧ normL r12 = 2 := by
 have e : normN (r12.num.toNat * r12.den) = (1, 2) := yfR
 unfold normC normL
 rw [e]
 exact ⟨by decide +kernel, rfl⟩
theorem norm169 : normC 169 = 13 ∧ normL 169 = 1 := by
 have e : normN ((169 : Rat).num.toNat * (169 : Rat).den) = (13, 1) := yfw
 unfold normC normL
 rw [e]
 exact ⟨by decide +kernel, rfl⟩
theorem mxe4 (w : World) : (Builtin.max_ #[33, 33, 33, 33] 33 #[.int .i64 0, .int .i64 0, .int .i64 0, .int .i64 0]).run Tryz.prog w = .ok (.int .i64 0) w := by kernel_rfl
theorem ycV (B : Nat) (w : World) (hB : B ≤ w.heap.size) (hT : PR B w) :
 Calls Tryz.prog 16 #[] w (Ret w (.bool true)) := by
 have HT := hide hT
 have s1 : szV 1 v100 := ⟨szd (by decide), szd (by decide), szd (by decide)⟩
 have s2 : szV 1 v010 := ⟨szd (by decide), szd (by decide), szd (by decide)⟩
 have s3 : szV 1 vHalf := ⟨szd (by decide), szd (by decide), szd (by decide)⟩
 have s4 : szV 2 v3412 := ⟨szd (by decide), szd (by decide), szd (by decide)⟩
 have s5 : szV 1 vC1 := ⟨szd (by decide), szd (by decide), szd (by decide)⟩
 have s6 : szV 1 vC2 := ⟨szd (by decide), szd (by decide), szd (by decide)⟩
 have HX := hide (fun w hB hT => (wa (vk s1 (by rw [yC]; omega)) (vk s2 (by rw [yC]; omega)) B w hB hT).mono fun _ _ hr => ResV.of (yg2 s1 s2 (by rw [yC]; omega)).1 hr)
 rw [show vcross v100 v010 = v001 by decide +kernel, vv v100 tx1 T0 T0, vv v010 T0 tx1 T0, vv v001 T0 T0 tx1] at HX
 have d3 := (yhE s3 s3 (by rw [yC]; omega)).1
 rw [show vdot vHalf vHalf = r12 by decide +kernel] at d3
 have d4 := (yhE s4 s4 (by rw [yC]; omega)).1
 rw [show vdot v3412 v3412 = 169 by decide +kernel] at d4
 have HL1 := hide (fun w hB hT => xK (vk s3 (by rw [yC]; omega)) d3 (vi (p := 1) (szd (by decide)) (by omega)) (by decide) (by decide +kernel) (by rw [norm12.1]; exact jI (p := 1) (szd (by decide)) (by rw [yC]; omega)) (by rw [norm12.1]; decide) (by rw [norm12.1]; decide +kernel) (by rw [norm12.2]; exact yho) B w hB hT)
 have HL2 := hide (fun w hB hT => xK (vk s4 (by rw [yC]; omega)) d4 (vi (p := 3) (szd (by decide)) (by omega)) (by decide) (by decide +kernel) (by rw [norm169.1]; exact jI (p := 2) (szd (by decide)) (by rw [yC]; omega)) (by rw [norm169.1]; decide) (by rw [norm169.1]; decide +kernel) (by rw [norm169.2]; exact yhs) B w hB hT)
 rw [norm12.1, norm12.2, show ((2 : Nat) : Rat) = 2 from rfl, txr12, tx2, vv vHalf txr12 txr12 T0] at HL1
 rw [norm169.1, norm169.2, show ((1 : Nat) : Rat) = 1 from rfl, tx13, tx1, vv v3412 tx3 tx4 tx12] at HL2
 have HC := hide (fun w hB hT => yeM (vk s5 (by rw [yC]; omega)) (vk s6 (by rw [yC]; omega)) (yhn s5 s6 (by rw [yC]; omega)) B w hB hT)
 rw [show vcmp vC1 vC2 = 1 by decide +kernel, vv vC1 txr12 T0 T0, vv vC2 txr13 tx9 T0] at HC
 have HE := hide (fun a b c n w h1 h2 => yeE a b c n w h1 h2)
 have hmx := mxe4
 have he : ∀ w, (Op.equalIn 10000 28 (spotV ⟨#[48]⟩ ⟨#[48]⟩ ⟨#[49]⟩) (spotV ⟨#[48]⟩ ⟨#[48]⟩ ⟨#[49]⟩)).run Tryz.prog w = .ok true w := fun w => by rw [eqSpot]; simp
 clear s1 s2 s3 s4 s5 s6 d3 d4 hT
 go_enter Tryz.func16, Tryz.ntmps16
 go_wp2_with fail
 refine (HX.out _ hB HT.out.pq).mono ?_
 rintro e w1 ⟨rfl, hb1⟩
 have X1 := hide (heap1 w1 (spotO ⟨#[48]⟩ ⟨#[48]⟩ ⟨#[49]⟩))
 have G1 := hide X1.out.1
 have HB1 := hide (hb1.trans (X1.out.2.2.mono hb1.size))
 clear hb1 X1
 go_wp2_with fail
 refine (HL1.out _ (Nat.le_trans hB HB1.out.size) (HT.out.on HB1.out hB)).mono ?_
 rintro e w2 ⟨p1, hp1, g2, rfl, hb2⟩
 have G1 := bh hb2 G1
 have G2 := hide g2
 have HB2 := bt HB1 hb2
 clear hb2 g2
 go_wp2_with fail
 refine (HL2.out _ (Nat.le_trans hB HB2.out.size) (HT.out.on HB2.out hB)).mono ?_
 rintro e w3 ⟨p2, hp2, g3, rfl, hb3⟩
 have G1 := bh hb3 G1
 have G2 := bh hb3 G2
 have G3 := hide g3
 have HB3 := bt HB2 hb3
 clear hb3 g3
 go_wp2_with fail
 refine (HC.out _ (Nat.le_trans hB HB3.out.size) (HT.out.on HB3.out hB).pq).mono ?_
 rintro e w4 ⟨rfl, hb4⟩
 have G1 := bh hb4 G1
 have G2 := bh hb4 G2
 have G3 := bh hb4 G3
 have HB4 := bt HB3 hb4
 clear hb4
 have k0 := ya G1.out 0
 have k1 := ya G1.out 1
 have k2 := ya G1.out 2
 have kl := yd G1.out
 go_wp2_with fail
 have A1 := hide (heap1 w4 (termO ⟨#[49, 47, 50]⟩ ⟨#[50]⟩))
 refine (HE.out p1 w4.heap.size _ _ _ (yc A1.out.2.2 G2.out (yd G2.out)) A1.out.1).mono ?_
 rintro e w5 ⟨rfl, hb5⟩
 have hb5 := A1.out.2.2.trans (hb5.mono A1.out.2.2.size)
 have G3 := bh hb5 G3
 have HB5 := bt HB4 hb5
 clear hb5 A1 k0 k1 k2 kl
 go_wp2_with fail
 have A1 := hide (heap1 w5 (termO ⟨#[49, 51]⟩ ⟨#[49]⟩))
 refine (HE.out p2 w5.heap.size _ _ _ (yc A1.out.2.2 G3.out (yd G3.out)) A1.out.1).mono ?_
 rintro e w6 ⟨rfl, hb6⟩
 have hb6 := A1.out.2.2.trans (hb6.mono A1.out.2.2.size)
 have HB6 := bt HB5 hb6
 clear hb6 A1
 go_wp2_with fail
 go_ret
 exact ⟨rfl, HB6.out⟩

theorem ybt {s : ByteArray} {l m : List UInt8} (h : s.data.toList = l) : (s.toList == m) = decide (l = m) := by
 by_cases e : l = m
 ·rw [(zz h).1 e, decide_eq_true e]
 ·rw [(zz h).2 e, decide_eq_false e]
def iB (z : Int) : ByteArray := strB (Lib.itoa z)
theorem yv (z : Int) : (iB z).data.toList = Lib.itoa z := yh _
theorem qU {z : Int} (h : fits z) : (iB z).size ≤ 301 := qF (yv z) h
theorem zx {z : Int} (h : 0 ≤ z) : (iB z).data.toList = Lib.decDigits z.natAbs := by
 rw [yv]
 rcases yo z with ⟨a, _⟩ | ⟨_, b⟩
 ·omega
 ·exact b
theorem kb (z : Int) : ∃ h : 0 < (iB z).size, (((((iB z)[0]'h).toNat : Nat) : Int) == 45) = decide (z < 0) := by
 have hne : (iB z).data.toList ≠ [] := by
  rw [yv]
  rcases yo z with ⟨_, a⟩ | ⟨_, a⟩ <;> rw [a]
  ·simp
  ·exact yw _
 obtain ⟨hp, hh⟩ := yT hne
 refine ⟨hp, ?_⟩
 rw [yv] at hh
 have h2 := xl z
 rw [hh] at h2
 by_cases h : z < 0
 ·have h3 := h2.2 h
  injection h3 with h3
  rw [h3, decide_eq_true h]
  rfl
 ·rw [decide_eq_false h]
  simp only [beq_eq_false_iff_ne, ne_eq]
  intro e
  refine h (h2.1 ?_)
  congr 1
  apply UInt8.toNat_inj.1
  have e2 : (45 : UInt8).toNat = 45 := rfl
  omega
theorem zS {z : Int} (h : z < 0) : (iB z).extract 1 (iB z).size = iB (-z) := by
 rw [qR, yv]
 rcases yo z with ⟨_, a⟩ | ⟨a, _⟩
 ·rw [a]
  apply yp
  rw [yh, zx (by omega), List.drop_succ_cons, List.drop_zero]
  congr 1
  omega
 ·omega
theorem yeZ {z : Int} (h : 0 < z) : (⟨#[45]⟩ : ByteArray) ++ iB z = iB (-z) := by
 apply yp
 rw [yv]
 rcases yo (-z) with ⟨_, a⟩ | ⟨a, _⟩
 ·rw [a]
  have e : ((⟨#[45]⟩ : ByteArray) ++ iB z).data.toList = 45 :: (iB z).data.toList := by simp
  rw [e, zx (by omega)]
  congr 2
  omega
 ·omega
theorem qe (z : Int) : ((iB z).toList == [48]) = decide (z = 0) := by
 rw [ybt (yv z)]
 refine decide_eq_decide.2 ⟨fun e => vg (e.trans yP.symm), fun e => by rw [e, yP]⟩
theorem ydk (z : Int) : ((iB z).toList == [49]) = decide (z = 1) := by
 rw [ybt (yv z)]
 refine decide_eq_decide.2 ⟨fun e => vg (e.trans ybj.symm), fun e => by rw [e, ybj]⟩
theorem iB1 : iB 1 = ⟨#[49]⟩ := yp (by rw [yv, ybj])
theorem wT {x y : Int} (f1 : fits x) (f2 : fits y) : chkI (iB x).data.toList = 0 ∧ chkI (iB y).data.toList = 0 ∧ bothI (iB x).data.toList (iB y).data.toList = 0 ∧ (iB x).size ≤ 1000000 ∧ (iB y).size ≤ 1000000 ∧ valI (iB x).data.toList = x ∧ valI (iB y).data.toList = y := by
 have c1 : chkI (iB x).data.toList = 0 := by rw [yv]; exact yM f1
 have c2 : chkI (iB y).data.toList = 0 := by rw [yv]; exact yM f2
 have l1 := qU f1
 have l2 := qU f2
 exact ⟨c1, c2, by unfold bothI; rw [if_pos c1, c2], by omega, by omega, by rw [yv, ym], by rw [yv, ym]⟩
theorem xu {z : Int} (h : fits z) : pairV (resS z) (resE z) = .tuple #[.string (iB z), .int .i64 0] := by
 unfold resS resE
 rw [if_pos h, if_pos h]
 rfl
theorem ycR {z : Int} (h : ¬ fits z) : pairV (resS z) (resE z) = .tuple #[.string ⟨#[]⟩, .int .i64 4] := by
 unfold resS resE
 rw [if_neg h, if_neg h]
 rfl
theorem yis {x y : Int} (f1 : fits x) (f2 : fits y) (f3 : fits (x * y)) (B : Nat) (w : World) (hB : B ≤ w.heap.size) (hT : P10 B w) :
 Calls Tryz.prog 132 #[.string (iB x), .string (iB y)] w (Ret w (pairT (iB (x * y)))) := yit (yv x) (yv y) (yv _) f1 f2 f3 B w hB hT
theorem yf4 {x y : Int} (f1 : fits x) (f2 : fits y) (hy : 0 < y) (B : Nat) (w : World) (hB : B ≤ w.heap.size) (hT : P10 B w) :
 Calls Tryz.prog 179 #[.string (iB x), .string (iB y)] w (Ret w (.tuple #[.string (iB (x / y)), .string (iB (x % y)), .int .i64 0])) :=
 yaf (yv x) (yv y) (by rw [yv, Int.fdiv_eq_ediv_of_nonneg _ (by omega)]) (by rw [yv, Int.fmod_eq_emod_of_nonneg _ (by omega)]) f1 f2 (by omega) B w hB hT

theorem yeV (s : ByteArray) (n : Nat) (B : Nat) (w : World) (c1 : chkI s.data.toList = 0) (hs : s.size ≤ 18) (hn : valI s.data.toList = (n : Int)) (h0 : 0 < n) (hB : B ≤ w.heap.size) (hT : P10 B w) :
 Calls Tryz.prog 148 #[.string s] w (Ret w (pairV (Lib.itoa ((rootN n : Nat) : Int)) 0)) := by
 have HT := hide hT
 have H1 := hide (xq s (by omega) w)
 rw [c1] at H1
 have HSR := hide (fun w2 (hb : Below w.heap.size w w2) => ybk s n B w2 c1 hs hn h0 (Nat.le_trans hB hb.size) (hT.on hb hB))
 have HRD := hide (fun w => yU s c1 w)
 have hsi := (qg c1).1
 rw [hn, Lib.itoa_nonneg] at hsi
 have hne : s.data.toList ≠ [] := by rw [hsi]; exact yw _
 obtain ⟨hp, hh⟩ := yT hne
 have hp0 : (0 : Int) < (s.size : Int) := by omega
 have h45 : ((s[0].toNat : Int) == 45) = false := by
  have h1 : s[0] ≠ 45 := fun e => by
   rw [e, hsi] at hh
   exact zU _ hh
  have : s[0].toNat ≠ 45 := fun h => h1 (UInt8.toNat_inj.1 h)
  simp only [beq_eq_false_iff_ne, ne_eq]
  omega
 have hz : (s.toList == [48]) = false := by
  rw [ByteArray.toList_eq]
  have : s.data.toList ≠ [48] := fun e => by
   have h2 := hn
   rw [e, ← yP, ym] at h2
   omega
  simpa using this
 have hl18 : (s.size : Int) ≤ 18 := by omega
 clear hsi hne hh c1 hs hn hT
 have hfd : ∀ (w : World) (m : Bool) (a : Option Addr) (n c : Nat), (Instr.field 207 (.agg #[.bool m, .slice a n c]) 1).run Tryz.prog w = .ok (.slice a n c) w := fun _ _ _ _ _ => by kernel_rfl
 go_enter Tryz.func148, Tryz.ntmps148
 go_wp2_with fail
 refine H1.out.mono ?_
 rintro e w1 ⟨rfl, hb1⟩
 have HB1 := hide hb1
 clear hb1 H1
 go_wp2_with fail
 refine (HRD.out _).mono ?_
 rintro e w2 ⟨m1, a1, l1, rfl, hb2, o1, n1, q1, k1⟩
 obtain ⟨av, cv, hvf, _, _⟩ := o1.form
 subst hvf
 have HB2 := bt HB1 hb2
 clear hb2 HRD o1 n1 q1 HB1 k1
 go_wp2_with fail
 refine (HSR.out _ HB2.out).mono ?_
 rintro e w3 ⟨rfl, hb3⟩
 have HB3 := bt HB2 hb3
 clear hb3 HSR HB2
 go_wp2_with fail
 refine bodyPost_ret (results_tmp2 rfl _ _ _) rfl ?_
 exact ⟨rfl, HB3.out⟩
end Go.Proofs.YtklgpilgalfckaaGreatDoor
