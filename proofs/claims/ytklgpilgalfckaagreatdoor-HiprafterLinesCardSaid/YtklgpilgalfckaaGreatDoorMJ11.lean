/-
  Texts laid together.
-/
import Derived.Test.YtklgpilgalfckaaGreatDoorMJ10
import Derived.Test.YtklgpilgalfckaaGreatDoorMJ9
import Derived.Test.YtklgpilgalfckaaGreatDoorMJ5
import Derived.Laws.StructEq
set_option maxRecDepth 100000
set_option maxHeartbeats 8000000
namespace Go.Proofs.YtklgpilgalfckaaGreatDoor
open Go.RowKit Go.KP Go.KI Go.Shelf
attribute [local go_sem] Oper.semAt_some

theorem hasMinus (l : List UInt8) : Lib.hasPrefix l [45] = decide (l.head? = some 45) := by
  cases l with
  | nil => rfl
  | cons c r =>
    by_cases h : c = 45
    · subst h
      simp [Lib.hasPrefix, List.isPrefixOf]
    · simp [Lib.hasPrefix, List.isPrefixOf, h, Ne.symm h]
theorem hasMinus_any {s : ByteArray} {z : Int} (h : s.data.toList = Lib.itoa z) (w : World) :
    Calls Tryz.prog 151 #[.string s, .string ⟨#[45]⟩] w fun e w' => e = .returned (.bool (decide (z < 0))) ∧ w = w' :=
  (Tryz.strings_HasPrefix s ⟨#[45]⟩ w).mono fun e w' ⟨he, hw⟩ => ⟨by
    rw [he, h]
    have : Lib.hasPrefix (Lib.itoa z) (⟨#[45]⟩ : ByteArray).data.toList = decide (z < 0) := by
      show Lib.hasPrefix (Lib.itoa z) [45] = _
      rw [hasMinus]
      exact decide_eq_decide.2 (itoa_head z)
    rw [this], hw.symm⟩
theorem fits_div {n : Int} {g : Nat} (h : fits n) (_ : 0 < g) : fits (n / (g : Int)) := fits_of_le h (Int.natAbs_ediv_le_natAbs _ _)
theorem fdiv_ex {n : Int} {g : Nat} (h : (g : Int) ∣ n) (hg : 0 < g) : n.fdiv (g : Int) = n / (g : Int) ∧ n.fmod (g : Int) = 0 := by
  refine ⟨Int.fdiv_eq_ediv_of_nonneg _ (by omega), ?_⟩
  rw [Int.fmod_eq_emod_of_nonneg _ (by omega)]
  exact Int.emod_eq_zero_of_dvd h
theorem qnumber_any {s t : ByteArray} {n d : Int} (h1 : s.data.toList = Lib.itoa n) (h2 : t.data.toList = Lib.itoa d) (f1 : fits n) (f2 : fits d) (h0 : d ≠ 0) (B : Nat) (w : World) (hB : B ≤ w.heap.size) (hT : P10 B w) :
    Calls Tryz.prog 124 #[.string s, .string t] w (Ret w (pairV (ratS (Rat.divInt n d)) 0)) := by
  have HT := hide hT
  have hss := fits_size h1 f1
  have hts := fits_size h2 f2
  have fneg : ∀ {z : Int}, fits z → fits (-z) := fun h => fits_of_le h (by rw [Int.natAbs_neg]; exact Nat.le_refl _)
  obtain ⟨N, D, S, T, hND, e1, e2, hD, g1, g2, hsign⟩ : ∃ (N : Int) (D : Nat) (S T : ByteArray), Rat.divInt n d = Rat.divInt N D ∧ S.data.toList = Lib.itoa N ∧ T.data.toList = Lib.itoa (D : Int) ∧ 0 < D ∧ fits N ∧ fits (D : Int) ∧ ((decide (d < 0) = true ∧ N = -n ∧ (D : Int) = -d) ∨ (decide (d < 0) = false ∧ S = s ∧ T = t)) := by
    rcases Int.lt_or_lt_of_ne h0 with h | h
    · have e : ((d.natAbs : Nat) : Int) = -d := by omega
      exact ⟨-n, d.natAbs, strB (Lib.itoa (-n)), strB (Lib.itoa (-d)), by rw [e, Rat.neg_divInt_neg], strB_list _, by rw [strB_list, e], by omega, fneg f1, by rw [e]; exact fneg f2, .inl ⟨by simpa using h, rfl, e⟩⟩
    · have e : ((d.natAbs : Nat) : Int) = d := by omega
      exact ⟨n, d.natAbs, s, t, by rw [e], h1, by rw [e]; exact h2, by omega, f1, by rw [e]; exact f2, .inr ⟨by rw [decide_eq_false_iff_not]; omega, rfl, rfl⟩⟩
  rw [hND]
  have HM := hide (fun w => hasMinus_any h2 w)
  have HOP := hide (fun (a : N = -n) (b : (D : Int) = -d) => (And.intro (fun w => opposite_any h1 (by rw [e1, a]) (by omega) w) (fun w => opposite_any h2 (by rw [e2, b]) (by omega) w) : (∀ w, Calls Tryz.prog 177 #[.string s] w fun e w' => e = .returned (.string S) ∧ w = w') ∧ (∀ w, Calls Tryz.prog 177 #[.string t] w fun e w' => e = .returned (.string T) ∧ w = w')))
  obtain ⟨g, hg⟩ : ∃ g, g = Nat.gcd N.natAbs D := ⟨_, rfl⟩
  have hgp : 0 < g := by rw [hg]; exact Nat.gcd_pos_of_pos_right _ hD
  have hgn : (g : Int) ∣ N := by rw [hg]; exact Int.ofNat_dvd_left.2 (Nat.gcd_dvd_left _ _)
  have hgd : (g : Int) ∣ (D : Int) := by rw [hg]; exact Int.ofNat_dvd.2 (Nat.gcd_dvd_right _ _)
  have fg : fits (g : Int) := fits_of_le g2 (by rw [Int.natAbs_natCast, Int.natAbs_natCast, hg]; exact Nat.gcd_le_right _ hD)
  obtain ⟨G, hG⟩ : ∃ G, G = strB (Lib.itoa (g : Int)) := ⟨_, rfl⟩
  have hGl : G.data.toList = Lib.itoa (g : Int) := by rw [hG, strB_list]
  have HG := hide (fun w hB hT => Gcd_to (r := G) e1 e2 (by rw [Int.natAbs_natCast, ← hg]; exact hGl) g1 g2 B w hB hT)
  obtain ⟨Nq, hNq⟩ : ∃ Nq : Int, Nq = N / (g : Int) := ⟨_, rfl⟩
  obtain ⟨Dq, hDq⟩ : ∃ Dq : Int, Dq = (D : Int) / (g : Int) := ⟨_, rfl⟩
  obtain ⟨A, hA⟩ : ∃ A, A = strB (Lib.itoa Nq) := ⟨_, rfl⟩
  obtain ⟨C, hC⟩ : ∃ C, C = strB (Lib.itoa Dq) := ⟨_, rfl⟩
  have hAl : A.data.toList = Lib.itoa Nq := by rw [hA, strB_list]
  have hCl : C.data.toList = Lib.itoa Dq := by rw [hC, strB_list]
  obtain ⟨x1, x2⟩ := fdiv_ex hgn hgp
  obtain ⟨x3, x4⟩ := fdiv_ex hgd hgp
  have hz : (strB (Lib.itoa 0)).data.toList = Lib.itoa 0 := strB_list _
  have HD1 := hide (fun w hB hT => Divide_to (q := A) (r := strB (Lib.itoa 0)) e1 hGl (by rw [x1, ← hNq]; exact hAl) (by rw [x2]; exact hz) g1 fg (by omega) B w hB hT)
  have HD2 := hide (fun w hB hT => Divide_to (q := C) (r := strB (Lib.itoa 0)) e2 hGl (by rw [x3, ← hDq]; exact hCl) (by rw [x4]; exact hz) g2 fg (by omega) B w hB hT)
  have fA := fits_size hAl (by rw [hNq]; exact fits_div g1 hgp)
  have fC := fits_size hCl (by rw [hDq]; exact fits_div g2 hgp)
  have v1 : (9223372036854775807 < A.size + 1) = False := eq_false (by omega)
  have v2 : (9223372036854775807 < A.size + 1 + C.size) = False := eq_false (by omega)
  have HX := hide (show ratS (Rat.divInt N D) = if Dq = 1 then Lib.itoa Nq else Lib.itoa Nq ++ 47 :: Lib.itoa Dq by
    have h := ratS_of (n := N) (d := (D : Int)) (by omega)
    rw [Int.natAbs_natCast, ← hg, ← hNq, ← hDq] at h
    exact h)
  obtain ⟨X, hX⟩ : ∃ X, X = strB (ratS (Rat.divInt N D)) := ⟨_, rfl⟩
  rw [show pairV (ratS (Rat.divInt N D)) 0 = .tuple #[.string X, .int .i64 0] by rw [hX]]
  obtain ⟨u1, u2⟩ := lit_eq (m := [49]) hGl
  obtain ⟨y1, y2⟩ := lit_eq (m := [49]) hCl
  have ho1 := itoa_is_one (g : Int)
  have ho2 := itoa_is_one Dq
  have hway1 : ((G.toList == [49]) = true ∧ S = A ∧ T = C) ∨ (G.toList == [49]) = false := by
    by_cases hg1 : g = 1
    · refine .inl ⟨u1 (ho1.2 (by omega)), bytes_eq (by rw [e1, hAl, hNq, hg1]; simp), bytes_eq (by rw [e2, hCl, hDq, hg1]; simp)⟩
    · exact .inr (u2 (fun e => hg1 (by have := ho1.1 e; omega)))
  have hway2 : ((C.toList == [49]) = true ∧ X = A) ∨ ((C.toList == [49]) = false ∧ X = A ++ ⟨#[47]⟩ ++ C) := by
    by_cases hd1 : Dq = 1
    · exact .inl ⟨y1 (ho2.2 hd1), by rw [hX, HX.out, if_pos hd1, hA]⟩
    · refine .inr ⟨y2 (fun e => hd1 (ho2.1 e)), ?_⟩
      rw [hX, HX.out, if_neg hd1]
      apply bytes_eq
      rw [strB_list]
      simp [hAl, hCl]
  have hTT : B ≤ w.heap.size := hB
  clear h1 h2 f1 f2 h0 hND e1 e2 hD g1 g2 hg hgp hgn hgd fg hG hGl hNq hDq hA hC hAl hCl x1 x2 x3 x4 hz HX hX u1 u2 y1 y2 ho1 ho2 hT fneg
  rcases hway1 with ⟨w1, w2, w3⟩ | w1
  case' inl =>
    subst w2; subst w3
  all_goals
    rcases hsign with ⟨z1, z2, z3⟩ | ⟨z1, z2, z3⟩
  all_goals try
    (have HO := hide (HOP.out z2 z3)
     clear z2 z3)
  all_goals try
    (subst z2
     subst z3)
  all_goals
    rw [z1] at HM
    clear HOP
    rcases hway2 with ⟨k1, k2⟩ | ⟨k1, k2⟩
  all_goals
    have HE := hide k2
    clear k2
    go_enter Tryz.func124, Tryz.ntmps124
    go_wp2_with fail
    refine (HM.out _).mono ?_
    rintro e w1' ⟨rfl, rfl⟩
    clear z1
    go_wp2_with fail
  all_goals try
    (refine (HO.out.1 _).mono ?_
     rintro e w1' ⟨rfl, rfl⟩
     go_wp2_with fail
     refine (HO.out.2 _).mono ?_
     rintro e w1' ⟨rfl, rfl⟩
     go_wp2_with fail)
  all_goals
    refine (HG.out _ hB HT.out).mono ?_
    rintro e w1 ⟨rfl, hb1⟩
    have HB1 := hide hb1
    clear hb1
    go_wp2_with fail
  all_goals try
    (refine (HD1.out _ (Nat.le_trans hB HB1.out.size) (HT.out.on HB1.out hB)).mono ?_
     rintro e w2 ⟨rfl, hb2⟩
     have HB2 := hide (HB1.out.trans (hb2.mono HB1.out.size))
     clear hb2
     go_wp2_with fail
     refine (HD2.out _ (Nat.le_trans hB HB2.out.size) (HT.out.on HB2.out hB)).mono ?_
     rintro e w3 ⟨rfl, hb3⟩
     have HB3 := hide (HB2.out.trans (hb3.mono HB2.out.size))
     clear hb3
     go_wp2_with fail)
  all_goals
    refine bodyPost_ret (results_tmp2 rfl _ _ _) rfl ?_
    rw [HE.out]
    first
      | exact ⟨rfl, HB3.out⟩
      | exact ⟨rfl, HB1.out⟩
open Go.RowKit Go.KP Go.KI Go.Shelf
attribute [local go_sem] Oper.semAt_some

theorem mul_yes {s t : ByteArray} {x y : Int} (h1 : s.data.toList = Lib.itoa x) (h2 : t.data.toList = Lib.itoa y) (f1 : fits x) (f2 : fits y) (f3 : fits (x * y)) (B : Nat) (w : World) (hB : B ≤ w.heap.size) (hT : P10 B w) :
    Calls Tryz.prog 132 #[.string s, .string t] w (Ret w (.tuple #[.string (strB (Lib.itoa (x * y))), .int .i64 0])) := by
  have h := Mul_good h1 h2 f1 f2 B w hB hT
  rw [show resS (x * y) = Lib.itoa (x * y) from if_pos f3, show resE (x * y) = 0 from if_pos f3] at h
  exact h
theorem mul_no {s t : ByteArray} {x y : Int} (h1 : s.data.toList = Lib.itoa x) (h2 : t.data.toList = Lib.itoa y) (f1 : fits x) (f2 : fits y) (f3 : ¬ fits (x * y)) (B : Nat) (w : World) (hB : B ≤ w.heap.size) (hT : P10 B w) :
    Calls Tryz.prog 132 #[.string s, .string t] w (Ret w (.tuple #[.string ⟨#[]⟩, .int .i64 4])) := by
  have h := Mul_good h1 h2 f1 f2 B w hB hT
  rw [show resS (x * y) = [] from if_neg f3, show resE (x * y) = 4 from if_neg f3] at h
  exact h
structure Four (s a t b : ByteArray) (x p y q : Int) : Prop where
  h1 : s.data.toList = Lib.itoa x
  h2 : a.data.toList = Lib.itoa p
  h3 : t.data.toList = Lib.itoa y
  h4 : b.data.toList = Lib.itoa q
  f1 : fits x
  f2 : fits p
  f3 : fits y
  f4 : fits q
theorem crossed_yes {s a t b : ByteArray} {x p y q : Int} (h : Four s a t b x p y q) (fu : fits (x * q)) (fv : fits (y * p)) (B : Nat) (w : World) (hB : B ≤ w.heap.size) (hT : P10 B w) :
    Calls Tryz.prog 128 #[partsV s a, partsV t b] w (Ret w (.tuple #[.string (strB (Lib.itoa (x * q))), .string (strB (Lib.itoa (y * p))), .int .i64 0])) := by
  have H1 := hide (fun w hB hT => mul_yes h.h1 h.h4 h.f1 h.f4 fu B w hB hT)
  have H2 := hide (fun w hB hT => mul_yes h.h3 h.h2 h.f3 h.f2 fv B w hB hT)
  have HT := hide hT
  have X0 := hide (heap2 w (partsO s a) (partsO t b))
  obtain ⟨U, hU⟩ : ∃ U, U = strB (Lib.itoa (x * q)) := ⟨_, rfl⟩
  obtain ⟨V, hV⟩ : ∃ U, U = strB (Lib.itoa (y * p)) := ⟨_, rfl⟩
  rw [← hU] at H1 ⊢
  rw [← hV] at H2 ⊢
  clear hU hV h fu fv hT
  go_enter Tryz.func128, Tryz.ntmps128
  go_wp2_with fail
  refine (H1.out _ (Nat.le_trans hB X0.out.2.2.2.size) (HT.out.on X0.out.2.2.2 hB)).mono ?_
  rintro e w1 ⟨rfl, hb1⟩
  have G1 := hide (below_blk hb1 X0.out.1 (lt_blk X0.out.1))
  have G2 := hide (below_blk hb1 X0.out.2.1 (lt_blk X0.out.2.1))
  have HB1 := hide (X0.out.2.2.2.trans (hb1.mono X0.out.2.2.2.size))
  have c0 := cell_blk G1.out 0
  have c1 := cell_blk G1.out 1
  have c2 := cell_blk G2.out 0
  have c3 := cell_blk G2.out 1
  clear hb1
  go_wp2_with fail
  refine (H2.out _ (Nat.le_trans hB HB1.out.size) (HT.out.on HB1.out hB)).mono ?_
  rintro e w2 ⟨rfl, hb2⟩
  have HB2 := hide (HB1.out.trans (hb2.mono HB1.out.size))
  clear hb2
  go_wp2_with fail
  go_ret3
  exact ⟨rfl, HB2.out⟩
def CrossBad (w : World) (e : Ending) (w2 : World) : Prop := ∃ u v : ByteArray, e = .returned (.tuple #[.string u, .string v, .int .i64 4]) ∧ Below w.heap.size w w2
theorem crossed_no {s a t b : ByteArray} {x p y q : Int} (h : Four s a t b x p y q) (hn : ¬ (fits (x * q) ∧ fits (y * p))) (B : Nat) (w : World) (hB : B ≤ w.heap.size) (hT : P10 B w) :
    Calls Tryz.prog 128 #[partsV s a, partsV t b] w (CrossBad w) := by
  have HT := hide hT
  have X0 := hide (heap2 w (partsO s a) (partsO t b))
  by_cases fu : fits (x * q)
  · have H1 := hide (fun w hB hT => mul_yes h.h1 h.h4 h.f1 h.f4 fu B w hB hT)
    have H2 := hide (fun w hB hT => mul_no h.h3 h.h2 h.f3 h.f2 (fun e => hn ⟨fu, e⟩) B w hB hT)
    obtain ⟨U, hU⟩ : ∃ U, U = strB (Lib.itoa (x * q)) := ⟨_, rfl⟩
    rw [← hU] at H1
    clear hU h fu hn hT
    go_enter Tryz.func128, Tryz.ntmps128
    go_wp2_with fail
    refine (H1.out _ (Nat.le_trans hB X0.out.2.2.2.size) (HT.out.on X0.out.2.2.2 hB)).mono ?_
    rintro e w1 ⟨rfl, hb1⟩
    have G1 := hide (below_blk hb1 X0.out.1 (lt_blk X0.out.1))
    have G2 := hide (below_blk hb1 X0.out.2.1 (lt_blk X0.out.2.1))
    have HB1 := hide (X0.out.2.2.2.trans (hb1.mono X0.out.2.2.2.size))
    have c0 := cell_blk G1.out 0
    have c1 := cell_blk G1.out 1
    have c2 := cell_blk G2.out 0
    have c3 := cell_blk G2.out 1
    clear hb1
    go_wp2_with fail
    refine (H2.out _ (Nat.le_trans hB HB1.out.size) (HT.out.on HB1.out hB)).mono ?_
    rintro e w2 ⟨rfl, hb2⟩
    have HB2 := hide (HB1.out.trans (hb2.mono HB1.out.size))
    clear hb2
    go_wp2_with fail
    go_ret3
    exact ⟨_, _, rfl, HB2.out⟩
  · have H1 := hide (fun w hB hT => mul_no h.h1 h.h4 h.f1 h.f4 fu B w hB hT)
    clear h fu hn hT
    go_enter Tryz.func128, Tryz.ntmps128
    go_wp2_with fail
    refine (H1.out _ (Nat.le_trans hB X0.out.2.2.2.size) (HT.out.on X0.out.2.2.2 hB)).mono ?_
    rintro e w1 ⟨rfl, hb1⟩
    have HB1 := hide (X0.out.2.2.2.trans (hb1.mono X0.out.2.2.2.size))
    clear hb1
    go_wp2_with fail
    go_ret3
    exact ⟨_, _, rfl, HB1.out⟩
open Go.RowKit Go.KP Go.KI Go.Shelf
attribute [local go_sem] Oper.semAt_some

structure IntFn (g : Nat) (f : Int → Int → Int) : Prop where
  enters : ∀ args w, (callFunc g args).run Tryz.prog w = .ok (.enter g args) w
  calls : ∀ (s t : ByteArray) (x y : Int) (B : Nat) (w : World), s.data.toList = Lib.itoa x → t.data.toList = Lib.itoa y → fits x → fits y → B ≤ w.heap.size → P10 B w →
    Calls Tryz.prog g #[.string s, .string t] w (Ret w (pairV (resS (f x y)) (resE (f x y))))
theorem op_call {f : Int → Int → Int} {s t : ByteArray} {x y : Int} (h1 : s.data.toList = Lib.itoa x) (h2 : t.data.toList = Lib.itoa y) (f1 : fits x) (f2 : fits y) :
    s.size ≤ 1000000 ∧ t.size ≤ 1000000 ∧ op2S f s.data.toList t.data.toList = resS (f x y) ∧ op2E f s.data.toList t.data.toList = resE (f x y) := by
  have c1 : chkI s.data.toList = 0 := by rw [h1]; exact chk_fits f1
  have c2 : chkI t.data.toList = 0 := by rw [h2]; exact chk_fits f2
  obtain ⟨_, _, e1, e2⟩ := op2_good (f := f) (show bothI s.data.toList t.data.toList = 0 by unfold bothI; rw [if_pos c1, c2])
  rw [e1, e2, h1, h2, val_itoa, val_itoa]
  have := fits_size h1 f1
  have := fits_size h2 f2
  exact ⟨by omega, by omega, rfl, rfl⟩
theorem subI : IntFn 116 (· - ·) := by
  refine ⟨enters_of Tryz.func116 (by kernel_rfl) rfl, fun s t x y B w h1 h2 f1 f2 hB hT => ?_⟩
  obtain ⟨l1, l2, e1, e2⟩ := op_call (f := (· - ·)) h1 h2 f1 f2
  rw [← e1, ← e2]
  exact Sub_any s t B w l1 l2 hB hT
def combC (f : Int → Int → Int) (x p y q : Int) : Prop := (fits (x * q) ∧ fits (y * p)) ∧ fits (f (x * q) (y * p)) ∧ fits (p * q)
instance (f : Int → Int → Int) (x p y q : Int) : Decidable (combC f x p y q) := inferInstanceAs (Decidable (_ ∧ _ ∧ _))
theorem combined_any {g : Nat} {f : Int → Int → Int} (hg : IntFn g f) {s a t b : ByteArray} {x p y q : Int} (h : Four s a t b x p y q) (h0 : p * q ≠ 0) (bx : Nat) (T : TypeId) (B : Nat) (w : World) (hb : w.heap[bx]? = some (.cells #[.func (.func g) #[] #[]] T (0, 0))) (hB : B ≤ w.heap.size) (hT : P10 B w) :
    Calls Tryz.prog 166 #[partsV s a, partsV t b, .pointer (some ⟨bx, 0, none⟩)] w (Ret w (pairV (if combC f x p y q then ratS (Rat.divInt (f (x * q) (y * p)) (p * q)) else []) (if combC f x p y q then 0 else 4))) := by
  have HT := hide hT
  have X0 := hide (heap2 w (partsO s a) (partsO t b))
  have hbl := lt_blk hb
  have HBX := hide hb
  by_cases hc : fits (x * q) ∧ fits (y * p)
  · have HC := hide (fun w hB hT => crossed_yes h hc.1 hc.2 B w hB hT)
    have HO := hide (fun w hB hT => hg.calls _ _ (x * q) (y * p) B w (strB_list _) (strB_list _) hc.1 hc.2 hB hT)
    have hen := hg.enters
    obtain ⟨U, hU⟩ : ∃ U, U = strB (Lib.itoa (x * q)) := ⟨_, rfl⟩
    obtain ⟨V, hV⟩ : ∃ U, U = strB (Lib.itoa (y * p)) := ⟨_, rfl⟩
    rw [← hU, ← hV] at HC HO
    by_cases hf : fits (f (x * q) (y * p))
    · rw [show resS (f (x * q) (y * p)) = Lib.itoa (f (x * q) (y * p)) from if_pos hf, show resE (f (x * q) (y * p)) = 0 from if_pos hf] at HO
      obtain ⟨N, hN⟩ : ∃ U, U = strB (Lib.itoa (f (x * q) (y * p))) := ⟨_, rfl⟩
      have HO : Hid (∀ w, B ≤ w.heap.size → P10 B w → Calls Tryz.prog g #[.string U, .string V] w (Ret w (.tuple #[.string N, .int .i64 0]))) := hide (by rw [hN]; exact HO.out)
      have hNl : N.data.toList = Lib.itoa (f (x * q) (y * p)) := by rw [hN, strB_list]
      by_cases hd : fits (p * q)
      · have HM := hide (fun w hB hT => mul_yes h.h2 h.h4 h.f2 h.f4 hd B w hB hT)
        obtain ⟨D, hD⟩ : ∃ U, U = strB (Lib.itoa (p * q)) := ⟨_, rfl⟩
        rw [← hD] at HM
        have HN := hide (fun w hB hT => qnumber_any (t := D) hNl (by rw [hD, strB_list]) hf hd h0 B w hB hT)
        have hcc : combC f x p y q := ⟨hc, hf, hd⟩
        rw [if_pos hcc, if_pos hcc]
        obtain ⟨X, hX⟩ : ∃ X, X = strB (ratS (Rat.divInt (f (x * q) (y * p)) (p * q))) := ⟨_, rfl⟩
        rw [show pairV (ratS (Rat.divInt (f (x * q) (y * p)) (p * q))) 0 = .tuple #[.string X, .int .i64 0] by rw [hX]] at HN ⊢
        clear hcc hU hV hN hNl hD hX hc hf hd h h0 hg hT
        go_enter Tryz.func166, Tryz.ntmps166
        go_wp2_with fail
        refine (HC.out _ (Nat.le_trans hB X0.out.2.2.2.size) (HT.out.on X0.out.2.2.2 hB)).mono ?_
        rintro e w1 ⟨rfl, hb1⟩
        have G0 := hide (below_blk hb1 ((below_blk X0.out.2.2.2 HBX.out hbl)) (Nat.lt_of_lt_of_le hbl X0.out.2.2.2.size))
        have G1 := hide (below_blk hb1 X0.out.1 (lt_blk X0.out.1))
        have G2 := hide (below_blk hb1 X0.out.2.1 (lt_blk X0.out.2.1))
        have HB1 := hide (X0.out.2.2.2.trans (hb1.mono X0.out.2.2.2.size))
        have cx := cell_blk G0.out 0
        clear hb1
        go_wp2_with fail
        refine (HO.out _ (Nat.le_trans hB HB1.out.size) (HT.out.on HB1.out hB)).mono ?_
        rintro e w2 ⟨rfl, hb2⟩
        have G3 := hide (below_blk hb2 G1.out (lt_blk G1.out))
        have G4 := hide (below_blk hb2 G2.out (lt_blk G2.out))
        have HB2 := hide (HB1.out.trans (hb2.mono HB1.out.size))
        have c1 := cell_blk G3.out 1
        have c3 := cell_blk G4.out 1
        clear hb2 cx
        go_wp2_with fail
        refine (HM.out _ (Nat.le_trans hB HB2.out.size) (HT.out.on HB2.out hB)).mono ?_
        rintro e w3 ⟨rfl, hb3⟩
        have HB3 := hide (HB2.out.trans (hb3.mono HB2.out.size))
        clear hb3 c1 c3
        go_wp2_with fail
        refine (HN.out _ (Nat.le_trans hB HB3.out.size) (HT.out.on HB3.out hB)).mono ?_
        rintro e w4 ⟨rfl, hb4⟩
        have HB4 := hide (HB3.out.trans (hb4.mono HB3.out.size))
        clear hb4
        go_wp2_with fail
        refine bodyPost_ret (results_tmp2 rfl _ _ _) rfl ?_
        exact ⟨rfl, HB4.out⟩
      · have HM := hide (fun w hB hT => mul_no h.h2 h.h4 h.f2 h.f4 hd B w hB hT)
        have hcc : ¬ combC f x p y q := fun e => hd e.2.2
        rw [if_neg hcc, if_neg hcc]
        rw [show pairV [] 4 = .tuple #[.string ⟨#[]⟩, .int .i64 4] from rfl]
        clear hcc hU hV hN hNl hc hf hd h h0 hg hT
        go_enter Tryz.func166, Tryz.ntmps166
        go_wp2_with fail
        refine (HC.out _ (Nat.le_trans hB X0.out.2.2.2.size) (HT.out.on X0.out.2.2.2 hB)).mono ?_
        rintro e w1 ⟨rfl, hb1⟩
        have G0 := hide (below_blk hb1 ((below_blk X0.out.2.2.2 HBX.out hbl)) (Nat.lt_of_lt_of_le hbl X0.out.2.2.2.size))
        have G1 := hide (below_blk hb1 X0.out.1 (lt_blk X0.out.1))
        have G2 := hide (below_blk hb1 X0.out.2.1 (lt_blk X0.out.2.1))
        have HB1 := hide (X0.out.2.2.2.trans (hb1.mono X0.out.2.2.2.size))
        have cx := cell_blk G0.out 0
        clear hb1
        go_wp2_with fail
        refine (HO.out _ (Nat.le_trans hB HB1.out.size) (HT.out.on HB1.out hB)).mono ?_
        rintro e w2 ⟨rfl, hb2⟩
        have G3 := hide (below_blk hb2 G1.out (lt_blk G1.out))
        have G4 := hide (below_blk hb2 G2.out (lt_blk G2.out))
        have HB2 := hide (HB1.out.trans (hb2.mono HB1.out.size))
        have c1 := cell_blk G3.out 1
        have c3 := cell_blk G4.out 1
        clear hb2 cx
        go_wp2_with fail
        refine (HM.out _ (Nat.le_trans hB HB2.out.size) (HT.out.on HB2.out hB)).mono ?_
        rintro e w3 ⟨rfl, hb3⟩
        have HB3 := hide (HB2.out.trans (hb3.mono HB2.out.size))
        clear hb3 c1 c3
        go_wp2_with fail
        refine bodyPost_ret (results_tmp2 rfl _ _ _) rfl ?_
        exact ⟨rfl, HB3.out⟩
    · rw [show resS (f (x * q) (y * p)) = [] from if_neg hf, show resE (f (x * q) (y * p)) = 4 from if_neg hf] at HO
      have HO : Hid (∀ w, B ≤ w.heap.size → P10 B w → Calls Tryz.prog g #[.string U, .string V] w (Ret w (.tuple #[.string ⟨#[]⟩, .int .i64 4]))) := hide HO.out
      have hcc : ¬ combC f x p y q := fun e => hf e.2.1
      rw [if_neg hcc, if_neg hcc]
      rw [show pairV [] 4 = .tuple #[.string ⟨#[]⟩, .int .i64 4] from rfl]
      clear hcc hU hV hc hf h h0 hg hT
      go_enter Tryz.func166, Tryz.ntmps166
      go_wp2_with fail
      refine (HC.out _ (Nat.le_trans hB X0.out.2.2.2.size) (HT.out.on X0.out.2.2.2 hB)).mono ?_
      rintro e w1 ⟨rfl, hb1⟩
      have G0 := hide (below_blk hb1 ((below_blk X0.out.2.2.2 HBX.out hbl)) (Nat.lt_of_lt_of_le hbl X0.out.2.2.2.size))
      have HB1 := hide (X0.out.2.2.2.trans (hb1.mono X0.out.2.2.2.size))
      have cx := cell_blk G0.out 0
      clear hb1
      go_wp2_with fail
      refine (HO.out _ (Nat.le_trans hB HB1.out.size) (HT.out.on HB1.out hB)).mono ?_
      rintro e w2 ⟨rfl, hb2⟩
      have HB2 := hide (HB1.out.trans (hb2.mono HB1.out.size))
      clear hb2 cx
      go_wp2_with fail
      refine bodyPost_ret (results_tmp2 rfl _ _ _) rfl ?_
      exact ⟨rfl, HB2.out⟩
  · have HC := hide (fun w hB hT => crossed_no h hc B w hB hT)
    have hcc : ¬ combC f x p y q := fun e => hc e.1
    rw [if_neg hcc, if_neg hcc]
    rw [show pairV [] 4 = .tuple #[.string ⟨#[]⟩, .int .i64 4] from rfl]
    clear hcc hc h h0 hg hT
    go_enter Tryz.func166, Tryz.ntmps166
    go_wp2_with fail
    refine (HC.out _ (Nat.le_trans hB X0.out.2.2.2.size) (HT.out.on X0.out.2.2.2 hB)).mono ?_
    rintro e w1 ⟨u, v, rfl, hb1⟩
    have HB1 := hide (X0.out.2.2.2.trans (hb1.mono X0.out.2.2.2.size))
    clear hb1
    go_wp2_with fail
    refine bodyPost_ret (results_tmp2 rfl _ _ _) rfl ?_
    exact ⟨rfl, HB1.out⟩
open Go.RowKit Go.KP Go.KI Go.Shelf
attribute [local go_sem] Oper.semAt_some

structure NatFn (f : Nat) (A C : Int → Int → Int → Int → Int) : Prop where
  enters : ∀ args w, (callFunc f args).run Tryz.prog w = .ok (.enter f args) w
  calls : ∀ (a b c d : Int) (w : World), a.natAbs < 100000000 → b.natAbs < 100000000 → c.natAbs < 100000000 → d.natAbs < 100000000 → Calls Tryz.prog f #[natV a b, natV c d] w (Ret w (natV (A a b c d) (C a b c d)))
theorem mul_i64 {a b : Int} (ha : a.natAbs < 100000000) (hb : b.natAbs < 100000000) : (a * b).natAbs < 10000000000000000 ∧ IntKind.i64.wrap (a * b) = a * b := by
  have h : (a * b).natAbs < 10000000000000000 := by
    rw [Int.natAbs_mul]
    have := Nat.mul_lt_mul'' ha hb
    omega
  exact ⟨h, IntWalk.i64_in _ (by omega)⟩
theorem exit_nat {f : Func} {R : Ending → World → Prop} {a : Act} {W : World} {b : Nat} {n d : Int} (hf : f.results = #[.cell 4 164]) (hb : W.heap[b]? = some (natO n d)) (h2 : a.tmps[4]? = some (.pointer (some ⟨b, 0, none⟩))) (hd : a.defers = []) (hR : R (.returned (natV n d)) W) :
    bodyPost Tryz.prog f R .ret a W := by
  have hcell := fun o => cell_blk hb o
  refine bodyPost_ret ?_ hd hR
  simp [results, hf, go_sem, hcell, h2]
theorem subFn : NatFn 113 (fun a b c d => a * d - c * b) (fun _ b _ d => b * d) := by
  refine ⟨enters_of Tryz.func113 (by kernel_rfl) rfl, fun a b c d w ha hb hc hd => ?_⟩
  obtain ⟨m1, e1⟩ := mul_i64 ha hd
  obtain ⟨m2, e2⟩ := mul_i64 hc hb
  obtain ⟨m3, e3⟩ := mul_i64 hb hd
  have e4 : IntKind.i64.wrap (a * d - c * b) = a * d - c * b := IntWalk.i64_in _ (by omega)
  clear m1 m2 m3
  clear ha hb hc hd
  go_enter Tryz.func113, Tryz.ntmps113
  go_wp2_with fail
  have h3 := heap3 w (natO a b) (natO c d) (natO (a * d - c * b) (b * d))
  exact exit_nat rfl h3.2.2.1 (by rfl) (by rfl) ⟨rfl, h3.2.2.2.2⟩
theorem mulFn : NatFn 130 (fun a _ c _ => a * c) (fun _ b _ d => b * d) := by
  refine ⟨enters_of Tryz.func130 (by kernel_rfl) rfl, fun a b c d w ha hb hc hd => ?_⟩
  obtain ⟨m1, e1⟩ := mul_i64 ha hc
  obtain ⟨m3, e3⟩ := mul_i64 hb hd
  clear m1 m3
  clear ha hb hc hd
  go_enter Tryz.func130, Tryz.ntmps130
  go_wp2_with fail
  have h3 := heap3 w (natO a b) (natO c d) (natO (a * c) (b * d))
  exact exit_nat rfl h3.2.2.1 (by rfl) (by rfl) ⟨rfl, h3.2.2.2.2⟩
theorem quick_no (s t : ByteArray) (hs : s.size ≤ 1000000) (ht : t.size ≤ 1000000) (f : Nat) (h : ¬ (natQ s.data.toList ∧ natQ t.data.toList)) (w : World) :
    Calls Tryz.prog 112 #[.string s, .string t, .func (.func f) #[] #[]] w (Ret w (.tuple #[.string ⟨#[]⟩, .bool false])) := by
  have H1 := hide (nativeOf_any s hs w)
  have H2 := hide (fun w => nativeOf_any t ht w)
  by_cases h1 : natQ s.data.toList
  · rw [natOV_yes h1] at H1
    rw [natOV_no (fun e => h ⟨h1, e⟩)] at H2
    clear h h1
    go_enter Tryz.func112, Tryz.ntmps112
    go_wp2_with fail
    refine H1.out.mono ?_
    rintro e w1 ⟨rfl, hb1⟩
    have HB1 := hide (hb1.trans ((heap1 w1 (natO (valQ s.data.toList).num ((valQ s.data.toList).den : Nat))).2.2.mono hb1.size))
    clear hb1
    go_wp2_with fail
    refine (H2.out _).mono ?_
    rintro e w2 ⟨rfl, hb2⟩
    have HB2 := hide (HB1.out.trans (hb2.mono HB1.out.size))
    clear hb2
    go_wp2_with fail
    refine bodyPost_ret (results_tmp2 rfl _ _ _) rfl ?_
    exact ⟨rfl, HB2.out.trans ((heap1 w2 _).2.2.mono HB2.out.size)⟩
  · rw [natOV_no h1] at H1
    clear h h1 H2
    go_enter Tryz.func112, Tryz.ntmps112
    go_wp2_with fail
    refine H1.out.mono ?_
    rintro e w1 ⟨rfl, hb1⟩
    have HB1 := hide hb1
    clear hb1
    go_wp2_with fail
    refine bodyPost_ret (results_tmp2 rfl _ _ _) rfl ?_
    exact ⟨rfl, HB1.out.trans ((heap1 w1 _).2.2.mono HB1.out.size)⟩
theorem quick_yes (s t : ByteArray) (hs : s.size ≤ 1000000) (ht : t.size ≤ 1000000) (f : Nat) {A C : Int → Int → Int → Int → Int} (hf : NatFn f A C) (h1 : natQ s.data.toList) (h2 : natQ t.data.toList) {n d : Int} (hn : A (valQ s.data.toList).num (valQ s.data.toList).den (valQ t.data.toList).num (valQ t.data.toList).den = n) (hd : C (valQ s.data.toList).num (valQ s.data.toList).den (valQ t.data.toList).num (valQ t.data.toList).den = d)
    (n1 : n.natAbs < 100000000000000000) (d1 : d.natAbs < 100000000000000000) (d0 : d ≠ 0) (B : Nat) (w : World) (hB : B ≤ w.heap.size) (hT : P10 B w) :
    Calls Tryz.prog 112 #[.string s, .string t, .func (.func f) #[] #[]] w (Ret w (.tuple #[.string (strB (ratS (Rat.divInt n d))), .bool true])) := by
  have H1 := hide (nativeOf_any s hs w)
  have H2 := hide (fun w => nativeOf_any t ht w)
  rw [natOV_yes h1] at H1
  rw [natOV_yes h2] at H2
  obtain ⟨a1, a2, _⟩ := natQ_lt h1
  obtain ⟨b1, b2, _⟩ := natQ_lt h2
  have HF := hide (fun w => hf.calls _ _ _ _ w a1 (show ((valQ s.data.toList).den : Int).natAbs < 100000000 by rw [Int.natAbs_natCast]; exact a2) b1 (show ((valQ t.data.toList).den : Int).natAbs < 100000000 by rw [Int.natAbs_natCast]; exact b2))
  rw [hn, hd] at HF
  have hen := hf.enters
  have HT := hide hT
  have HN := hide (fun w hB hT => nnumber_any n d n1 d1 d0 B w hB hT)
  obtain ⟨p, hp⟩ : ∃ p : Int, p = (valQ s.data.toList).num := ⟨_, rfl⟩
  obtain ⟨q, hq⟩ : ∃ p : Int, p = ((valQ s.data.toList).den : Int) := ⟨_, rfl⟩
  obtain ⟨u, hu⟩ : ∃ p : Int, p = (valQ t.data.toList).num := ⟨_, rfl⟩
  obtain ⟨v, hv⟩ : ∃ p : Int, p = ((valQ t.data.toList).den : Int) := ⟨_, rfl⟩
  rw [← hp, ← hq] at H1 HF
  rw [← hu, ← hv] at H2 HF
  obtain ⟨X, hX⟩ : ∃ X, X = strB (ratS (Rat.divInt n d)) := ⟨_, rfl⟩
  rw [← hX] at HN ⊢
  clear hn hd hp hq hu hv hX h1 h2 a1 a2 b1 b2 hf n1 d1 d0 hT
  go_enter Tryz.func112, Tryz.ntmps112
  go_wp2_with fail
  refine H1.out.mono ?_
  rintro e w1 ⟨rfl, hb1⟩
  have X1 := hide (heap1 w1 (natO p q))
  have HB1 := hide (hb1.trans (X1.out.2.2.mono hb1.size))
  clear hb1
  go_wp2_with fail
  refine (H2.out _).mono ?_
  rintro e w2 ⟨rfl, hb2⟩
  have G2 := hide (below_blk hb2 X1.out.1 (lt_blk X1.out.1))
  have HB2 := hide (HB1.out.trans (hb2.mono HB1.out.size))
  have X2 := hide (heap1 w2 (natO u v))
  have HB2b := hide (HB2.out.trans (X2.out.2.2.mono HB2.out.size))
  have c0 := cell_blk G2.out 0
  have c1 := cell_blk G2.out 1
  have hl := lt_blk G2.out
  clear hb2
  go_wp2_with fail
  refine (HF.out _).mono ?_
  rintro e w3 ⟨rfl, hb3⟩
  have HB3 := hide (HB2b.out.trans (hb3.mono HB2b.out.size))
  clear hb3 c0 c1
  go_wp2_with fail
  refine (HN.out _ (Nat.le_trans hB HB3.out.size) (HT.out.on HB3.out hB)).mono ?_
  rintro e w4 ⟨rfl, hb4⟩
  have HB4 := hide (HB3.out.trans (hb4.mono HB3.out.size))
  clear hb4
  go_wp2_with fail
  refine bodyPost_ret (results_tmp2 rfl _ _ _) rfl ?_
  exact ⟨rfl, HB4.out⟩
open Go.RowKit Go.KP Go.KI Go.Shelf
attribute [local go_sem] Oper.semAt_some

theorem pairV_err (z : Int) : pairV [] z = .tuple #[.string ⟨#[]⟩, .int .i64 z] := rfl
theorem mul2_any {s a t b : ByteArray} {x p y q : Int} (h : Four s a t b x p y q) (h0 : p * q ≠ 0) (B : Nat) (w : World) (hB : B ≤ w.heap.size) (hT : P10 B w) :
    Calls Tryz.prog 131 #[partsV s a, partsV t b] w (Ret w (pairV (if fits (x * y) ∧ fits (p * q) then ratS (Rat.divInt (x * y) (p * q)) else []) (if fits (x * y) ∧ fits (p * q) then 0 else 4))) := by
  have HT := hide hT
  have X0 := hide (heap2 w (partsO s a) (partsO t b))
  by_cases hf : fits (x * y)
  · have HO := hide (fun w hB hT => mul_yes h.h1 h.h3 h.f1 h.f3 hf B w hB hT)
    obtain ⟨N, hN⟩ : ∃ U, U = strB (Lib.itoa (x * y)) := ⟨_, rfl⟩
    have hNl : N.data.toList = Lib.itoa (x * y) := by rw [hN, strB_list]
    rw [← hN] at HO
    by_cases hd : fits (p * q)
    · have HM := hide (fun w hB hT => mul_yes h.h2 h.h4 h.f2 h.f4 hd B w hB hT)
      obtain ⟨D, hD⟩ : ∃ U, U = strB (Lib.itoa (p * q)) := ⟨_, rfl⟩
      rw [← hD] at HM
      have HN := hide (fun w hB hT => qnumber_any (t := D) hNl (by rw [hD, strB_list]) hf hd h0 B w hB hT)
      rw [if_pos ⟨hf, hd⟩, if_pos ⟨hf, hd⟩]
      obtain ⟨X, hX⟩ : ∃ X, X = strB (ratS (Rat.divInt (x * y) (p * q))) := ⟨_, rfl⟩
      rw [show pairV (ratS (Rat.divInt (x * y) (p * q))) 0 = .tuple #[.string X, .int .i64 0] by rw [hX]] at HN ⊢
      clear hN hNl hD hX hf hd h h0 hT
      go_enter Tryz.func131, Tryz.ntmps131
      go_wp2_with fail
      refine (HO.out _ (Nat.le_trans hB X0.out.2.2.2.size) (HT.out.on X0.out.2.2.2 hB)).mono ?_
      rintro e w1 ⟨rfl, hb1⟩
      have G1 := hide (below_blk hb1 X0.out.1 (lt_blk X0.out.1))
      have G2 := hide (below_blk hb1 X0.out.2.1 (lt_blk X0.out.2.1))
      have HB1 := hide (X0.out.2.2.2.trans (hb1.mono X0.out.2.2.2.size))
      have c1 := cell_blk G1.out 1
      have c3 := cell_blk G2.out 1
      clear hb1
      go_wp2_with fail
      refine (HM.out _ (Nat.le_trans hB HB1.out.size) (HT.out.on HB1.out hB)).mono ?_
      rintro e w3 ⟨rfl, hb3⟩
      have HB3 := hide (HB1.out.trans (hb3.mono HB1.out.size))
      clear hb3 c1 c3
      go_wp2_with fail
      refine (HN.out _ (Nat.le_trans hB HB3.out.size) (HT.out.on HB3.out hB)).mono ?_
      rintro e w4 ⟨rfl, hb4⟩
      have HB4 := hide (HB3.out.trans (hb4.mono HB3.out.size))
      clear hb4
      go_wp2_with fail
      refine bodyPost_ret (results_tmp2 rfl _ _ _) rfl ?_
      exact ⟨rfl, HB4.out⟩
    · have HM := hide (fun w hB hT => mul_no h.h2 h.h4 h.f2 h.f4 hd B w hB hT)
      rw [if_neg (fun e => hd e.2), if_neg (fun e => hd e.2), pairV_err]
      clear hN hNl hf hd h h0 hT
      go_enter Tryz.func131, Tryz.ntmps131
      go_wp2_with fail
      refine (HO.out _ (Nat.le_trans hB X0.out.2.2.2.size) (HT.out.on X0.out.2.2.2 hB)).mono ?_
      rintro e w1 ⟨rfl, hb1⟩
      have G1 := hide (below_blk hb1 X0.out.1 (lt_blk X0.out.1))
      have G2 := hide (below_blk hb1 X0.out.2.1 (lt_blk X0.out.2.1))
      have HB1 := hide (X0.out.2.2.2.trans (hb1.mono X0.out.2.2.2.size))
      have c1 := cell_blk G1.out 1
      have c3 := cell_blk G2.out 1
      clear hb1
      go_wp2_with fail
      refine (HM.out _ (Nat.le_trans hB HB1.out.size) (HT.out.on HB1.out hB)).mono ?_
      rintro e w3 ⟨rfl, hb3⟩
      have HB3 := hide (HB1.out.trans (hb3.mono HB1.out.size))
      clear hb3 c1 c3
      go_wp2_with fail
      refine bodyPost_ret (results_tmp2 rfl _ _ _) rfl ?_
      exact ⟨rfl, HB3.out⟩
  · have HO := hide (fun w hB hT => mul_no h.h1 h.h3 h.f1 h.f3 hf B w hB hT)
    rw [if_neg (fun e => hf e.1), if_neg (fun e => hf e.1), pairV_err]
    clear hf h h0 hT
    go_enter Tryz.func131, Tryz.ntmps131
    go_wp2_with fail
    refine (HO.out _ (Nat.le_trans hB X0.out.2.2.2.size) (HT.out.on X0.out.2.2.2 hB)).mono ?_
    rintro e w1 ⟨rfl, hb1⟩
    have HB1 := hide (X0.out.2.2.2.trans (hb1.mono X0.out.2.2.2.size))
    clear hb1
    go_wp2_with fail
    refine bodyPost_ret (results_tmp2 rfl _ _ _) rfl ?_
    exact ⟨rfl, HB1.out⟩
abbrev boxF (g : Nat) : Obj := .cells #[.func (.func g) #[] #[]] 169
def CombRet (g : Nat) (w : World) (e : Ending) (w2 : World) : Prop := e = .returned (.func (.func 166) #[] #[.pointer (some ⟨w.heap.size, 0, none⟩)]) ∧ w2 = w.alloc (boxF g)
theorem makeComb_any (g : Nat) (w : World) :
    Calls Tryz.prog 115 #[.func (.func g) #[] #[]] w (CombRet g w) := by
  have hmf : ∀ (fn : Fn) (first cap : Array Value) (w : World), (Instr.makeFunc fn first cap).run Tryz.prog w = .ok (.func fn first cap) w := fun _ _ _ _ => rfl
  go_enter Tryz.func115, Tryz.ntmps115
  go_wp2_with fail
  go_ret
  exact ⟨rfl, rfl⟩
open Go.RowKit Go.KP Go.KI Go.Shelf
attribute [local go_sem] Oper.semAt_some

def qopS (C : Rat → Rat → Prop) [∀ x y, Decidable (C x y)] (f : Rat → Rat → Rat) (a b : List UInt8) : List UInt8 := if bothQ a b = 0 then (if C (valQ a) (valQ b) then ratS (f (valQ a) (valQ b)) else []) else []
def qopE (C : Rat → Rat → Prop) [∀ x y, Decidable (C x y)] (a b : List UInt8) : Int := if bothQ a b = 0 then (if C (valQ a) (valQ b) then 0 else 4) else bothQ a b
theorem bothQ_zero {a b : List UInt8} (h : bothQ a b = 0) : chkQ a = 0 ∧ chkQ b = 0 := by
  unfold bothQ at h
  by_cases h1 : chkQ a = 0
  · rw [if_pos h1] at h
    exact ⟨h1, h⟩
  · rw [if_neg h1] at h
    exact absurd h h1
theorem zero_bothQ {a b : List UInt8} (h1 : chkQ a = 0) (h2 : chkQ b = 0) : bothQ a b = 0 := by unfold bothQ; rw [if_pos h1, h2]
theorem four_of {a b : List UInt8} (h1 : chkQ a = 0) (h2 : chkQ b = 0) : Four (strB (Lib.itoa (valQ a).num)) (strB (Lib.itoa ((valQ a).den : Int))) (strB (Lib.itoa (valQ b).num)) (strB (Lib.itoa ((valQ b).den : Int))) (valQ a).num ((valQ a).den : Int) (valQ b).num ((valQ b).den : Int) := by
  obtain ⟨_, f1, _, _⟩ := chkQ_ok h1
  obtain ⟨_, f2, _, _⟩ := chkQ_ok h2
  exact ⟨strB_list _, strB_list _, strB_list _, strB_list _, f1.1, f1.2, f2.1, f2.2⟩
theorem most8 : 8 + 8 + 1 ≤ most := by rw [most_eq]; omega
theorem den_i (x : Rat) : (x.den : Int) ≠ 0 := den_ne x
theorem quick_nums {a b : List UInt8} (h1 : natQ a) (h2 : natQ b) : ((valQ a).num * ((valQ b).den : Int)).natAbs < 10000000000000000 ∧ ((valQ b).num * ((valQ a).den : Int)).natAbs < 10000000000000000 ∧ (((valQ a).den : Int) * ((valQ b).den : Int)).natAbs < 10000000000000000 ∧ ((valQ a).num * (valQ b).num).natAbs < 10000000000000000 ∧ (((valQ a).den : Int) * (valQ b).num).natAbs < 10000000000000000 := by
  obtain ⟨a1, a2, _⟩ := natQ_lt h1
  obtain ⟨b1, b2, _⟩ := natQ_lt h2
  have a3 : ((valQ a).den : Int).natAbs < 100000000 := by rw [Int.natAbs_natCast]; exact a2
  have b3 : ((valQ b).den : Int).natAbs < 100000000 := by rw [Int.natAbs_natCast]; exact b2
  exact ⟨(mul_i64 a1 b3).1, (mul_i64 b1 a3).1, (mul_i64 a3 b3).1, (mul_i64 a1 b1).1, (mul_i64 a3 b1).1⟩
theorem subC_iff (x y : Rat) : combC (· - ·) x.num (x.den : Int) y.num (y.den : Int) ↔ subC x y :=
  ⟨fun h => ⟨h.1.1, h.1.2, h.2.1, h.2.2⟩, fun h => ⟨⟨h.1, h.2.1⟩, h.2.2.1, h.2.2.2⟩⟩
theorem qSub_any (s t : ByteArray) (hs : s.size ≤ 1000000) (ht : t.size ≤ 1000000) (B : Nat) (w : World) (hB : B ≤ w.heap.size) (hT : PQ B w) :
    Calls Tryz.prog 62 #[.string s, .string t] w (Ret w (pairV (qopS subC (· - ·) s.data.toList t.data.toList) (qopE subC s.data.toList t.data.toList))) := by
  have HT := hide hT
  by_cases hq : natQ s.data.toList ∧ natQ t.data.toList
  · obtain ⟨k1, k2, k3, _, _⟩ := quick_nums hq.1 hq.2
    have hb := zero_bothQ hq.1.1 hq.2.1
    have hc : subC (valQ s.data.toList) (valQ t.data.toList) := subC_of (natQ_sz hq.1) (natQ_sz hq.2) most8
    have e1 : qopS subC (· - ·) s.data.toList t.data.toList = ratS (valQ s.data.toList - valQ t.data.toList) := by unfold qopS; rw [if_pos hb, if_pos hc]
    have e2 : qopE subC s.data.toList t.data.toList = 0 := by unfold qopE; rw [if_pos hb, if_pos hc]
    rw [e1, e2]
    have HQ := hide (quick_yes s t hs ht 113 subFn hq.1 hq.2 rfl rfl (by omega) (by omega) (Int.mul_ne_zero (den_i _) (den_i _)) B w hB hT.p10)
    rw [divInt_sub] at HQ
    obtain ⟨X, hX⟩ : ∃ X, X = strB (ratS (valQ s.data.toList - valQ t.data.toList)) := ⟨_, rfl⟩
    rw [show pairV (ratS (valQ s.data.toList - valQ t.data.toList)) 0 = .tuple #[.string X, .int .i64 0] by rw [hX]]
    rw [← hX] at HQ
    clear hX e1 e2 hc hb k1 k2 k3 hq hT
    go_enter Tryz.func62, Tryz.ntmps62
    go_wp2_with fail
    refine HQ.out.mono ?_
    rintro e w1 ⟨rfl, hb1⟩
    have HB1 := hide hb1
    clear hb1
    go_wp2_with fail
    refine bodyPost_ret (results_tmp2 rfl _ _ _) rfl ?_
    exact ⟨rfl, HB1.out⟩
  · have HQ := hide (quick_no s t hs ht 113 hq w)
    have key : ∀ W bx, Below w.heap.size w W → W.heap[bx]? = some (boxF 116) → Calls Tryz.prog 114 #[.string s, .string t, .func (.func 166) #[] #[.pointer (some ⟨bx, 0, none⟩)]] W (Ret W (pairV (qopS subC (· - ·) s.data.toList t.data.toList) (qopE subC s.data.toList t.data.toList))) := by
      intro W bx hW hbx
      have hBW := Nat.le_trans hB hW.size
      by_cases hb : bothQ s.data.toList t.data.toList = 0
      · obtain ⟨c1, c2⟩ := bothQ_zero hb
        have h4 := four_of c1 c2
        refine qboth_good s t hs ht 166 _ c1 c2 (enters_of Tryz.func166 (by kernel_rfl) rfl) _ _ B W hBW (HT.out.on hW hB) ?_
        intro W2 hW2
        have h := combined_any subI h4 (Int.mul_ne_zero (den_i _) (den_i _)) bx _ B W2 (below_blk hW2 hbx (lt_blk hbx)) (Nat.le_trans hBW hW2.size) ((HT.out.p10.on hW hB).on hW2 hBW)
        unfold qopS qopE
        rw [if_pos hb, if_pos hb]
        by_cases hc : subC (valQ s.data.toList) (valQ t.data.toList)
        · rw [if_pos (((subC_iff _ _).2 hc)), if_pos (((subC_iff _ _).2 hc)), divInt_sub] at h
          rw [if_pos hc, if_pos hc]
          exact h
        · rw [if_neg (fun e => hc ((subC_iff _ _).1 e)), if_neg (fun e => hc ((subC_iff _ _).1 e))] at h
          rw [if_neg hc, if_neg hc]
          exact h
      · unfold qopS qopE
        rw [if_neg hb, if_neg hb]
        exact qboth_bad s t hs ht _ hb B W hBW (HT.out.on hW hB)
    have HK := hide key
    obtain ⟨X, hX⟩ : ∃ X, X = strB (qopS subC (· - ·) s.data.toList t.data.toList) := ⟨_, rfl⟩
    obtain ⟨E, hE⟩ : ∃ E, E = qopE subC s.data.toList t.data.toList := ⟨_, rfl⟩
    rw [show pairV (qopS subC (· - ·) s.data.toList t.data.toList) (qopE subC s.data.toList t.data.toList) = .tuple #[.string X, .int .i64 E] by rw [hX, hE]] at HK ⊢
    clear key hX hE hq hT
    go_enter Tryz.func62, Tryz.ntmps62
    go_wp2_with fail
    refine HQ.out.mono ?_
    rintro e w1 ⟨rfl, hb1⟩
    have HB1 := hide hb1
    clear hb1
    go_wp2_with fail
    refine (makeComb_any _ _).mono ?_
    rintro e w2 ⟨rfl, rfl⟩
    have X1 := hide (heap1 w1 (boxF 116))
    have HB2 := hide (HB1.out.trans (X1.out.2.2.mono HB1.out.size))
    go_wp2_with fail
    refine (HK.out _ _ HB2.out X1.out.1).mono ?_
    rintro e w3 ⟨rfl, hb3⟩
    have HB3 := hide (HB2.out.trans (hb3.mono HB2.out.size))
    clear hb3
    go_wp2_with fail
    refine bodyPost_ret (results_tmp2 rfl _ _ _) rfl ?_
    exact ⟨rfl, HB3.out⟩
theorem qMul_any (s t : ByteArray) (hs : s.size ≤ 1000000) (ht : t.size ≤ 1000000) (B : Nat) (w : World) (hB : B ≤ w.heap.size) (hT : PQ B w) :
    Calls Tryz.prog 79 #[.string s, .string t] w (Ret w (pairV (qopS mulC (· * ·) s.data.toList t.data.toList) (qopE mulC s.data.toList t.data.toList))) := by
  have HT := hide hT
  by_cases hq : natQ s.data.toList ∧ natQ t.data.toList
  · obtain ⟨_, _, k3, k4, _⟩ := quick_nums hq.1 hq.2
    have hb := zero_bothQ hq.1.1 hq.2.1
    have hc : mulC (valQ s.data.toList) (valQ t.data.toList) := mulC_of (natQ_sz hq.1) (natQ_sz hq.2) (by rw [most_eq]; omega)
    have e1 : qopS mulC (· * ·) s.data.toList t.data.toList = ratS (valQ s.data.toList * valQ t.data.toList) := by unfold qopS; rw [if_pos hb, if_pos hc]
    have e2 : qopE mulC s.data.toList t.data.toList = 0 := by unfold qopE; rw [if_pos hb, if_pos hc]
    rw [e1, e2]
    have HQ := hide (quick_yes s t hs ht 130 mulFn hq.1 hq.2 rfl rfl (by omega) (by omega) (Int.mul_ne_zero (den_i _) (den_i _)) B w hB hT.p10)
    rw [divInt_mul] at HQ
    obtain ⟨X, hX⟩ : ∃ X, X = strB (ratS (valQ s.data.toList * valQ t.data.toList)) := ⟨_, rfl⟩
    rw [show pairV (ratS (valQ s.data.toList * valQ t.data.toList)) 0 = .tuple #[.string X, .int .i64 0] by rw [hX]]
    rw [← hX] at HQ
    clear hX e1 e2 hc hb k3 k4 hq hT
    go_enter Tryz.func79, Tryz.ntmps79
    go_wp2_with fail
    refine HQ.out.mono ?_
    rintro e w1 ⟨rfl, hb1⟩
    have HB1 := hide hb1
    clear hb1
    go_wp2_with fail
    refine bodyPost_ret (results_tmp2 rfl _ _ _) rfl ?_
    exact ⟨rfl, HB1.out⟩
  · have HQ := hide (quick_no s t hs ht 130 hq w)
    have key : ∀ W, Below w.heap.size w W → Calls Tryz.prog 114 #[.string s, .string t, .func (.func 131) #[] #[]] W (Ret W (pairV (qopS mulC (· * ·) s.data.toList t.data.toList) (qopE mulC s.data.toList t.data.toList))) := by
      intro W hW
      have hBW := Nat.le_trans hB hW.size
      by_cases hb : bothQ s.data.toList t.data.toList = 0
      · obtain ⟨c1, c2⟩ := bothQ_zero hb
        have h4 := four_of c1 c2
        refine qboth_good s t hs ht 131 #[] c1 c2 (enters_of Tryz.func131 (by kernel_rfl) rfl) _ _ B W hBW (HT.out.on hW hB) ?_
        intro W2 hW2
        have h := mul2_any h4 (Int.mul_ne_zero (den_i _) (den_i _)) B W2 (Nat.le_trans hBW hW2.size) ((HT.out.p10.on hW hB).on hW2 hBW)
        unfold qopS qopE
        rw [if_pos hb, if_pos hb]
        rw [divInt_mul] at h
        exact h
      · unfold qopS qopE
        rw [if_neg hb, if_neg hb]
        exact qboth_bad s t hs ht _ hb B W hBW (HT.out.on hW hB)
    have HK := hide key
    obtain ⟨X, hX⟩ : ∃ X, X = strB (qopS mulC (· * ·) s.data.toList t.data.toList) := ⟨_, rfl⟩
    obtain ⟨E, hE⟩ : ∃ E, E = qopE mulC s.data.toList t.data.toList := ⟨_, rfl⟩
    rw [show pairV (qopS mulC (· * ·) s.data.toList t.data.toList) (qopE mulC s.data.toList t.data.toList) = .tuple #[.string X, .int .i64 E] by rw [hX, hE]] at HK ⊢
    clear key hX hE hq hT
    go_enter Tryz.func79, Tryz.ntmps79
    go_wp2_with fail
    refine HQ.out.mono ?_
    rintro e w1 ⟨rfl, hb1⟩
    have HB1 := hide hb1
    clear hb1
    go_wp2_with fail
    refine (HK.out _ HB1.out).mono ?_
    rintro e w3 ⟨rfl, hb3⟩
    have HB3 := hide (HB1.out.trans (hb3.mono HB1.out.size))
    clear hb3
    go_wp2_with fail
    refine bodyPost_ret (results_tmp2 rfl _ _ _) rfl ?_
    exact ⟨rfl, HB3.out⟩
open Go.RowKit Go.KP Go.KI Go.Shelf
attribute [local go_sem] Oper.semAt_some

theorem qCheck_any (s : ByteArray) (hs : s.size ≤ 1000000) (B : Nat) (w : World) (hB : B ≤ w.heap.size) (hT : PQ B w) :
    Calls Tryz.prog 89 #[.string s] w (Ret w (.int .i64 (chkQ s.data.toList))) := by
  have H1 := hide (qread_any s hs B w hB hT)
  by_cases h : chkQ s.data.toList = 0
  · rw [readV_good h] at H1
    rw [h]
    obtain ⟨n, hn⟩ : ∃ n, n = strB (Lib.itoa (valQ s.data.toList).num) := ⟨_, rfl⟩
    obtain ⟨d, hd⟩ : ∃ d, d = strB (Lib.itoa ((valQ s.data.toList).den : Int)) := ⟨_, rfl⟩
    rw [← hn, ← hd] at H1
    clear hn hd h
    go_enter Tryz.func89, Tryz.ntmps89
    go_wp2_with fail
    refine H1.out.mono ?_
    rintro e w1 ⟨rfl, hb1⟩
    have HB1 := hide hb1
    clear hb1
    go_wp2_with fail
    go_ret
    exact ⟨rfl, HB1.out.trans ((heap1 w1 _).2.2.mono HB1.out.size)⟩
  · rw [readV_bad h] at H1
    obtain ⟨E, hE⟩ : ∃ E, E = chkQ s.data.toList := ⟨_, rfl⟩
    rw [← hE] at H1 ⊢
    clear h hE
    go_enter Tryz.func89, Tryz.ntmps89
    go_wp2_with fail
    refine H1.out.mono ?_
    rintro e w1 ⟨rfl, hb1⟩
    have HB1 := hide hb1
    clear hb1
    go_wp2_with fail
    go_ret
    exact ⟨rfl, HB1.out.trans ((heap1 w1 _).2.2.mono HB1.out.size)⟩
def partsR (l : List UInt8) : Value := if chkQ l = 0 then tripV (Lib.itoa (valQ l).num) (Lib.itoa ((valQ l).den : Int)) 0 else tripV [] [] (chkQ l)
theorem qParts_any (s : ByteArray) (hs : s.size ≤ 1000000) (B : Nat) (w : World) (hB : B ≤ w.heap.size) (hT : PQ B w) :
    Calls Tryz.prog 119 #[.string s] w (Ret w (partsR s.data.toList)) := by
  have H1 := hide (qread_any s hs B w hB hT)
  have hk : ∃ (n d : ByteArray) (z : Int), readV s.data.toList = .tuple #[partsV n d, .int .i64 z] ∧ partsR s.data.toList = .tuple #[.string n, .string d, .int .i64 z] := by
    by_cases h : chkQ s.data.toList = 0
    · exact ⟨_, _, _, readV_good h, if_pos h⟩
    · exact ⟨_, _, _, readV_bad h, if_neg h⟩
  obtain ⟨n, d, z, e1, e2⟩ := hk
  rw [e1] at H1
  rw [e2]
  clear e1 e2
  go_enter Tryz.func119, Tryz.ntmps119
  go_wp2_with fail
  refine H1.out.mono ?_
  rintro e w1 ⟨rfl, hb1⟩
  have HB1 := hide (hb1.trans ((heap1 w1 (partsO n d)).2.2.mono hb1.size))
  clear hb1
  go_wp2_with fail
  go_quiet (fail)
  go_wp2_with fail
  go_ret3
  exact ⟨rfl, below_drewN HB1.out _⟩
open Go.RowKit Go.KP Go.KI Go.Shelf
attribute [local go_sem] Oper.semAt_some

def cmpI (x y : Rat) : Int := Lib.compareInt (x.num * y.den) (y.num * x.den)
def cmpN (a b : List UInt8) : Int := if bothQ a b = 0 then (if cmpC (valQ a) (valQ b) then cmpI (valQ a) (valQ b) else 0) else 0
def cmpE (a b : List UInt8) : Int := if bothQ a b = 0 then (if cmpC (valQ a) (valQ b) then 0 else 4) else bothQ a b
abbrev cmpV2 (n e : Int) : Value := .tuple #[.int .i64 n, .int .i64 e]
theorem qCompare_any (s t : ByteArray) (hs : s.size ≤ 1000000) (ht : t.size ≤ 1000000) (B : Nat) (w : World) (hB : B ≤ w.heap.size) (hT : PQ B w) :
    Calls Tryz.prog 77 #[.string s, .string t] w (Ret w (cmpV2 (cmpN s.data.toList t.data.toList) (cmpE s.data.toList t.data.toList))) := by
  have HT := hide hT
  have HN1 := hide (nativeOf_any s hs w)
  have HN2 := hide (fun w => nativeOf_any t ht w)
  by_cases hq : natQ s.data.toList ∧ natQ t.data.toList
  · obtain ⟨k1, k2, _, _, _⟩ := quick_nums hq.1 hq.2
    have hb := zero_bothQ hq.1.1 hq.2.1
    have hc : cmpC (valQ s.data.toList) (valQ t.data.toList) := cmpC_of (natQ_sz hq.1) (natQ_sz hq.2) (by rw [most_eq]; omega)
    have e1 : cmpN s.data.toList t.data.toList = cmpI (valQ s.data.toList) (valQ t.data.toList) := by unfold cmpN; rw [if_pos hb, if_pos hc]
    have e2 : cmpE s.data.toList t.data.toList = 0 := by unfold cmpE; rw [if_pos hb, if_pos hc]
    rw [e1, e2]
    rw [natOV_yes hq.1] at HN1
    rw [natOV_yes hq.2] at HN2
    unfold cmpI
    obtain ⟨x, hx⟩ : ∃ x, x = (valQ s.data.toList).num := ⟨_, rfl⟩
    obtain ⟨p, hp⟩ : ∃ y, y = ((valQ s.data.toList).den : Int) := ⟨_, rfl⟩
    obtain ⟨y, hy⟩ : ∃ x, x = (valQ t.data.toList).num := ⟨_, rfl⟩
    obtain ⟨q, hq1⟩ : ∃ y, y = ((valQ t.data.toList).den : Int) := ⟨_, rfl⟩
    rw [← hx, ← hp] at HN1
    rw [← hy, ← hq1] at HN2
    rw [← hx, ← hq1] at k1
    rw [← hy, ← hp] at k2
    rw [← hx, ← hp, ← hy, ← hq1]
    have m1 : IntKind.i64.wrap (x * q) = x * q := IntWalk.i64_in _ (by omega)
    have m2 : IntKind.i64.wrap (y * p) = y * p := IntWalk.i64_in _ (by omega)
    obtain ⟨R, hR⟩ : ∃ R, R = Lib.compareInt (x * q) (y * p) := ⟨_, rfl⟩
    have HC := hide (fun w => Tryz.cmp_Compare_int (x * q) (y * p) w)
    rw [← hR] at HC ⊢
    clear hx hp hy hq1 k1 k2 hb hc e1 e2 hR hq hT
    go_enter Tryz.func77, Tryz.ntmps77
    go_wp2_with fail
    refine HN1.out.mono ?_
    rintro e w1 ⟨rfl, hb1⟩
    have X1 := hide (heap1 w1 (natO x p))
    have HB1 := hide (hb1.trans (X1.out.2.2.mono hb1.size))
    clear hb1
    go_wp2_with fail
    refine (HN2.out _).mono ?_
    rintro e w2 ⟨rfl, hb2⟩
    have G2 := hide (below_blk hb2 X1.out.1 (lt_blk X1.out.1))
    have HB2 := hide (HB1.out.trans (hb2.mono HB1.out.size))
    have X2 := hide (heap1 w2 (natO y q))
    have HB2b := hide (HB2.out.trans (X2.out.2.2.mono HB2.out.size))
    have c0 := cell_blk G2.out 0
    have c1 := cell_blk G2.out 1
    have hl := lt_blk G2.out
    clear hb2
    go_wp2_with fail
    refine (HC.out _).mono ?_
    rintro e w3 ⟨rfl, rfl⟩
    go_wp2_with fail
    refine bodyPost_ret (results_tmp2 rfl _ _ _) rfl ?_
    exact ⟨rfl, HB2b.out⟩
  · -- the parts are read
    have HR1 := hide (fun w hB hT => qread_any s hs B w hB hT)
    have HR2 := hide (fun w hB hT => qread_any t ht B w hB hT)
    have hway : (natQ s.data.toList ∧ ¬ natQ t.data.toList) ∨ ¬ natQ s.data.toList := by
      by_cases h1 : natQ s.data.toList
      · exact .inl ⟨h1, fun e => hq ⟨h1, e⟩⟩
      · exact .inr h1
    have hk : (chkQ s.data.toList ≠ 0 ∧ cmpN s.data.toList t.data.toList = 0 ∧ cmpE s.data.toList t.data.toList = chkQ s.data.toList) ∨
        (chkQ s.data.toList = 0 ∧ chkQ t.data.toList ≠ 0 ∧ cmpN s.data.toList t.data.toList = 0 ∧ cmpE s.data.toList t.data.toList = chkQ t.data.toList) ∨
        (chkQ s.data.toList = 0 ∧ chkQ t.data.toList = 0 ∧ ¬ cmpC (valQ s.data.toList) (valQ t.data.toList) ∧ cmpN s.data.toList t.data.toList = 0 ∧ cmpE s.data.toList t.data.toList = 4) ∨
        (chkQ s.data.toList = 0 ∧ chkQ t.data.toList = 0 ∧ cmpC (valQ s.data.toList) (valQ t.data.toList) ∧ cmpN s.data.toList t.data.toList = cmpI (valQ s.data.toList) (valQ t.data.toList) ∧ cmpE s.data.toList t.data.toList = 0) := by
      unfold cmpN cmpE
      by_cases h1 : chkQ s.data.toList = 0
      · by_cases h2 : chkQ t.data.toList = 0
        · have hb := zero_bothQ h1 h2
          by_cases h3 : cmpC (valQ s.data.toList) (valQ t.data.toList)
          · exact .inr (.inr (.inr ⟨h1, h2, h3, by rw [if_pos hb, if_pos h3], by rw [if_pos hb, if_pos h3]⟩))
          · exact .inr (.inr (.inl ⟨h1, h2, h3, by rw [if_pos hb, if_neg h3], by rw [if_pos hb, if_neg h3]⟩))
        · have hb : bothQ s.data.toList t.data.toList = chkQ t.data.toList := if_pos h1
          exact .inr (.inl ⟨h1, h2, by rw [hb, if_neg h2], by rw [hb, if_neg h2]⟩)
      · have hb : bothQ s.data.toList t.data.toList = chkQ s.data.toList := if_neg h1
        exact .inl ⟨h1, by rw [hb, if_neg h1], by rw [hb, if_neg h1]⟩
    have HY1 := hide (fun (h : natQ s.data.toList) => natOV_yes h)
    have HNN1 := hide (fun (h : ¬ natQ s.data.toList) => natOV_no h)
    have HNN2 := hide (fun (h : ¬ natQ t.data.toList) => natOV_no h)
    rcases hk with ⟨h1, e1, e2⟩ | ⟨h1, h2, e1, e2⟩ | ⟨h1, h2, h3, e1, e2⟩ | ⟨h1, h2, h3, e1, e2⟩
    · rw [e1, e2]
      rw [readV_bad h1] at HR1
      have hne : (chkQ s.data.toList != 0) = true := by simpa using h1
      obtain ⟨E, hE⟩ : ∃ E, E = chkQ s.data.toList := ⟨_, rfl⟩
      rw [← hE] at HR1 hne ⊢
      clear hE h1 e1 e2 hq hT
      rcases hway with ⟨n1, n2⟩ | n1
      · rw [HY1.out n1] at HN1
        rw [HNN2.out n2] at HN2
        clear n1 n2
        obtain ⟨x, hx⟩ : ∃ x, x = (valQ s.data.toList).num := ⟨_, rfl⟩
        obtain ⟨p, hp⟩ : ∃ y, y = ((valQ s.data.toList).den : Int) := ⟨_, rfl⟩
        rw [← hx, ← hp] at HN1
        clear hx hp
        go_enter Tryz.func77, Tryz.ntmps77
        go_wp2_with fail
        refine HN1.out.mono ?_
        rintro e w1 ⟨rfl, hb1⟩
        have HB1 := hide (hb1.trans ((heap1 w1 (natO x p)).2.2.mono hb1.size))
        clear hb1
        go_wp2_with fail
        refine (HN2.out _).mono ?_
        rintro e w2 ⟨rfl, hb2⟩
        have HB2 := hide (HB1.out.trans (hb2.mono HB1.out.size))
        have HB2b := hide (HB2.out.trans ((heap1 w2 (natO 0 0)).2.2.mono HB2.out.size))
        clear hb2
        go_wp2_with fail
        refine (HR1.out _ (Nat.le_trans hB HB2b.out.size) (HT.out.on HB2b.out hB)).mono ?_
        rintro e w3 ⟨rfl, hb3⟩
        have HB3 := hide (HB2b.out.trans (hb3.mono HB2b.out.size))
        clear hb3
        go_wp2_with fail
        refine bodyPost_ret (results_tmp2 rfl _ _ _) rfl ?_
        exact ⟨rfl, HB3.out.trans ((heap1 w3 _).2.2.mono HB3.out.size)⟩
      · rw [HNN1.out n1] at HN1
        clear n1
        go_enter Tryz.func77, Tryz.ntmps77
        go_wp2_with fail
        refine HN1.out.mono ?_
        rintro e w1 ⟨rfl, hb1⟩
        have HB2b := hide (hb1.trans ((heap1 w1 (natO 0 0)).2.2.mono hb1.size))
        clear hb1
        go_wp2_with fail
        refine (HR1.out _ (Nat.le_trans hB HB2b.out.size) (HT.out.on HB2b.out hB)).mono ?_
        rintro e w3 ⟨rfl, hb3⟩
        have HB3 := hide (HB2b.out.trans (hb3.mono HB2b.out.size))
        clear hb3
        go_wp2_with fail
        refine bodyPost_ret (results_tmp2 rfl _ _ _) rfl ?_
        exact ⟨rfl, HB3.out.trans ((heap1 w3 _).2.2.mono HB3.out.size)⟩
    · rw [e1, e2]
      rw [readV_good h1] at HR1
      rw [readV_bad h2] at HR2
      have hne : (chkQ t.data.toList != 0) = true := by simpa using h2
      obtain ⟨E, hE⟩ : ∃ E, E = chkQ t.data.toList := ⟨_, rfl⟩
      rw [← hE] at HR2 hne ⊢
      obtain ⟨n, hn⟩ : ∃ n, n = strB (Lib.itoa (valQ s.data.toList).num) := ⟨_, rfl⟩
      obtain ⟨d, hd⟩ : ∃ d, d = strB (Lib.itoa ((valQ s.data.toList).den : Int)) := ⟨_, rfl⟩
      rw [← hn, ← hd] at HR1
      clear hE h1 h2 e1 e2 hq hT hn hd
      rcases hway with ⟨n1, n2⟩ | n1
      · rw [HY1.out n1] at HN1
        rw [HNN2.out n2] at HN2
        clear n1 n2
        obtain ⟨x, hx⟩ : ∃ x, x = (valQ s.data.toList).num := ⟨_, rfl⟩
        obtain ⟨p, hp⟩ : ∃ y, y = ((valQ s.data.toList).den : Int) := ⟨_, rfl⟩
        rw [← hx, ← hp] at HN1
        clear hx hp
        go_enter Tryz.func77, Tryz.ntmps77
        go_wp2_with fail
        refine HN1.out.mono ?_
        rintro e w1 ⟨rfl, hb1⟩
        have HB1 := hide (hb1.trans ((heap1 w1 (natO x p)).2.2.mono hb1.size))
        clear hb1
        go_wp2_with fail
        refine (HN2.out _).mono ?_
        rintro e w2 ⟨rfl, hb2⟩
        have HB2 := hide (HB1.out.trans (hb2.mono HB1.out.size))
        have HB2b := hide (HB2.out.trans ((heap1 w2 (natO 0 0)).2.2.mono HB2.out.size))
        clear hb2
        go_wp2_with fail
        refine (HR1.out _ (Nat.le_trans hB HB2b.out.size) (HT.out.on HB2b.out hB)).mono ?_
        rintro e w3 ⟨rfl, hb3⟩
        have HB3 := hide (HB2b.out.trans (hb3.mono HB2b.out.size))
        have X3 := hide (heap1 w3 (partsO n d))
        have HB3b := hide (HB3.out.trans (X3.out.2.2.mono HB3.out.size))
        clear hb3
        go_wp2_with fail
        refine (HR2.out _ (Nat.le_trans hB HB3b.out.size) (HT.out.on HB3b.out hB)).mono ?_
        rintro e w4 ⟨rfl, hb4⟩
        have G4 := hide (below_blk hb4 X3.out.1 (lt_blk X3.out.1))
        have HB4 := hide (HB3b.out.trans (hb4.mono HB3b.out.size))
        clear hb4
        go_wp2_with fail
        refine bodyPost_ret (results_tmp2 rfl _ _ _) rfl ?_
        exact ⟨rfl, HB4.out.trans ((heap1 w4 _).2.2.mono HB4.out.size)⟩
      · rw [HNN1.out n1] at HN1
        clear n1
        go_enter Tryz.func77, Tryz.ntmps77
        go_wp2_with fail
        refine HN1.out.mono ?_
        rintro e w1 ⟨rfl, hb1⟩
        have HB2b := hide (hb1.trans ((heap1 w1 (natO 0 0)).2.2.mono hb1.size))
        clear hb1
        go_wp2_with fail
        refine (HR1.out _ (Nat.le_trans hB HB2b.out.size) (HT.out.on HB2b.out hB)).mono ?_
        rintro e w3 ⟨rfl, hb3⟩
        have HB3 := hide (HB2b.out.trans (hb3.mono HB2b.out.size))
        have X3 := hide (heap1 w3 (partsO n d))
        have HB3b := hide (HB3.out.trans (X3.out.2.2.mono HB3.out.size))
        clear hb3
        go_wp2_with fail
        refine (HR2.out _ (Nat.le_trans hB HB3b.out.size) (HT.out.on HB3b.out hB)).mono ?_
        rintro e w4 ⟨rfl, hb4⟩
        have G4 := hide (below_blk hb4 X3.out.1 (lt_blk X3.out.1))
        have HB4 := hide (HB3b.out.trans (hb4.mono HB3b.out.size))
        clear hb4
        go_wp2_with fail
        refine bodyPost_ret (results_tmp2 rfl _ _ _) rfl ?_
        exact ⟨rfl, HB4.out.trans ((heap1 w4 _).2.2.mono HB4.out.size)⟩
    · rw [e1, e2]
      rw [readV_good h1] at HR1
      rw [readV_good h2] at HR2
      have HC := hide (fun w hB hT => crossed_no (four_of h1 h2) h3 B w hB hT)
      obtain ⟨n, hn⟩ : ∃ n, n = strB (Lib.itoa (valQ s.data.toList).num) := ⟨_, rfl⟩
      obtain ⟨d, hd⟩ : ∃ d, d = strB (Lib.itoa ((valQ s.data.toList).den : Int)) := ⟨_, rfl⟩
      obtain ⟨m, hm⟩ : ∃ n, n = strB (Lib.itoa (valQ t.data.toList).num) := ⟨_, rfl⟩
      obtain ⟨c, hc⟩ : ∃ d, d = strB (Lib.itoa ((valQ t.data.toList).den : Int)) := ⟨_, rfl⟩
      rw [← hn, ← hd] at HR1 HC
      rw [← hm, ← hc] at HR2 HC
      clear h1 h2 h3 e1 e2 hq hT hn hd hm hc
      rcases hway with ⟨n1, n2⟩ | n1
      · rw [HY1.out n1] at HN1
        rw [HNN2.out n2] at HN2
        clear n1 n2
        obtain ⟨x, hx⟩ : ∃ x, x = (valQ s.data.toList).num := ⟨_, rfl⟩
        obtain ⟨p, hp⟩ : ∃ y, y = ((valQ s.data.toList).den : Int) := ⟨_, rfl⟩
        rw [← hx, ← hp] at HN1
        clear hx hp
        go_enter Tryz.func77, Tryz.ntmps77
        go_wp2_with fail
        refine HN1.out.mono ?_
        rintro e w1 ⟨rfl, hb1⟩
        have HB1 := hide (hb1.trans ((heap1 w1 (natO x p)).2.2.mono hb1.size))
        clear hb1
        go_wp2_with fail
        refine (HN2.out _).mono ?_
        rintro e w2 ⟨rfl, hb2⟩
        have HB2 := hide (HB1.out.trans (hb2.mono HB1.out.size))
        have HB2b := hide (HB2.out.trans ((heap1 w2 (natO 0 0)).2.2.mono HB2.out.size))
        clear hb2
        go_wp2_with fail
        refine (HR1.out _ (Nat.le_trans hB HB2b.out.size) (HT.out.on HB2b.out hB)).mono ?_
        rintro e w3 ⟨rfl, hb3⟩
        have HB3 := hide (HB2b.out.trans (hb3.mono HB2b.out.size))
        have X3 := hide (heap1 w3 (partsO n d))
        have HB3b := hide (HB3.out.trans (X3.out.2.2.mono HB3.out.size))
        clear hb3
        go_wp2_with fail
        refine (HR2.out _ (Nat.le_trans hB HB3b.out.size) (HT.out.on HB3b.out hB)).mono ?_
        rintro e w4 ⟨rfl, hb4⟩
        have G4 := hide (below_blk hb4 X3.out.1 (lt_blk X3.out.1))
        have HB4 := hide (HB3b.out.trans (hb4.mono HB3b.out.size))
        clear hb4
        have X4 := hide (heap1 w4 (partsO m c))
        have HB4b := hide (HB4.out.trans (X4.out.2.2.mono HB4.out.size))
        have c0 := cell_blk G4.out 0
        have c1 := cell_blk G4.out 1
        have hl := lt_blk G4.out
        go_wp2_with fail
        refine (HC.out _ (Nat.le_trans hB HB4b.out.size) (HT.out.p10.on HB4b.out hB)).mono ?_
        rintro e w5 ⟨u, v, rfl, hb5⟩
        have HB5 := hide (HB4b.out.trans (hb5.mono HB4b.out.size))
        clear hb5
        go_wp2_with fail
        refine bodyPost_ret (results_tmp2 rfl _ _ _) rfl ?_
        exact ⟨rfl, HB5.out⟩
      · rw [HNN1.out n1] at HN1
        clear n1
        go_enter Tryz.func77, Tryz.ntmps77
        go_wp2_with fail
        refine HN1.out.mono ?_
        rintro e w1 ⟨rfl, hb1⟩
        have HB2b := hide (hb1.trans ((heap1 w1 (natO 0 0)).2.2.mono hb1.size))
        clear hb1
        go_wp2_with fail
        refine (HR1.out _ (Nat.le_trans hB HB2b.out.size) (HT.out.on HB2b.out hB)).mono ?_
        rintro e w3 ⟨rfl, hb3⟩
        have HB3 := hide (HB2b.out.trans (hb3.mono HB2b.out.size))
        have X3 := hide (heap1 w3 (partsO n d))
        have HB3b := hide (HB3.out.trans (X3.out.2.2.mono HB3.out.size))
        clear hb3
        go_wp2_with fail
        refine (HR2.out _ (Nat.le_trans hB HB3b.out.size) (HT.out.on HB3b.out hB)).mono ?_
        rintro e w4 ⟨rfl, hb4⟩
        have G4 := hide (below_blk hb4 X3.out.1 (lt_blk X3.out.1))
        have HB4 := hide (HB3b.out.trans (hb4.mono HB3b.out.size))
        clear hb4
        have X4 := hide (heap1 w4 (partsO m c))
        have HB4b := hide (HB4.out.trans (X4.out.2.2.mono HB4.out.size))
        have c0 := cell_blk G4.out 0
        have c1 := cell_blk G4.out 1
        have hl := lt_blk G4.out
        go_wp2_with fail
        refine (HC.out _ (Nat.le_trans hB HB4b.out.size) (HT.out.p10.on HB4b.out hB)).mono ?_
        rintro e w5 ⟨u, v, rfl, hb5⟩
        have HB5 := hide (HB4b.out.trans (hb5.mono HB4b.out.size))
        clear hb5
        go_wp2_with fail
        refine bodyPost_ret (results_tmp2 rfl _ _ _) rfl ?_
        exact ⟨rfl, HB5.out⟩
    · rw [e1, e2]
      rw [readV_good h1] at HR1
      rw [readV_good h2] at HR2
      have HC := hide (fun w hB hT => crossed_yes (four_of h1 h2) h3.1 h3.2 B w hB hT)
      unfold cmpI
      have HI := hide (fun w => Compare_good (s := strB (Lib.itoa ((valQ s.data.toList).num * ((valQ t.data.toList).den : Int)))) (t := strB (Lib.itoa ((valQ t.data.toList).num * ((valQ s.data.toList).den : Int)))) (strB_list _) (strB_list _) h3.1 h3.2 w)
      obtain ⟨n, hn⟩ : ∃ n, n = strB (Lib.itoa (valQ s.data.toList).num) := ⟨_, rfl⟩
      obtain ⟨d, hd⟩ : ∃ d, d = strB (Lib.itoa ((valQ s.data.toList).den : Int)) := ⟨_, rfl⟩
      obtain ⟨m, hm⟩ : ∃ n, n = strB (Lib.itoa (valQ t.data.toList).num) := ⟨_, rfl⟩
      obtain ⟨c, hc⟩ : ∃ d, d = strB (Lib.itoa ((valQ t.data.toList).den : Int)) := ⟨_, rfl⟩
      rw [← hn, ← hd] at HR1 HC
      rw [← hm, ← hc] at HR2 HC
      obtain ⟨U, hU⟩ : ∃ n, n = strB (Lib.itoa ((valQ s.data.toList).num * ((valQ t.data.toList).den : Int))) := ⟨_, rfl⟩
      obtain ⟨V, hV⟩ : ∃ n, n = strB (Lib.itoa ((valQ t.data.toList).num * ((valQ s.data.toList).den : Int))) := ⟨_, rfl⟩
      rw [← hU, ← hV] at HC HI
      obtain ⟨K, hK⟩ : ∃ K, K = Lib.compareInt ((valQ s.data.toList).num * ((valQ t.data.toList).den : Int)) ((valQ t.data.toList).num * ((valQ s.data.toList).den : Int)) := ⟨_, rfl⟩
      rw [← hK] at HI ⊢
      clear h1 h2 h3 e1 e2 hq hT hn hd hm hc hU hV hK
      rcases hway with ⟨n1, n2⟩ | n1
      · rw [HY1.out n1] at HN1
        rw [HNN2.out n2] at HN2
        clear n1 n2
        obtain ⟨x, hx⟩ : ∃ x, x = (valQ s.data.toList).num := ⟨_, rfl⟩
        obtain ⟨p, hp⟩ : ∃ y, y = ((valQ s.data.toList).den : Int) := ⟨_, rfl⟩
        rw [← hx, ← hp] at HN1
        clear hx hp
        go_enter Tryz.func77, Tryz.ntmps77
        go_wp2_with fail
        refine HN1.out.mono ?_
        rintro e w1 ⟨rfl, hb1⟩
        have HB1 := hide (hb1.trans ((heap1 w1 (natO x p)).2.2.mono hb1.size))
        clear hb1
        go_wp2_with fail
        refine (HN2.out _).mono ?_
        rintro e w2 ⟨rfl, hb2⟩
        have HB2 := hide (HB1.out.trans (hb2.mono HB1.out.size))
        have HB2b := hide (HB2.out.trans ((heap1 w2 (natO 0 0)).2.2.mono HB2.out.size))
        clear hb2
        go_wp2_with fail
        refine (HR1.out _ (Nat.le_trans hB HB2b.out.size) (HT.out.on HB2b.out hB)).mono ?_
        rintro e w3 ⟨rfl, hb3⟩
        have HB3 := hide (HB2b.out.trans (hb3.mono HB2b.out.size))
        have X3 := hide (heap1 w3 (partsO n d))
        have HB3b := hide (HB3.out.trans (X3.out.2.2.mono HB3.out.size))
        clear hb3
        go_wp2_with fail
        refine (HR2.out _ (Nat.le_trans hB HB3b.out.size) (HT.out.on HB3b.out hB)).mono ?_
        rintro e w4 ⟨rfl, hb4⟩
        have G4 := hide (below_blk hb4 X3.out.1 (lt_blk X3.out.1))
        have HB4 := hide (HB3b.out.trans (hb4.mono HB3b.out.size))
        clear hb4
        have X4 := hide (heap1 w4 (partsO m c))
        have HB4b := hide (HB4.out.trans (X4.out.2.2.mono HB4.out.size))
        have c0 := cell_blk G4.out 0
        have c1 := cell_blk G4.out 1
        have hl := lt_blk G4.out
        go_wp2_with fail
        refine (HC.out _ (Nat.le_trans hB HB4b.out.size) (HT.out.p10.on HB4b.out hB)).mono ?_
        rintro e w5 ⟨rfl, hb5⟩
        have HB5 := hide (HB4b.out.trans (hb5.mono HB4b.out.size))
        clear hb5
        go_wp2_with fail
        refine (HI.out _).mono ?_
        rintro e w6 ⟨rfl, hb6⟩
        have HB6 := hide (HB5.out.trans (hb6.mono HB5.out.size))
        clear hb6
        go_wp2_with fail
        refine bodyPost_ret (results_tmp2 rfl _ _ _) rfl ?_
        exact ⟨rfl, HB6.out⟩
      · rw [HNN1.out n1] at HN1
        clear n1
        go_enter Tryz.func77, Tryz.ntmps77
        go_wp2_with fail
        refine HN1.out.mono ?_
        rintro e w1 ⟨rfl, hb1⟩
        have HB2b := hide (hb1.trans ((heap1 w1 (natO 0 0)).2.2.mono hb1.size))
        clear hb1
        go_wp2_with fail
        refine (HR1.out _ (Nat.le_trans hB HB2b.out.size) (HT.out.on HB2b.out hB)).mono ?_
        rintro e w3 ⟨rfl, hb3⟩
        have HB3 := hide (HB2b.out.trans (hb3.mono HB2b.out.size))
        have X3 := hide (heap1 w3 (partsO n d))
        have HB3b := hide (HB3.out.trans (X3.out.2.2.mono HB3.out.size))
        clear hb3
        go_wp2_with fail
        refine (HR2.out _ (Nat.le_trans hB HB3b.out.size) (HT.out.on HB3b.out hB)).mono ?_
        rintro e w4 ⟨rfl, hb4⟩
        have G4 := hide (below_blk hb4 X3.out.1 (lt_blk X3.out.1))
        have HB4 := hide (HB3b.out.trans (hb4.mono HB3b.out.size))
        clear hb4
        have X4 := hide (heap1 w4 (partsO m c))
        have HB4b := hide (HB4.out.trans (X4.out.2.2.mono HB4.out.size))
        have c0 := cell_blk G4.out 0
        have c1 := cell_blk G4.out 1
        have hl := lt_blk G4.out
        go_wp2_with fail
        refine (HC.out _ (Nat.le_trans hB HB4b.out.size) (HT.out.p10.on HB4b.out hB)).mono ?_
        rintro e w5 ⟨rfl, hb5⟩
        have HB5 := hide (HB4b.out.trans (hb5.mono HB4b.out.size))
        clear hb5
        go_wp2_with fail
        refine (HI.out _).mono ?_
        rintro e w6 ⟨rfl, hb6⟩
        have HB6 := hide (HB5.out.trans (hb6.mono HB5.out.size))
        clear hb6
        go_wp2_with fail
        refine bodyPost_ret (results_tmp2 rfl _ _ _) rfl ?_
        exact ⟨rfl, HB6.out⟩
open Go.RowKit Go.KP Go.KI Go.Shelf

theorem ratS_len {x : Rat} (h : fitsQ x) : (ratS x).length ≤ 1000 := by
  have h1 := itoa_len x.num
  have h2 := fits_len.1 h.1
  have h3 := fits_nat.1 h.2
  unfold ratS
  split
  · omega
  · rw [List.length_append, List.length_cons]
    omega
theorem good_len {s : ByteArray} {x : Rat} (h : s.data.toList = ratS x) (f : fitsQ x) : s.size ≤ 1000000 := by
  have := ratS_len f
  rw [← bytes_len, h]
  omega
theorem good_val {s : ByteArray} {x : Rat} (h : s.data.toList = ratS x) (f : fitsQ x) : chkQ s.data.toList = 0 ∧ valQ s.data.toList = x := by
  rw [h, ratS_num]
  exact ⟨chkQ_fits f, rfl⟩
theorem qcmp_to {s t : ByteArray} {x y : Rat} (h1 : s.data.toList = ratS x) (h2 : t.data.toList = ratS y) (f1 : fitsQ x) (f2 : fitsQ y) (hc : cmpC x y) (B : Nat) (w : World) (hB : B ≤ w.heap.size) (hT : PQ B w) :
    Calls Tryz.prog 77 #[.string s, .string t] w (Ret w (.tuple #[.int .i64 (if x < y then -1 else if y < x then 1 else 0), .int .i64 0])) := by
  obtain ⟨a1, a2⟩ := good_val h1 f1
  obtain ⟨b1, b2⟩ := good_val h2 f2
  have h := qCompare_any s t (good_len h1 f1) (good_len h2 f2) B w hB hT
  unfold cmpN cmpE cmpI at h
  rw [if_pos (zero_bothQ a1 b1), if_pos (zero_bothQ a1 b1), a2, b2, if_pos hc, if_pos hc, cmpQ] at h
  exact h
end Go.Proofs.YtklgpilgalfckaaGreatDoor
namespace Go.KI
open Go

structure V3 where
  x : Rat
  y : Rat
  z : Rat
theorem V3.ext {a b : V3} (h1 : a.x = b.x) (h2 : a.y = b.y) (h3 : a.z = b.z) : a = b := by
  cases a
  cases b
  cases h1
  cases h2
  cases h3
  rfl
theorem V3.eq_iff {a b : V3} : a = b ↔ (a.x = b.x ∧ a.y = b.y ∧ a.z = b.z) := ⟨fun h => by rw [h]; exact ⟨rfl, rfl, rfl⟩, fun h => V3.ext h.1 h.2.1 h.2.2⟩
instance : DecidableEq V3 := fun _ _ => decidable_of_iff _ V3.eq_iff.symm
def vsub (a b : V3) : V3 := ⟨a.x - b.x, a.y - b.y, a.z - b.z⟩
def vcross (a b : V3) : V3 := ⟨a.y * b.z - a.z * b.y, a.z * b.x - a.x * b.z, a.x * b.y - a.y * b.x⟩
def szV (p : Nat) (a : V3) : Prop := sz p a.x ∧ sz p a.y ∧ sz p a.z
def fitsV (a : V3) : Prop := fitsQ a.x ∧ fitsQ a.y ∧ fitsQ a.z
theorem szV_mono {p q : Nat} {a : V3} (h : szV p a) (hp : p ≤ q) : szV q a := ⟨sz_mono h.1 hp, sz_mono h.2.1 hp, sz_mono h.2.2 hp⟩
theorem szV_fits {p : Nat} {a : V3} (h : szV p a) (hp : p ≤ most) : fitsV a := ⟨sz_fits h.1 hp, sz_fits h.2.1 hp, sz_fits h.2.2 hp⟩
theorem szV_sub {p q : Nat} {a b : V3} (ha : szV p a) (hb : szV q b) : szV (p + q + 1) (vsub a b) := ⟨sz_sub ha.1 hb.1, sz_sub ha.2.1 hb.2.1, sz_sub ha.2.2 hb.2.2⟩
def subO (x y : Rat) : Option Rat := if subC x y then some (x - y) else none
def mulO (x y : Rat) : Option Rat := if mulC x y then some (x * y) else none
theorem divInt_fits {n d : Int} (hd : 0 < d) (fn : fits n) (fd : fits d) : fitsQ (Rat.divInt n d) := by
  obtain ⟨h1, h2⟩ := divInt_parts n hd
  refine ⟨?_, ?_⟩
  · rw [h1]
    exact fits_of_le fn (Int.natAbs_ediv_le_natAbs _ _)
  · rw [h2]
    exact fits_of_le fd (Int.natAbs_ediv_le_natAbs _ _)
theorem mulC_fits {x y : Rat} (h : mulC x y) : fitsQ (x * y) := by
  rw [← divInt_mul]
  exact divInt_fits (dens_pos x y) h.1 h.2
theorem mulO_some {x y z : Rat} (h : mulO x y = some z) : z = x * y ∧ fitsQ z := by
  unfold mulO at h
  split at h
  · next c => cases h; exact ⟨rfl, mulC_fits c⟩
  · cases h
def all3 : Option Rat → Option Rat → Option Rat → Option V3
  | some x, some y, some z => some ⟨x, y, z⟩
  | _, _, _ => none
def vec2O (f : Rat → Rat → Option Rat) (a b : V3) : Option V3 := all3 (f a.x b.x) (f a.y b.y) (f a.z b.z)
def minorO (a b c d : Rat) : Option Rat := (mulO a d).bind fun p => (mulO b c).bind fun q => subO p q
def crossO (a b : V3) : Option V3 := all3 (minorO a.y a.z b.y b.z) (minorO a.z a.x b.z b.x) (minorO a.x a.y b.x b.y)
theorem subO_sz {p q : Nat} {x y : Rat} (hx : sz p x) (hy : sz q y) (h : p + q + 1 ≤ most) : subO x y = some (x - y) := if_pos (subC_of hx hy h)
theorem mulO_sz {p q : Nat} {x y : Rat} (hx : sz p x) (hy : sz q y) (h : p + q ≤ most) : mulO x y = some (x * y) := if_pos (mulC_of hx hy h)
theorem sub2_sz {p q : Nat} {a b : V3} (ha : szV p a) (hb : szV q b) (h : p + q + 1 ≤ most) : vec2O subO a b = some (vsub a b) := by
  unfold vec2O
  rw [subO_sz ha.1 hb.1 h, subO_sz ha.2.1 hb.2.1 h, subO_sz ha.2.2 hb.2.2 h]
  rfl
theorem minor_sz {p q : Nat} {a b c d : Rat} (ha : sz p a) (hb : sz p b) (hc : sz q c) (hd : sz q d) (h : p + q + (p + q) + 1 ≤ most) : minorO a b c d = some (a * d - b * c) ∧ sz (p + q + (p + q) + 1) (a * d - b * c) := by
  unfold minorO
  rw [mulO_sz ha hd (by omega)]
  show (Option.bind (mulO b c) fun q => subO (a * d) q) = _ ∧ _
  rw [mulO_sz hb hc (by omega)]
  show subO _ _ = _ ∧ _
  rw [subO_sz (sz_mul ha hd) (sz_mul hb hc) h]
  exact ⟨rfl, sz_sub (sz_mul ha hd) (sz_mul hb hc)⟩
theorem cross_sz {p q : Nat} {a b : V3} (ha : szV p a) (hb : szV q b) (h : p + q + (p + q) + 1 ≤ most) : crossO a b = some (vcross a b) ∧ szV (p + q + (p + q) + 1) (vcross a b) := by
  obtain ⟨e1, s1⟩ := minor_sz ha.2.1 ha.2.2 hb.2.1 hb.2.2 h
  obtain ⟨e2, s2⟩ := minor_sz ha.2.2 ha.1 hb.2.2 hb.1 h
  obtain ⟨e3, s3⟩ := minor_sz ha.1 ha.2.1 hb.1 hb.2.1 h
  unfold crossO
  rw [e1, e2, e3]
  exact ⟨rfl, s1, s2, s3⟩
def cmpR (x y : Rat) : Int := if x < y then -1 else if y < x then 1 else 0
def vcmp (a b : V3) : Int := if cmpR a.x b.x ≠ 0 then cmpR a.x b.x else if cmpR a.y b.y ≠ 0 then cmpR a.y b.y else cmpR a.z b.z
open Go

def vzero : V3 := ⟨0, 0, 0⟩
end Go.KI
namespace Go.Proofs.YtklgpilgalfckaaGreatDoor
open Go.RowKit Go.KP Go.KI Go.Shelf
attribute [local go_sem] Oper.semAt_some

def T (q : Rat) : ByteArray := strB (ratS q)
theorem T_list (q : Rat) : (T q).data.toList = ratS q := strB_list _
theorem T_of {s : ByteArray} {q : Rat} (h : s.data.toList = ratS q) : s = T q := bytes_eq (by rw [h, T_list])
theorem T_inj {p q : Rat} (h : T p = T q) : p = q := ratS_inj (by rw [← T_list, h, T_list])
theorem T_beq (p q : Rat) : ((T p).toList == (T q).toList) = decide (p = q) := by
  rw [ByteArray.toList_eq, ByteArray.toList_eq, T_list, T_list]
  by_cases h : p = q
  · rw [h]
    simp
  · rw [decide_eq_false h]
    exact beq_false_of_ne fun e => h (ratS_inj e)
theorem T_size {q : Rat} (h : fitsQ q) : (T q).size ≤ 1000 := by
  rw [← bytes_len, T_list]
  exact ratS_len h
theorem T0 : T 0 = ⟨#[48]⟩ := by
  apply bytes_eq
  rw [T_list, show (0 : Rat) = ((0 : Int) : Rat) from rfl, ratS_int]
  show Lib.itoa ((0 : Nat) : Int) = _
  rw [Lib.itoa_nonneg, dec_zero]
def ResO (w : World) (o : Option Rat) (e : Ending) (w' : World) : Prop := (∃ v, o = some v ∧ Ret w (.tuple #[.string (T v), .int .i64 0]) e w') ∨ (o = none ∧ Ret w (.tuple #[.string ⟨#[]⟩, .int .i64 4]) e w')
theorem ResO.of {w : World} {o : Option Rat} {x : Rat} (h : o = some x) {e : Ending} {w' : World} (hr : ResO w o e w') : Ret w (.tuple #[.string (T x), .int .i64 0]) e w' := by
  rcases hr with ⟨v, h1, h2⟩ | ⟨h1, _⟩
  · rw [h] at h1
    cases h1
    exact h2
  · rw [h] at h1
    cases h1
structure BinFn (g : Nat) (F : Rat → Rat → Option Rat) : Prop where
  enters : ∀ args w, (callFunc g args).run Tryz.prog w = .ok (.enter g args) w
  calls : ∀ (x y : Rat) (B : Nat) (w : World), fitsQ x → fitsQ y → B ≤ w.heap.size → PQ B w → Calls Tryz.prog g #[.string (T x), .string (T y)] w (ResO w (F x y))
theorem T_good {x : Rat} (f : fitsQ x) : (T x).size ≤ 1000000 ∧ chkQ (T x).data.toList = 0 ∧ valQ (T x).data.toList = x := by
  have := T_size f
  rw [T_list, ratS_num]
  exact ⟨by omega, chkQ_fits f, rfl⟩
theorem resO_of (C : Rat → Rat → Prop) [∀ x y, Decidable (C x y)] (f : Rat → Rat → Rat) (F : Rat → Rat → Option Rat) (hF : ∀ x y, F x y = if C x y then some (f x y) else none) {x y : Rat} (hx : fitsQ x) (hy : fitsQ y) {w w' : World} {e : Ending}
    (h : Ret w (pairV (qopS C f (T x).data.toList (T y).data.toList) (qopE C (T x).data.toList (T y).data.toList)) e w') : ResO w (F x y) e w' := by
  obtain ⟨_, a1, a2⟩ := T_good hx
  obtain ⟨_, b1, b2⟩ := T_good hy
  unfold qopS qopE at h
  rw [if_pos (zero_bothQ a1 b1), if_pos (zero_bothQ a1 b1), a2, b2] at h
  rw [hF]
  by_cases hc : C x y
  · rw [if_pos hc, if_pos hc] at h
    rw [if_pos hc]
    exact .inl ⟨_, rfl, h⟩
  · rw [if_neg hc, if_neg hc] at h
    rw [if_neg hc]
    exact .inr ⟨rfl, h⟩
theorem qsub_O {x y : Rat} (hx : fitsQ x) (hy : fitsQ y) (B : Nat) (w : World) (hB : B ≤ w.heap.size) (hT : PQ B w) :
    Calls Tryz.prog 62 #[.string (T x), .string (T y)] w (ResO w (subO x y)) :=
  (qSub_any _ _ (T_good hx).1 (T_good hy).1 B w hB hT).mono fun _ _ h => resO_of subC (· - ·) subO (fun _ _ => rfl) hx hy h
theorem qmul_O {x y : Rat} (hx : fitsQ x) (hy : fitsQ y) (B : Nat) (w : World) (hB : B ≤ w.heap.size) (hT : PQ B w) :
    Calls Tryz.prog 79 #[.string (T x), .string (T y)] w (ResO w (mulO x y)) :=
  (qMul_any _ _ (T_good hx).1 (T_good hy).1 B w hB hT).mono fun _ _ h => resO_of mulC (· * ·) mulO (fun _ _ => rfl) hx hy h
theorem subB : BinFn 62 subO := ⟨enters_of Tryz.func62 (by kernel_rfl) rfl, fun _ _ B w hx hy hB hT => qsub_O hx hy B w hB hT⟩
theorem qcmp_T {x y : Rat} (hx : fitsQ x) (hy : fitsQ y) (hc : cmpC x y) (B : Nat) (w : World) (hB : B ≤ w.heap.size) (hT : PQ B w) :
    Calls Tryz.prog 77 #[.string (T x), .string (T y)] w (Ret w (.tuple #[.int .i64 (cmpR x y), .int .i64 0])) :=
  qcmp_to (T_list x) (T_list y) hx hy hc B w hB hT
open Go.RowKit Go.KP Go.KI Go.Shelf
attribute [local go_sem] Oper.semAt_some

abbrev vecV (a : V3) : Value := .agg #[.string (T a.x), .string (T a.y), .string (T a.z)]
abbrev noV : Value := .agg #[.string ⟨#[]⟩, .string ⟨#[]⟩, .string ⟨#[]⟩]
abbrev vecO (a : V3) : Obj := .cells #[.string (T a.x), .string (T a.y), .string (T a.z)] 28
def ResV (w : World) (o : Option V3) (e : Ending) (w' : World) : Prop := (∃ v, o = some v ∧ Ret w (.tuple #[vecV v, .int .i64 0]) e w') ∨ (o = none ∧ Ret w (.tuple #[noV, .int .i64 4]) e w')
theorem ResV.of {w : World} {o : Option V3} {x : V3} (h : o = some x) {e : Ending} {w' : World} (hr : ResV w o e w') : Ret w (.tuple #[vecV x, .int .i64 0]) e w' := by
  rcases hr with ⟨v, h1, h2⟩ | ⟨h1, _⟩
  · rw [h] at h1
    cases h1
    exact h2
  · rw [h] at h1
    cases h1
theorem eqSpot (a b c d e f : ByteArray) (w : World) : (Op.equalIn 10000 28 (.agg #[.string a, .string b, .string c]) (.agg #[.string d, .string e, .string f])).run Tryz.prog w = .ok (a.toList == d.toList && b.toList == e.toList && c.toList == f.toList) w := by
  have hS : Tryz.prog.underlying 28 = some (.struct (Tryz.prog.fieldsOf 28)) := by kernel_rfl
  have hp : Tryz.prog.stoodInHeld 28 = false := by kernel_rfl
  rw [show (10000 : Nat) = 9999 + 1 from rfl, run_equalIn_agg w 9999 28 _ _ hS hp]
  simp only [Program.fieldsOf, Tryz.underlying28]
  go_simp
  by_cases h1 : a.toList = d.toList <;> by_cases h2 : b.toList = e.toList <;> by_cases h3 : c.toList = f.toList <;> simp [*]
theorem eqSpot_T (a b : V3) (w : World) : (Op.equalIn 10000 28 (vecV a) (vecV b)).run Tryz.prog w = .ok (decide (a = b)) w := by
  rw [eqSpot, T_beq, T_beq, T_beq]
  congr 1
  by_cases h : a = b
  · subst h
    simp
  · rw [decide_eq_false h]
    rw [V3.eq_iff] at h
    by_cases h1 : a.x = b.x
    · by_cases h2 : a.y = b.y
      · by_cases h3 : a.z = b.z
        · exact absurd ⟨h1, h2, h3⟩ h
        · simp [h3]
      · simp [h2]
    · simp [h1]
end Go.Proofs.YtklgpilgalfckaaGreatDoor
