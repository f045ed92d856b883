/-
  Rational numbers: a number out of its parts, walked.; Rational numbers: crossed products, combined, walked.; Rational numbers: what is made of the parts of two numbers, walked.; Rational numbers: what is made of two numbers with short parts, walked.; Rational numbers: the closures of products and quotients; sums, differences, products, quotients walked.; Rational numbers: sums, differences, products, quotients walked.; Rational numbers: Check, Parts, Of walked.; Roots: the normal form of short numbers walked.
-/
import Derived.Test.YtgddookioipjiaaGreatDoorM7
import Derived.Test.YtgddookioipjiaaGreatDoorM6
import Derived.Test.YtgddookioipjiaaGreatDoorM4
import Derived.Test.YtgddookioipjiaaGreatDoorM5
namespace Go.Proofs.YtgddookioipjiaaGreatDoor
open Go.RowKit Go.KP Go.KI Go.Shelf
attribute [local go_sem] Oper.semAt_some

theorem hasMinus (l : List UInt8) : Lib.hasPrefix l [45] = decide (l.head? = some 45) := by
  cases l with
  | nil => rfl
  | cons c r =>
    by_cases h : c = 45
    · subst h
      simp [Lib.hasPrefix, List.isPrefixOf]
    · simp [Lib.hasPrefix, List.isPrefixOf, h, Ne.symm h]
theorem hasMinus_any {s : ByteArray} {z : Int} (h : s.data.toList = Lib.itoa z) (w : World) :
    Calls Tryz.prog 121 #[.string s, .string ⟨#[45]⟩] w fun e w' => e = .returned (.bool (decide (z < 0))) ∧ w = w' :=
  (Tryz.strings_HasPrefix s ⟨#[45]⟩ w).mono fun e w' ⟨he, hw⟩ => ⟨by
    rw [he, h]
    have : Lib.hasPrefix (Lib.itoa z) (⟨#[45]⟩ : ByteArray).data.toList = decide (z < 0) := by
      show Lib.hasPrefix (Lib.itoa z) [45] = _
      rw [hasMinus]
      exact decide_eq_decide.2 (itoa_head z)
    rw [this], hw.symm⟩
theorem fits_div {n : Int} {g : Nat} (h : fits n) (_ : 0 < g) : fits (n / (g : Int)) := fits_of_le h (Int.natAbs_ediv_le_natAbs _ _)
theorem fdiv_ex {n : Int} {g : Nat} (h : (g : Int) ∣ n) (hg : 0 < g) : n.fdiv (g : Int) = n / (g : Int) ∧ n.fmod (g : Int) = 0 := by
  refine ⟨Int.fdiv_eq_ediv_of_nonneg _ (by omega), ?_⟩
  rw [Int.fmod_eq_emod_of_nonneg _ (by omega)]
  exact Int.emod_eq_zero_of_dvd h
set_option maxRecDepth 100000 in
set_option maxHeartbeats 8000000 in
theorem qnumber_any {s t : ByteArray} {n d : Int} (h1 : s.data.toList = Lib.itoa n) (h2 : t.data.toList = Lib.itoa d) (f1 : fits n) (f2 : fits d) (h0 : d ≠ 0) (B : Nat) (w : World) (hB : B ≤ w.heap.size) (hT : P10 B w) :
    Calls Tryz.prog 60 #[.string s, .string t] w (Ret w (pairV (ratS (Rat.divInt n d)) 0)) := by
  have HT := hide hT
  have hss := fits_size h1 f1
  have hts := fits_size h2 f2
  have fneg : ∀ {z : Int}, fits z → fits (-z) := fun h => fits_of_le h (by rw [Int.natAbs_neg]; exact Nat.le_refl _)
  obtain ⟨N, D, S, T, hND, e1, e2, hD, g1, g2, hsign⟩ : ∃ (N : Int) (D : Nat) (S T : ByteArray), Rat.divInt n d = Rat.divInt N D ∧ S.data.toList = Lib.itoa N ∧ T.data.toList = Lib.itoa (D : Int) ∧ 0 < D ∧ fits N ∧ fits (D : Int) ∧ ((decide (d < 0) = true ∧ N = -n ∧ (D : Int) = -d) ∨ (decide (d < 0) = false ∧ S = s ∧ T = t)) := by
    rcases Int.lt_or_lt_of_ne h0 with h | h
    · have e : ((d.natAbs : Nat) : Int) = -d := by omega
      exact ⟨-n, d.natAbs, strB (Lib.itoa (-n)), strB (Lib.itoa (-d)), by rw [e, Rat.neg_divInt_neg], strB_list _, by rw [strB_list, e], by omega, fneg f1, by rw [e]; exact fneg f2, .inl ⟨by simpa using h, rfl, e⟩⟩
    · have e : ((d.natAbs : Nat) : Int) = d := by omega
      exact ⟨n, d.natAbs, s, t, by rw [e], h1, by rw [e]; exact h2, by omega, f1, by rw [e]; exact f2, .inr ⟨by rw [decide_eq_false_iff_not]; omega, rfl, rfl⟩⟩
  rw [hND]
  have HM := hide (fun w => hasMinus_any h2 w)
  have HOP := hide (fun (a : N = -n) (b : (D : Int) = -d) => (And.intro (fun w => opposite_any h1 (by rw [e1, a]) (by omega) w) (fun w => opposite_any h2 (by rw [e2, b]) (by omega) w) : (∀ w, Calls Tryz.prog 122 #[.string s] w fun e w' => e = .returned (.string S) ∧ w = w') ∧ (∀ w, Calls Tryz.prog 122 #[.string t] w fun e w' => e = .returned (.string T) ∧ w = w')))
  obtain ⟨g, hg⟩ : ∃ g, g = Nat.gcd N.natAbs D := ⟨_, rfl⟩
  have hgp : 0 < g := by rw [hg]; exact Nat.gcd_pos_of_pos_right _ hD
  have hgn : (g : Int) ∣ N := by rw [hg]; exact Int.ofNat_dvd_left.2 (Nat.gcd_dvd_left _ _)
  have hgd : (g : Int) ∣ (D : Int) := by rw [hg]; exact Int.ofNat_dvd.2 (Nat.gcd_dvd_right _ _)
  have fg : fits (g : Int) := fits_of_le g2 (by rw [Int.natAbs_natCast, Int.natAbs_natCast, hg]; exact Nat.gcd_le_right _ hD)
  obtain ⟨G, hG⟩ : ∃ G, G = strB (Lib.itoa (g : Int)) := ⟨_, rfl⟩
  have hGl : G.data.toList = Lib.itoa (g : Int) := by rw [hG, strB_list]
  have HG := hide (fun w hB hT => Gcd_to (r := G) e1 e2 (by rw [Int.natAbs_natCast, ← hg]; exact hGl) g1 g2 B w hB hT)
  obtain ⟨Nq, hNq⟩ : ∃ Nq : Int, Nq = N / (g : Int) := ⟨_, rfl⟩
  obtain ⟨Dq, hDq⟩ : ∃ Dq : Int, Dq = (D : Int) / (g : Int) := ⟨_, rfl⟩
  obtain ⟨A, hA⟩ : ∃ A, A = strB (Lib.itoa Nq) := ⟨_, rfl⟩
  obtain ⟨C, hC⟩ : ∃ C, C = strB (Lib.itoa Dq) := ⟨_, rfl⟩
  have hAl : A.data.toList = Lib.itoa Nq := by rw [hA, strB_list]
  have hCl : C.data.toList = Lib.itoa Dq := by rw [hC, strB_list]
  obtain ⟨x1, x2⟩ := fdiv_ex hgn hgp
  obtain ⟨x3, x4⟩ := fdiv_ex hgd hgp
  have hz : (strB (Lib.itoa 0)).data.toList = Lib.itoa 0 := strB_list _
  have HD1 := hide (fun w hB hT => Divide_to (q := A) (r := strB (Lib.itoa 0)) e1 hGl (by rw [x1, ← hNq]; exact hAl) (by rw [x2]; exact hz) g1 fg (by omega) B w hB hT)
  have HD2 := hide (fun w hB hT => Divide_to (q := C) (r := strB (Lib.itoa 0)) e2 hGl (by rw [x3, ← hDq]; exact hCl) (by rw [x4]; exact hz) g2 fg (by omega) B w hB hT)
  have fA := fits_size hAl (by rw [hNq]; exact fits_div g1 hgp)
  have fC := fits_size hCl (by rw [hDq]; exact fits_div g2 hgp)
  have v1 : (9223372036854775807 < A.size + 1) = False := eq_false (by omega)
  have v2 : (9223372036854775807 < A.size + 1 + C.size) = False := eq_false (by omega)
  have HX := hide (show ratS (Rat.divInt N D) = if Dq = 1 then Lib.itoa Nq else Lib.itoa Nq ++ 47 :: Lib.itoa Dq by
    have h := ratS_of (n := N) (d := (D : Int)) (by omega)
    rw [Int.natAbs_natCast, ← hg, ← hNq, ← hDq] at h
    exact h)
  obtain ⟨X, hX⟩ : ∃ X, X = strB (ratS (Rat.divInt N D)) := ⟨_, rfl⟩
  rw [show pairV (ratS (Rat.divInt N D)) 0 = .tuple #[.string X, .int .i64 0] by rw [hX]]
  obtain ⟨u1, u2⟩ := lit_eq (m := [49]) hGl
  obtain ⟨y1, y2⟩ := lit_eq (m := [49]) hCl
  have ho1 := itoa_is_one (g : Int)
  have ho2 := itoa_is_one Dq
  have hway1 : ((G.toList == [49]) = true ∧ S = A ∧ T = C) ∨ (G.toList == [49]) = false := by
    by_cases hg1 : g = 1
    · refine .inl ⟨u1 (ho1.2 (by omega)), bytes_eq (by rw [e1, hAl, hNq, hg1]; simp), bytes_eq (by rw [e2, hCl, hDq, hg1]; simp)⟩
    · exact .inr (u2 (fun e => hg1 (by have := ho1.1 e; omega)))
  have hway2 : ((C.toList == [49]) = true ∧ X = A) ∨ ((C.toList == [49]) = false ∧ X = A ++ ⟨#[47]⟩ ++ C) := by
    by_cases hd1 : Dq = 1
    · exact .inl ⟨y1 (ho2.2 hd1), by rw [hX, HX.out, if_pos hd1, hA]⟩
    · refine .inr ⟨y2 (fun e => hd1 (ho2.1 e)), ?_⟩
      rw [hX, HX.out, if_neg hd1]
      apply bytes_eq
      rw [strB_list]
      simp [hAl, hCl]
  have hTT : B ≤ w.heap.size := hB
  clear h1 h2 f1 f2 h0 hND e1 e2 hD g1 g2 hg hgp hgn hgd fg hG hGl hNq hDq hA hC hAl hCl x1 x2 x3 x4 hz HX hX u1 u2 y1 y2 ho1 ho2 hT fneg
  rcases hway1 with ⟨w1, w2, w3⟩ | w1
  case' inl =>
    subst w2; subst w3
  all_goals
    rcases hsign with ⟨z1, z2, z3⟩ | ⟨z1, z2, z3⟩
  all_goals try
    (have HO := hide (HOP.out z2 z3)
     clear z2 z3)
  all_goals try
    (subst z2
     subst z3)
  all_goals
    rw [z1] at HM
    clear HOP
    rcases hway2 with ⟨k1, k2⟩ | ⟨k1, k2⟩
  all_goals
    have HE := hide k2
    clear k2
    go_enter Tryz.func60, Tryz.ntmps60
    go_wp2_with fail
    refine (HM.out _).mono ?_
    rintro e w1' ⟨rfl, rfl⟩
    clear z1
    go_wp2_with fail
  all_goals try
    (refine (HO.out.1 _).mono ?_
     rintro e w1' ⟨rfl, rfl⟩
     go_wp2_with fail
     refine (HO.out.2 _).mono ?_
     rintro e w1' ⟨rfl, rfl⟩
     go_wp2_with fail)
  all_goals
    refine (HG.out _ hB HT.out).mono ?_
    rintro e w1 ⟨rfl, hb1⟩
    have HB1 := hide hb1
    clear hb1
    go_wp2_with fail
  all_goals try
    (refine (HD1.out _ (Nat.le_trans hB HB1.out.size) (HT.out.on HB1.out hB)).mono ?_
     rintro e w2 ⟨rfl, hb2⟩
     have HB2 := hide (HB1.out.trans (hb2.mono HB1.out.size))
     clear hb2
     go_wp2_with fail
     refine (HD2.out _ (Nat.le_trans hB HB2.out.size) (HT.out.on HB2.out hB)).mono ?_
     rintro e w3 ⟨rfl, hb3⟩
     have HB3 := hide (HB2.out.trans (hb3.mono HB2.out.size))
     clear hb3
     go_wp2_with fail)
  all_goals
    refine bodyPost_ret (results_tmp2 rfl _ _ _) rfl ?_
    rw [HE.out]
    first
      | exact ⟨rfl, HB3.out⟩
      | exact ⟨rfl, HB1.out⟩
end Go.Proofs.YtgddookioipjiaaGreatDoor
namespace Go.Proofs.YtgddookioipjiaaGreatDoor
open Go.RowKit Go.KP Go.KI Go.Shelf
attribute [local go_sem] Oper.semAt_some

/-- A product, if it fits, or not. -/
theorem mul_yes {s t : ByteArray} {x y : Int} (h1 : s.data.toList = Lib.itoa x) (h2 : t.data.toList = Lib.itoa y) (f1 : fits x) (f2 : fits y) (f3 : fits (x * y)) (B : Nat) (w : World) (hB : B ≤ w.heap.size) (hT : P10 B w) :
    Calls Tryz.prog 97 #[.string s, .string t] w (Ret w (.tuple #[.string (strB (Lib.itoa (x * y))), .int .i64 0])) := by
  have h := Mul_good h1 h2 f1 f2 B w hB hT
  rw [show resS (x * y) = Lib.itoa (x * y) from if_pos f3, show resE (x * y) = 0 from if_pos f3] at h
  exact h
theorem mul_no {s t : ByteArray} {x y : Int} (h1 : s.data.toList = Lib.itoa x) (h2 : t.data.toList = Lib.itoa y) (f1 : fits x) (f2 : fits y) (f3 : ¬ fits (x * y)) (B : Nat) (w : World) (hB : B ≤ w.heap.size) (hT : P10 B w) :
    Calls Tryz.prog 97 #[.string s, .string t] w (Ret w (.tuple #[.string ⟨#[]⟩, .int .i64 4])) := by
  have h := Mul_good h1 h2 f1 f2 B w hB hT
  rw [show resS (x * y) = [] from if_neg f3, show resE (x * y) = 4 from if_neg f3] at h
  exact h
/-- The texts of two integers and of their denominators. -/
structure Four (s a t b : ByteArray) (x p y q : Int) : Prop where
  h1 : s.data.toList = Lib.itoa x
  h2 : a.data.toList = Lib.itoa p
  h3 : t.data.toList = Lib.itoa y
  h4 : b.data.toList = Lib.itoa q
  f1 : fits x
  f2 : fits p
  f3 : fits y
  f4 : fits q
set_option maxRecDepth 100000 in
set_option maxHeartbeats 4000000 in
theorem crossed_yes {s a t b : ByteArray} {x p y q : Int} (h : Four s a t b x p y q) (fu : fits (x * q)) (fv : fits (y * p)) (B : Nat) (w : World) (hB : B ≤ w.heap.size) (hT : P10 B w) :
    Calls Tryz.prog 65 #[partsV s a, partsV t b] w (Ret w (.tuple #[.string (strB (Lib.itoa (x * q))), .string (strB (Lib.itoa (y * p))), .int .i64 0])) := by
  have H1 := hide (fun w hB hT => mul_yes h.h1 h.h4 h.f1 h.f4 fu B w hB hT)
  have H2 := hide (fun w hB hT => mul_yes h.h3 h.h2 h.f3 h.f2 fv B w hB hT)
  have HT := hide hT
  have X0 := hide (heap2 w (partsO s a) (partsO t b))
  obtain ⟨U, hU⟩ : ∃ U, U = strB (Lib.itoa (x * q)) := ⟨_, rfl⟩
  obtain ⟨V, hV⟩ : ∃ U, U = strB (Lib.itoa (y * p)) := ⟨_, rfl⟩
  rw [← hU] at H1 ⊢
  rw [← hV] at H2 ⊢
  clear hU hV h fu fv hT
  go_enter Tryz.func65, Tryz.ntmps65
  go_wp2_with fail
  refine (H1.out _ (Nat.le_trans hB X0.out.2.2.2.size) (HT.out.on X0.out.2.2.2 hB)).mono ?_
  rintro e w1 ⟨rfl, hb1⟩
  have G1 := hide (below_blk hb1 X0.out.1 (lt_blk X0.out.1))
  have G2 := hide (below_blk hb1 X0.out.2.1 (lt_blk X0.out.2.1))
  have HB1 := hide (X0.out.2.2.2.trans (hb1.mono X0.out.2.2.2.size))
  have c0 := cell_blk G1.out 0
  have c1 := cell_blk G1.out 1
  have c2 := cell_blk G2.out 0
  have c3 := cell_blk G2.out 1
  clear hb1
  go_wp2_with fail
  refine (H2.out _ (Nat.le_trans hB HB1.out.size) (HT.out.on HB1.out hB)).mono ?_
  rintro e w2 ⟨rfl, hb2⟩
  have HB2 := hide (HB1.out.trans (hb2.mono HB1.out.size))
  clear hb2
  go_wp2_with fail
  go_ret3
  exact ⟨rfl, HB2.out⟩
/-- It returns two strings and an error. -/
def CrossBad (w : World) (e : Ending) (w2 : World) : Prop := ∃ u v : ByteArray, e = .returned (.tuple #[.string u, .string v, .int .i64 4]) ∧ Below w.heap.size w w2
set_option maxRecDepth 100000 in
set_option maxHeartbeats 4000000 in
theorem crossed_no {s a t b : ByteArray} {x p y q : Int} (h : Four s a t b x p y q) (hn : ¬ (fits (x * q) ∧ fits (y * p))) (B : Nat) (w : World) (hB : B ≤ w.heap.size) (hT : P10 B w) :
    Calls Tryz.prog 65 #[partsV s a, partsV t b] w (CrossBad w) := by
  have HT := hide hT
  have X0 := hide (heap2 w (partsO s a) (partsO t b))
  by_cases fu : fits (x * q)
  · have H1 := hide (fun w hB hT => mul_yes h.h1 h.h4 h.f1 h.f4 fu B w hB hT)
    have H2 := hide (fun w hB hT => mul_no h.h3 h.h2 h.f3 h.f2 (fun e => hn ⟨fu, e⟩) B w hB hT)
    obtain ⟨U, hU⟩ : ∃ U, U = strB (Lib.itoa (x * q)) := ⟨_, rfl⟩
    rw [← hU] at H1
    clear hU h fu hn hT
    go_enter Tryz.func65, Tryz.ntmps65
    go_wp2_with fail
    refine (H1.out _ (Nat.le_trans hB X0.out.2.2.2.size) (HT.out.on X0.out.2.2.2 hB)).mono ?_
    rintro e w1 ⟨rfl, hb1⟩
    have G1 := hide (below_blk hb1 X0.out.1 (lt_blk X0.out.1))
    have G2 := hide (below_blk hb1 X0.out.2.1 (lt_blk X0.out.2.1))
    have HB1 := hide (X0.out.2.2.2.trans (hb1.mono X0.out.2.2.2.size))
    have c0 := cell_blk G1.out 0
    have c1 := cell_blk G1.out 1
    have c2 := cell_blk G2.out 0
    have c3 := cell_blk G2.out 1
    clear hb1
    go_wp2_with fail
    refine (H2.out _ (Nat.le_trans hB HB1.out.size) (HT.out.on HB1.out hB)).mono ?_
    rintro e w2 ⟨rfl, hb2⟩
    have HB2 := hide (HB1.out.trans (hb2.mono HB1.out.size))
    clear hb2
    go_wp2_with fail
    go_ret3
    exact ⟨_, _, rfl, HB2.out⟩
  · have H1 := hide (fun w hB hT => mul_no h.h1 h.h4 h.f1 h.f4 fu B w hB hT)
    clear h fu hn hT
    go_enter Tryz.func65, Tryz.ntmps65
    go_wp2_with fail
    refine (H1.out _ (Nat.le_trans hB X0.out.2.2.2.size) (HT.out.on X0.out.2.2.2 hB)).mono ?_
    rintro e w1 ⟨rfl, hb1⟩
    have HB1 := hide (X0.out.2.2.2.trans (hb1.mono X0.out.2.2.2.size))
    clear hb1
    go_wp2_with fail
    go_ret3
    exact ⟨_, _, rfl, HB1.out⟩
end Go.Proofs.YtgddookioipjiaaGreatDoor
namespace Go.Proofs.YtgddookioipjiaaGreatDoor
open Go.RowKit Go.KP Go.KI Go.Shelf
attribute [local go_sem] Oper.semAt_some

/-- A function of two integers' texts. -/
structure IntFn (g : Nat) (f : Int → Int → Int) : Prop where
  enters : ∀ args w, (callFunc g args).run Tryz.prog w = .ok (.enter g args) w
  calls : ∀ (s t : ByteArray) (x y : Int) (B : Nat) (w : World), s.data.toList = Lib.itoa x → t.data.toList = Lib.itoa y → fits x → fits y → B ≤ w.heap.size → P10 B w →
    Calls Tryz.prog g #[.string s, .string t] w (Ret w (pairV (resS (f x y)) (resE (f x y))))
/-- When a combination's parts fit. -/
def combC (f : Int → Int → Int) (x p y q : Int) : Prop := (fits (x * q) ∧ fits (y * p)) ∧ fits (f (x * q) (y * p)) ∧ fits (p * q)
instance (f : Int → Int → Int) (x p y q : Int) : Decidable (combC f x p y q) := inferInstanceAs (Decidable (_ ∧ _ ∧ _))
end Go.Proofs.YtgddookioipjiaaGreatDoor
namespace Go.Proofs.YtgddookioipjiaaGreatDoor
open Go.RowKit Go.KP Go.KI Go.Shelf
attribute [local go_sem] Oper.semAt_some

/-- A function of two native numbers. -/
structure NatFn (f : Nat) (A C : Int → Int → Int → Int → Int) : Prop where
  enters : ∀ args w, (callFunc f args).run Tryz.prog w = .ok (.enter f args) w
  calls : ∀ (a b c d : Int) (w : World), a.natAbs < 100000000 → b.natAbs < 100000000 → c.natAbs < 100000000 → d.natAbs < 100000000 → Calls Tryz.prog f #[natV a b, natV c d] w (Ret w (natV (A a b c d) (C a b c d)))
theorem mul_i64 {a b : Int} (ha : a.natAbs < 100000000) (hb : b.natAbs < 100000000) : (a * b).natAbs < 10000000000000000 ∧ IntKind.i64.wrap (a * b) = a * b := by
  have h : (a * b).natAbs < 10000000000000000 := by
    rw [Int.natAbs_mul]
    have := Nat.mul_lt_mul'' ha hb
    omega
  exact ⟨h, IntWalk.i64_in _ (by omega)⟩
theorem exit_nat {f : Func} {R : Ending → World → Prop} {a : Act} {W : World} {b : Nat} {n d : Int} (hf : f.results = #[.cell 4 79]) (hb : W.heap[b]? = some (natO n d)) (h2 : a.tmps[4]? = some (.pointer (some ⟨b, 0, none⟩))) (hd : a.defers = []) (hR : R (.returned (natV n d)) W) :
    bodyPost Tryz.prog f R .ret a W := by
  have hcell := fun o => cell_blk hb o
  refine bodyPost_ret ?_ hd hR
  simp [results, hf, go_sem, hcell, h2]
set_option maxRecDepth 100000 in
set_option maxHeartbeats 4000000 in
theorem mulFn : NatFn 106 (fun a _ c _ => a * c) (fun _ b _ d => b * d) := by
  refine ⟨enters_of Tryz.func106 (by kernel_rfl) rfl, fun a b c d w ha hb hc hd => ?_⟩
  obtain ⟨m1, e1⟩ := mul_i64 ha hc
  obtain ⟨m3, e3⟩ := mul_i64 hb hd
  clear m1 m3
  clear ha hb hc hd
  go_enter Tryz.func106, Tryz.ntmps106
  go_wp2_with fail
  have h3 := heap3 w (natO a b) (natO c d) (natO (a * c) (b * d))
  exact exit_nat rfl h3.2.2.1 (by rfl) (by rfl) ⟨rfl, h3.2.2.2.2⟩
set_option maxRecDepth 100000 in
set_option maxHeartbeats 4000000 in
theorem divFn : NatFn 62 (fun a _ _ d => a * d) (fun _ b c _ => b * c) := by
  refine ⟨enters_of Tryz.func62 (by kernel_rfl) rfl, fun a b c d w ha hb hc hd => ?_⟩
  obtain ⟨m1, e1⟩ := mul_i64 ha hd
  obtain ⟨m3, e3⟩ := mul_i64 hb hc
  clear m1 m3
  clear ha hb hc hd
  go_enter Tryz.func62, Tryz.ntmps62
  go_wp2_with fail
  have h3 := heap3 w (natO a b) (natO c d) (natO (a * d) (b * c))
  exact exit_nat rfl h3.2.2.1 (by rfl) (by rfl) ⟨rfl, h3.2.2.2.2⟩
set_option maxRecDepth 100000 in
set_option maxHeartbeats 4000000 in
theorem quick_no (s t : ByteArray) (hs : s.size ≤ 1000000) (ht : t.size ≤ 1000000) (f : Nat) (h : ¬ (natQ s.data.toList ∧ natQ t.data.toList)) (w : World) :
    Calls Tryz.prog 61 #[.string s, .string t, .func (.func f) #[] #[]] w (Ret w (.tuple #[.string ⟨#[]⟩, .bool false])) := by
  have H1 := hide (nativeOf_any s hs w)
  have H2 := hide (fun w => nativeOf_any t ht w)
  by_cases h1 : natQ s.data.toList
  · rw [natOV_yes h1] at H1
    rw [natOV_no (fun e => h ⟨h1, e⟩)] at H2
    clear h h1
    go_enter Tryz.func61, Tryz.ntmps61
    go_wp2_with fail
    refine H1.out.mono ?_
    rintro e w1 ⟨rfl, hb1⟩
    have HB1 := hide (hb1.trans ((heap1 w1 (natO (valQ s.data.toList).num ((valQ s.data.toList).den : Nat))).2.2.mono hb1.size))
    clear hb1
    go_wp2_with fail
    refine (H2.out _).mono ?_
    rintro e w2 ⟨rfl, hb2⟩
    have HB2 := hide (HB1.out.trans (hb2.mono HB1.out.size))
    clear hb2
    go_wp2_with fail
    refine bodyPost_ret (results_tmp2 rfl _ _ _) rfl ?_
    exact ⟨rfl, HB2.out.trans ((heap1 w2 _).2.2.mono HB2.out.size)⟩
  · rw [natOV_no h1] at H1
    clear h h1 H2
    go_enter Tryz.func61, Tryz.ntmps61
    go_wp2_with fail
    refine H1.out.mono ?_
    rintro e w1 ⟨rfl, hb1⟩
    have HB1 := hide hb1
    clear hb1
    go_wp2_with fail
    refine bodyPost_ret (results_tmp2 rfl _ _ _) rfl ?_
    exact ⟨rfl, HB1.out.trans ((heap1 w1 _).2.2.mono HB1.out.size)⟩
set_option maxRecDepth 100000 in
set_option maxHeartbeats 4000000 in
theorem quick_yes (s t : ByteArray) (hs : s.size ≤ 1000000) (ht : t.size ≤ 1000000) (f : Nat) {A C : Int → Int → Int → Int → Int} (hf : NatFn f A C) (h1 : natQ s.data.toList) (h2 : natQ t.data.toList) {n d : Int} (hn : A (valQ s.data.toList).num (valQ s.data.toList).den (valQ t.data.toList).num (valQ t.data.toList).den = n) (hd : C (valQ s.data.toList).num (valQ s.data.toList).den (valQ t.data.toList).num (valQ t.data.toList).den = d)
    (n1 : n.natAbs < 100000000000000000) (d1 : d.natAbs < 100000000000000000) (d0 : d ≠ 0) (B : Nat) (w : World) (hB : B ≤ w.heap.size) (hT : P10 B w) :
    Calls Tryz.prog 61 #[.string s, .string t, .func (.func f) #[] #[]] w (Ret w (.tuple #[.string (strB (ratS (Rat.divInt n d))), .bool true])) := by
  have H1 := hide (nativeOf_any s hs w)
  have H2 := hide (fun w => nativeOf_any t ht w)
  rw [natOV_yes h1] at H1
  rw [natOV_yes h2] at H2
  obtain ⟨a1, a2, _⟩ := natQ_lt h1
  obtain ⟨b1, b2, _⟩ := natQ_lt h2
  have HF := hide (fun w => hf.calls _ _ _ _ w a1 (show ((valQ s.data.toList).den : Int).natAbs < 100000000 by rw [Int.natAbs_natCast]; exact a2) b1 (show ((valQ t.data.toList).den : Int).natAbs < 100000000 by rw [Int.natAbs_natCast]; exact b2))
  rw [hn, hd] at HF
  have hen := hf.enters
  have HT := hide hT
  have HN := hide (fun w hB hT => nnumber_any n d n1 d1 d0 B w hB hT)
  obtain ⟨p, hp⟩ : ∃ p : Int, p = (valQ s.data.toList).num := ⟨_, rfl⟩
  obtain ⟨q, hq⟩ : ∃ p : Int, p = ((valQ s.data.toList).den : Int) := ⟨_, rfl⟩
  obtain ⟨u, hu⟩ : ∃ p : Int, p = (valQ t.data.toList).num := ⟨_, rfl⟩
  obtain ⟨v, hv⟩ : ∃ p : Int, p = ((valQ t.data.toList).den : Int) := ⟨_, rfl⟩
  rw [← hp, ← hq] at H1 HF
  rw [← hu, ← hv] at H2 HF
  obtain ⟨X, hX⟩ : ∃ X, X = strB (ratS (Rat.divInt n d)) := ⟨_, rfl⟩
  rw [← hX] at HN ⊢
  clear hn hd hp hq hu hv hX h1 h2 a1 a2 b1 b2 hf n1 d1 d0 hT
  go_enter Tryz.func61, Tryz.ntmps61
  go_wp2_with fail
  refine H1.out.mono ?_
  rintro e w1 ⟨rfl, hb1⟩
  have X1 := hide (heap1 w1 (natO p q))
  have HB1 := hide (hb1.trans (X1.out.2.2.mono hb1.size))
  clear hb1
  go_wp2_with fail
  refine (H2.out _).mono ?_
  rintro e w2 ⟨rfl, hb2⟩
  have G2 := hide (below_blk hb2 X1.out.1 (lt_blk X1.out.1))
  have HB2 := hide (HB1.out.trans (hb2.mono HB1.out.size))
  have X2 := hide (heap1 w2 (natO u v))
  have HB2b := hide (HB2.out.trans (X2.out.2.2.mono HB2.out.size))
  have c0 := cell_blk G2.out 0
  have c1 := cell_blk G2.out 1
  have hl := lt_blk G2.out
  clear hb2
  go_wp2_with fail
  refine (HF.out _).mono ?_
  rintro e w3 ⟨rfl, hb3⟩
  have HB3 := hide (HB2b.out.trans (hb3.mono HB2b.out.size))
  clear hb3 c0 c1
  go_wp2_with fail
  refine (HN.out _ (Nat.le_trans hB HB3.out.size) (HT.out.on HB3.out hB)).mono ?_
  rintro e w4 ⟨rfl, hb4⟩
  have HB4 := hide (HB3.out.trans (hb4.mono HB3.out.size))
  clear hb4
  go_wp2_with fail
  refine bodyPost_ret (results_tmp2 rfl _ _ _) rfl ?_
  exact ⟨rfl, HB4.out⟩
end Go.Proofs.YtgddookioipjiaaGreatDoor
namespace Go.Proofs.YtgddookioipjiaaGreatDoor
open Go.RowKit Go.KP Go.KI Go.Shelf
attribute [local go_sem] Oper.semAt_some

theorem pairV_err (z : Int) : pairV [] z = .tuple #[.string ⟨#[]⟩, .int .i64 z] := rfl
set_option maxRecDepth 100000 in
set_option maxHeartbeats 8000000 in
theorem mul2_any {s a t b : ByteArray} {x p y q : Int} (h : Four s a t b x p y q) (h0 : p * q ≠ 0) (B : Nat) (w : World) (hB : B ≤ w.heap.size) (hT : P10 B w) :
    Calls Tryz.prog 107 #[partsV s a, partsV t b] w (Ret w (pairV (if fits (x * y) ∧ fits (p * q) then ratS (Rat.divInt (x * y) (p * q)) else []) (if fits (x * y) ∧ fits (p * q) then 0 else 4))) := by
  have HT := hide hT
  have X0 := hide (heap2 w (partsO s a) (partsO t b))
  by_cases hf : fits (x * y)
  · have HO := hide (fun w hB hT => mul_yes h.h1 h.h3 h.f1 h.f3 hf B w hB hT)
    obtain ⟨N, hN⟩ : ∃ U, U = strB (Lib.itoa (x * y)) := ⟨_, rfl⟩
    have hNl : N.data.toList = Lib.itoa (x * y) := by rw [hN, strB_list]
    rw [← hN] at HO
    by_cases hd : fits (p * q)
    · have HM := hide (fun w hB hT => mul_yes h.h2 h.h4 h.f2 h.f4 hd B w hB hT)
      obtain ⟨D, hD⟩ : ∃ U, U = strB (Lib.itoa (p * q)) := ⟨_, rfl⟩
      rw [← hD] at HM
      have HN := hide (fun w hB hT => qnumber_any (t := D) hNl (by rw [hD, strB_list]) hf hd h0 B w hB hT)
      rw [if_pos ⟨hf, hd⟩, if_pos ⟨hf, hd⟩]
      obtain ⟨X, hX⟩ : ∃ X, X = strB (ratS (Rat.divInt (x * y) (p * q))) := ⟨_, rfl⟩
      rw [show pairV (ratS (Rat.divInt (x * y) (p * q))) 0 = .tuple #[.string X, .int .i64 0] by rw [hX]] at HN ⊢
      clear hN hNl hD hX hf hd h h0 hT
      go_enter Tryz.func107, Tryz.ntmps107
      go_wp2_with fail
      refine (HO.out _ (Nat.le_trans hB X0.out.2.2.2.size) (HT.out.on X0.out.2.2.2 hB)).mono ?_
      rintro e w1 ⟨rfl, hb1⟩
      have G1 := hide (below_blk hb1 X0.out.1 (lt_blk X0.out.1))
      have G2 := hide (below_blk hb1 X0.out.2.1 (lt_blk X0.out.2.1))
      have HB1 := hide (X0.out.2.2.2.trans (hb1.mono X0.out.2.2.2.size))
      have c1 := cell_blk G1.out 1
      have c3 := cell_blk G2.out 1
      clear hb1
      go_wp2_with fail
      refine (HM.out _ (Nat.le_trans hB HB1.out.size) (HT.out.on HB1.out hB)).mono ?_
      rintro e w3 ⟨rfl, hb3⟩
      have HB3 := hide (HB1.out.trans (hb3.mono HB1.out.size))
      clear hb3 c1 c3
      go_wp2_with fail
      refine (HN.out _ (Nat.le_trans hB HB3.out.size) (HT.out.on HB3.out hB)).mono ?_
      rintro e w4 ⟨rfl, hb4⟩
      have HB4 := hide (HB3.out.trans (hb4.mono HB3.out.size))
      clear hb4
      go_wp2_with fail
      refine bodyPost_ret (results_tmp2 rfl _ _ _) rfl ?_
      exact ⟨rfl, HB4.out⟩
    · have HM := hide (fun w hB hT => mul_no h.h2 h.h4 h.f2 h.f4 hd B w hB hT)
      rw [if_neg (fun e => hd e.2), if_neg (fun e => hd e.2), pairV_err]
      clear hN hNl hf hd h h0 hT
      go_enter Tryz.func107, Tryz.ntmps107
      go_wp2_with fail
      refine (HO.out _ (Nat.le_trans hB X0.out.2.2.2.size) (HT.out.on X0.out.2.2.2 hB)).mono ?_
      rintro e w1 ⟨rfl, hb1⟩
      have G1 := hide (below_blk hb1 X0.out.1 (lt_blk X0.out.1))
      have G2 := hide (below_blk hb1 X0.out.2.1 (lt_blk X0.out.2.1))
      have HB1 := hide (X0.out.2.2.2.trans (hb1.mono X0.out.2.2.2.size))
      have c1 := cell_blk G1.out 1
      have c3 := cell_blk G2.out 1
      clear hb1
      go_wp2_with fail
      refine (HM.out _ (Nat.le_trans hB HB1.out.size) (HT.out.on HB1.out hB)).mono ?_
      rintro e w3 ⟨rfl, hb3⟩
      have HB3 := hide (HB1.out.trans (hb3.mono HB1.out.size))
      clear hb3 c1 c3
      go_wp2_with fail
      refine bodyPost_ret (results_tmp2 rfl _ _ _) rfl ?_
      exact ⟨rfl, HB3.out⟩
  · have HO := hide (fun w hB hT => mul_no h.h1 h.h3 h.f1 h.f3 hf B w hB hT)
    rw [if_neg (fun e => hf e.1), if_neg (fun e => hf e.1), pairV_err]
    clear hf h h0 hT
    go_enter Tryz.func107, Tryz.ntmps107
    go_wp2_with fail
    refine (HO.out _ (Nat.le_trans hB X0.out.2.2.2.size) (HT.out.on X0.out.2.2.2 hB)).mono ?_
    rintro e w1 ⟨rfl, hb1⟩
    have HB1 := hide (X0.out.2.2.2.trans (hb1.mono X0.out.2.2.2.size))
    clear hb1
    go_wp2_with fail
    refine bodyPost_ret (results_tmp2 rfl _ _ _) rfl ?_
    exact ⟨rfl, HB1.out⟩
set_option maxRecDepth 100000 in
set_option maxHeartbeats 8000000 in
theorem div2_zero {s a t b : ByteArray} (h : t.data.toList = [48]) (w : World) :
    Calls Tryz.prog 64 #[partsV s a, partsV t b] w (Ret w (pairV [] 12)) := by
  have X0 := hide (heap2 w (partsO s a) (partsO t b))
  have he := (lit_eq (m := [48]) h).1 rfl
  rw [pairV_err]
  clear h
  go_enter Tryz.func64, Tryz.ntmps64
  go_wp2_with fail
  refine bodyPost_ret (results_tmp2 rfl _ _ _) rfl ?_
  exact ⟨rfl, X0.out.2.2.2⟩
set_option maxRecDepth 100000 in
set_option maxHeartbeats 8000000 in
theorem div2_any {s a t b : ByteArray} {x p y q : Int} (h : Four s a t b x p y q) (hy : y ≠ 0) (hp : p ≠ 0) (B : Nat) (w : World) (hB : B ≤ w.heap.size) (hT : P10 B w) :
    Calls Tryz.prog 64 #[partsV s a, partsV t b] w (Ret w (pairV (if fits (x * q) ∧ fits (y * p) then ratS (Rat.divInt (x * q) (y * p)) else []) (if fits (x * q) ∧ fits (y * p) then 0 else 4))) := by
  have HT := hide hT
  have X0 := hide (heap2 w (partsO s a) (partsO t b))
  have he := (lit_eq (m := [48]) h.h3).2 (itoa_nz hy)
  by_cases hc : fits (x * q) ∧ fits (y * p)
  · have HC := hide (fun w hB hT => crossed_yes h hc.1 hc.2 B w hB hT)
    have HN := hide (fun w hB hT => qnumber_any (s := strB (Lib.itoa (x * q))) (t := strB (Lib.itoa (y * p))) (strB_list _) (strB_list _) hc.1 hc.2 (Int.mul_ne_zero hy hp) B w hB hT)
    rw [if_pos hc, if_pos hc]
    obtain ⟨X, hX⟩ : ∃ X, X = strB (ratS (Rat.divInt (x * q) (y * p))) := ⟨_, rfl⟩
    obtain ⟨U, hU⟩ : ∃ U, U = strB (Lib.itoa (x * q)) := ⟨_, rfl⟩
    obtain ⟨V, hV⟩ : ∃ U, U = strB (Lib.itoa (y * p)) := ⟨_, rfl⟩
    rw [← hU, ← hV] at HC
    rw [← hU, ← hV] at HN
    rw [show pairV (ratS (Rat.divInt (x * q) (y * p))) 0 = .tuple #[.string X, .int .i64 0] by rw [hX]] at HN ⊢
    clear hX hU hV hc h hy hp hT
    go_enter Tryz.func64, Tryz.ntmps64
    go_wp2_with fail
    refine (HC.out _ (Nat.le_trans hB X0.out.2.2.2.size) (HT.out.on X0.out.2.2.2 hB)).mono ?_
    rintro e w1 ⟨rfl, hb1⟩
    have HB1 := hide (X0.out.2.2.2.trans (hb1.mono X0.out.2.2.2.size))
    clear hb1
    go_wp2_with fail
    refine (HN.out _ (Nat.le_trans hB HB1.out.size) (HT.out.on HB1.out hB)).mono ?_
    rintro e w4 ⟨rfl, hb4⟩
    have HB4 := hide (HB1.out.trans (hb4.mono HB1.out.size))
    clear hb4
    go_wp2_with fail
    refine bodyPost_ret (results_tmp2 rfl _ _ _) rfl ?_
    exact ⟨rfl, HB4.out⟩
  · have HC := hide (fun w hB hT => crossed_no h hc B w hB hT)
    rw [if_neg hc, if_neg hc, pairV_err]
    clear hc h hy hp hT
    go_enter Tryz.func64, Tryz.ntmps64
    go_wp2_with fail
    refine (HC.out _ (Nat.le_trans hB X0.out.2.2.2.size) (HT.out.on X0.out.2.2.2 hB)).mono ?_
    rintro e w1 ⟨u, v, rfl, hb1⟩
    have HB1 := hide (X0.out.2.2.2.trans (hb1.mono X0.out.2.2.2.size))
    clear hb1
    go_wp2_with fail
    refine bodyPost_ret (results_tmp2 rfl _ _ _) rfl ?_
    exact ⟨rfl, HB1.out⟩
end Go.Proofs.YtgddookioipjiaaGreatDoor
namespace Go.Proofs.YtgddookioipjiaaGreatDoor
open Go.RowKit Go.KP Go.KI Go.Shelf
attribute [local go_sem] Oper.semAt_some

/-- What an operation answers: the number's text, or why there is none. -/
def qopS (C : Rat → Rat → Prop) [∀ x y, Decidable (C x y)] (f : Rat → Rat → Rat) (a b : List UInt8) : List UInt8 := if bothQ a b = 0 then (if C (valQ a) (valQ b) then ratS (f (valQ a) (valQ b)) else []) else []
def qopE (C : Rat → Rat → Prop) [∀ x y, Decidable (C x y)] (a b : List UInt8) : Int := if bothQ a b = 0 then (if C (valQ a) (valQ b) then 0 else 4) else bothQ a b
theorem bothQ_zero {a b : List UInt8} (h : bothQ a b = 0) : chkQ a = 0 ∧ chkQ b = 0 := by
  unfold bothQ at h
  by_cases h1 : chkQ a = 0
  · rw [if_pos h1] at h
    exact ⟨h1, h⟩
  · rw [if_neg h1] at h
    exact absurd h h1
theorem zero_bothQ {a b : List UInt8} (h1 : chkQ a = 0) (h2 : chkQ b = 0) : bothQ a b = 0 := by unfold bothQ; rw [if_pos h1, h2]
theorem four_of {a b : List UInt8} (h1 : chkQ a = 0) (h2 : chkQ b = 0) : Four (strB (Lib.itoa (valQ a).num)) (strB (Lib.itoa ((valQ a).den : Int))) (strB (Lib.itoa (valQ b).num)) (strB (Lib.itoa ((valQ b).den : Int))) (valQ a).num ((valQ a).den : Int) (valQ b).num ((valQ b).den : Int) := by
  obtain ⟨_, f1, _, _⟩ := chkQ_ok h1
  obtain ⟨_, f2, _, _⟩ := chkQ_ok h2
  exact ⟨strB_list _, strB_list _, strB_list _, strB_list _, f1.1, f1.2, f2.1, f2.2⟩
theorem den_i (x : Rat) : (x.den : Int) ≠ 0 := den_ne x
/-- The numbers of a quick operation. -/
theorem quick_nums {a b : List UInt8} (h1 : natQ a) (h2 : natQ b) : ((valQ a).num * ((valQ b).den : Int)).natAbs < 10000000000000000 ∧ ((valQ b).num * ((valQ a).den : Int)).natAbs < 10000000000000000 ∧ (((valQ a).den : Int) * ((valQ b).den : Int)).natAbs < 10000000000000000 ∧ ((valQ a).num * (valQ b).num).natAbs < 10000000000000000 ∧ (((valQ a).den : Int) * (valQ b).num).natAbs < 10000000000000000 := by
  obtain ⟨a1, a2, _⟩ := natQ_lt h1
  obtain ⟨b1, b2, _⟩ := natQ_lt h2
  have a3 : ((valQ a).den : Int).natAbs < 100000000 := by rw [Int.natAbs_natCast]; exact a2
  have b3 : ((valQ b).den : Int).natAbs < 100000000 := by rw [Int.natAbs_natCast]; exact b2
  exact ⟨(mul_i64 a1 b3).1, (mul_i64 b1 a3).1, (mul_i64 a3 b3).1, (mul_i64 a1 b1).1, (mul_i64 a3 b1).1⟩
set_option maxRecDepth 100000 in
set_option maxHeartbeats 4000000 in
theorem qMul_any (s t : ByteArray) (hs : s.size ≤ 1000000) (ht : t.size ≤ 1000000) (B : Nat) (w : World) (hB : B ≤ w.heap.size) (hT : PQ B w) :
    Calls Tryz.prog 55 #[.string s, .string t] w (Ret w (pairV (qopS mulC (· * ·) s.data.toList t.data.toList) (qopE mulC s.data.toList t.data.toList))) := by
  have HT := hide hT
  by_cases hq : natQ s.data.toList ∧ natQ t.data.toList
  · obtain ⟨_, _, k3, k4, _⟩ := quick_nums hq.1 hq.2
    have hb := zero_bothQ hq.1.1 hq.2.1
    have hc : mulC (valQ s.data.toList) (valQ t.data.toList) := mulC_of (natQ_sz hq.1) (natQ_sz hq.2) (by rw [most_eq]; omega)
    have e1 : qopS mulC (· * ·) s.data.toList t.data.toList = ratS (valQ s.data.toList * valQ t.data.toList) := by unfold qopS; rw [if_pos hb, if_pos hc]
    have e2 : qopE mulC s.data.toList t.data.toList = 0 := by unfold qopE; rw [if_pos hb, if_pos hc]
    rw [e1, e2]
    have HQ := hide (quick_yes s t hs ht 106 mulFn hq.1 hq.2 rfl rfl (by omega) (by omega) (Int.mul_ne_zero (den_i _) (den_i _)) B w hB hT.p10)
    rw [divInt_mul] at HQ
    obtain ⟨X, hX⟩ : ∃ X, X = strB (ratS (valQ s.data.toList * valQ t.data.toList)) := ⟨_, rfl⟩
    rw [show pairV (ratS (valQ s.data.toList * valQ t.data.toList)) 0 = .tuple #[.string X, .int .i64 0] by rw [hX]]
    rw [← hX] at HQ
    clear hX e1 e2 hc hb k3 k4 hq hT
    go_enter Tryz.func55, Tryz.ntmps55
    go_wp2_with fail
    refine HQ.out.mono ?_
    rintro e w1 ⟨rfl, hb1⟩
    have HB1 := hide hb1
    clear hb1
    go_wp2_with fail
    refine bodyPost_ret (results_tmp2 rfl _ _ _) rfl ?_
    exact ⟨rfl, HB1.out⟩
  · have HQ := hide (quick_no s t hs ht 106 hq w)
    have key : ∀ W, Below w.heap.size w W → Calls Tryz.prog 63 #[.string s, .string t, .func (.func 107) #[] #[]] W (Ret W (pairV (qopS mulC (· * ·) s.data.toList t.data.toList) (qopE mulC s.data.toList t.data.toList))) := by
      intro W hW
      have hBW := Nat.le_trans hB hW.size
      by_cases hb : bothQ s.data.toList t.data.toList = 0
      · obtain ⟨c1, c2⟩ := bothQ_zero hb
        have h4 := four_of c1 c2
        refine qboth_good s t hs ht 107 #[] c1 c2 (enters_of Tryz.func107 (by kernel_rfl) rfl) _ _ B W hBW (HT.out.on hW hB) ?_
        intro W2 hW2
        have h := mul2_any h4 (Int.mul_ne_zero (den_i _) (den_i _)) B W2 (Nat.le_trans hBW hW2.size) ((HT.out.p10.on hW hB).on hW2 hBW)
        unfold qopS qopE
        rw [if_pos hb, if_pos hb]
        rw [divInt_mul] at h
        exact h
      · unfold qopS qopE
        rw [if_neg hb, if_neg hb]
        exact qboth_bad s t hs ht _ hb B W hBW (HT.out.on hW hB)
    have HK := hide key
    obtain ⟨X, hX⟩ : ∃ X, X = strB (qopS mulC (· * ·) s.data.toList t.data.toList) := ⟨_, rfl⟩
    obtain ⟨E, hE⟩ : ∃ E, E = qopE mulC s.data.toList t.data.toList := ⟨_, rfl⟩
    rw [show pairV (qopS mulC (· * ·) s.data.toList t.data.toList) (qopE mulC s.data.toList t.data.toList) = .tuple #[.string X, .int .i64 E] by rw [hX, hE]] at HK ⊢
    clear key hX hE hq hT
    go_enter Tryz.func55, Tryz.ntmps55
    go_wp2_with fail
    refine HQ.out.mono ?_
    rintro e w1 ⟨rfl, hb1⟩
    have HB1 := hide hb1
    clear hb1
    go_wp2_with fail
    refine (HK.out _ HB1.out).mono ?_
    rintro e w3 ⟨rfl, hb3⟩
    have HB3 := hide (HB1.out.trans (hb3.mono HB1.out.size))
    clear hb3
    go_wp2_with fail
    refine bodyPost_ret (results_tmp2 rfl _ _ _) rfl ?_
    exact ⟨rfl, HB3.out⟩
/-- What a quotient answers. -/
def divS (a b : List UInt8) : List UInt8 := if bothQ a b = 0 then (if valQ b = 0 then [] else if cmpC (valQ a) (valQ b) then ratS (valQ a / valQ b) else []) else []
def divE (a b : List UInt8) : Int := if bothQ a b = 0 then (if valQ b = 0 then 12 else if cmpC (valQ a) (valQ b) then 0 else 4) else bothQ a b
theorem ratS_zero : ratS 0 = [48] := by
  have h := ratS_int 0
  rw [itoa_zero] at h
  exact h
theorem zero_text {b : List UInt8} (h : chkQ b = 0) : b = [48] ↔ valQ b = 0 := by
  obtain ⟨e, _⟩ := chkQ_ok h
  constructor
  · intro h1
    refine ratS_inj ?_
    rw [← e, h1]
    exact ratS_zero.symm
  · intro h1
    rw [e, h1]
    exact ratS_zero
theorem num_zero {x : Rat} : x.num = 0 ↔ x = 0 := Rat.num_eq_zero
set_option maxRecDepth 100000 in
set_option maxHeartbeats 4000000 in
theorem qDiv_any (s t : ByteArray) (hs : s.size ≤ 1000000) (ht : t.size ≤ 1000000) (B : Nat) (w : World) (hB : B ≤ w.heap.size) (hT : PQ B w) :
    Calls Tryz.prog 26 #[.string s, .string t] w (Ret w (pairV (divS s.data.toList t.data.toList) (divE s.data.toList t.data.toList))) := by
  have HT := hide hT
  have key : ∀ W, Below w.heap.size w W → Calls Tryz.prog 63 #[.string s, .string t, .func (.func 64) #[] #[]] W (Ret W (pairV (divS s.data.toList t.data.toList) (divE s.data.toList t.data.toList))) := by
    intro W hW
    have hBW := Nat.le_trans hB hW.size
    by_cases hb : bothQ s.data.toList t.data.toList = 0
    · obtain ⟨c1, c2⟩ := bothQ_zero hb
      have h4 := four_of c1 c2
      refine qboth_good s t hs ht 64 #[] c1 c2 (enters_of Tryz.func64 (by kernel_rfl) rfl) _ _ B W hBW (HT.out.on hW hB) ?_
      intro W2 hW2
      unfold divS divE
      rw [if_pos hb, if_pos hb]
      by_cases hz : valQ t.data.toList = 0
      · rw [if_pos hz, if_pos hz]
        exact div2_zero (by rw [strB_list, hz]; exact itoa_zero) W2
      · rw [if_neg hz, if_neg hz]
        have h := div2_any h4 (fun e => hz (num_zero.1 e)) (den_i _) B W2 (Nat.le_trans hBW hW2.size) ((HT.out.p10.on hW hB).on hW2 hBW)
        rw [divInt_div] at h
        exact h
    · unfold divS divE
      rw [if_neg hb, if_neg hb]
      exact qboth_bad s t hs ht _ hb B W hBW (HT.out.on hW hB)
  have HK := hide key
  by_cases h0 : t.data.toList = [48]
  · have ht0 : (t.toList != [48]) = false := by rw [ByteArray.toList_eq, h0]; rfl
    have ht1 := (lit_eq (m := [48]) h0).1 rfl
    obtain ⟨X, hX⟩ : ∃ X, X = strB (divS s.data.toList t.data.toList) := ⟨_, rfl⟩
    obtain ⟨E, hE⟩ : ∃ E, E = divE s.data.toList t.data.toList := ⟨_, rfl⟩
    rw [show pairV (divS s.data.toList t.data.toList) (divE s.data.toList t.data.toList) = .tuple #[.string X, .int .i64 E] by rw [hX, hE]] at HK ⊢
    clear key hX hE hT h0
    go_enter Tryz.func26, Tryz.ntmps26
    go_wp2_with fail
    refine (HK.out _ (Below.refl _ _)).mono ?_
    rintro e w3 ⟨rfl, hb3⟩
    have HB3 := hide hb3
    clear hb3
    go_wp2_with fail
    refine bodyPost_ret (results_tmp2 rfl _ _ _) rfl ?_
    exact ⟨rfl, HB3.out⟩
  have ht0 : (t.toList != [48]) = true := by rw [ByteArray.toList_eq]; simpa using h0
  have ht1 := (lit_eq (m := [48]) (s := t) rfl).2 h0
  by_cases hq : natQ s.data.toList ∧ natQ t.data.toList
  · obtain ⟨k1, _, _, _, k5⟩ := quick_nums hq.1 hq.2
    have hb := zero_bothQ hq.1.1 hq.2.1
    have hz : valQ t.data.toList ≠ 0 := fun e => h0 ((zero_text hq.2.1).2 e)
    have hc : cmpC (valQ s.data.toList) (valQ t.data.toList) := cmpC_of (natQ_sz hq.1) (natQ_sz hq.2) (by rw [most_eq]; omega)
    have e1 : divS s.data.toList t.data.toList = ratS (valQ s.data.toList / valQ t.data.toList) := by unfold divS; rw [if_pos hb, if_neg hz, if_pos hc]
    have e2 : divE s.data.toList t.data.toList = 0 := by unfold divE; rw [if_pos hb, if_neg hz, if_pos hc]
    rw [e1, e2]
    have HQ := hide (quick_yes s t hs ht 62 divFn hq.1 hq.2 rfl rfl (by omega) (by omega) (Int.mul_ne_zero (den_i _) (fun e => hz (num_zero.1 e))) B w hB hT.p10)
    rw [Int.mul_comm ((valQ s.data.toList).den : Int), divInt_div] at HQ
    obtain ⟨X, hX⟩ : ∃ X, X = strB (ratS (valQ s.data.toList / valQ t.data.toList)) := ⟨_, rfl⟩
    rw [show pairV (ratS (valQ s.data.toList / valQ t.data.toList)) 0 = .tuple #[.string X, .int .i64 0] by rw [hX]]
    rw [← hX] at HQ
    clear hX e1 e2 hc hb k1 k5 hq hT h0 hz key HK
    go_enter Tryz.func26, Tryz.ntmps26
    go_wp2_with fail
    refine HQ.out.mono ?_
    rintro e w1 ⟨rfl, hb1⟩
    have HB1 := hide hb1
    clear hb1
    go_wp2_with fail
    refine bodyPost_ret (results_tmp2 rfl _ _ _) rfl ?_
    exact ⟨rfl, HB1.out⟩
  · have HQ := hide (quick_no s t hs ht 62 hq w)
    obtain ⟨X, hX⟩ : ∃ X, X = strB (divS s.data.toList t.data.toList) := ⟨_, rfl⟩
    obtain ⟨E, hE⟩ : ∃ E, E = divE s.data.toList t.data.toList := ⟨_, rfl⟩
    rw [show pairV (divS s.data.toList t.data.toList) (divE s.data.toList t.data.toList) = .tuple #[.string X, .int .i64 E] by rw [hX, hE]] at HK ⊢
    clear key hX hE hq hT h0
    go_enter Tryz.func26, Tryz.ntmps26
    go_wp2_with fail
    refine HQ.out.mono ?_
    rintro e w1 ⟨rfl, hb1⟩
    have HB1 := hide hb1
    clear hb1
    go_wp2_with fail
    refine (HK.out _ HB1.out).mono ?_
    rintro e w3 ⟨rfl, hb3⟩
    have HB3 := hide (HB1.out.trans (hb3.mono HB1.out.size))
    clear hb3
    go_wp2_with fail
    refine bodyPost_ret (results_tmp2 rfl _ _ _) rfl ?_
    exact ⟨rfl, HB3.out⟩
end Go.Proofs.YtgddookioipjiaaGreatDoor
namespace Go.Proofs.YtgddookioipjiaaGreatDoor
open Go.RowKit Go.KP Go.KI Go.Shelf
attribute [local go_sem] Oper.semAt_some

set_option maxRecDepth 100000 in
set_option maxHeartbeats 4000000 in
theorem qCheck_any (s : ByteArray) (hs : s.size ≤ 1000000) (B : Nat) (w : World) (hB : B ≤ w.heap.size) (hT : PQ B w) :
    Calls Tryz.prog 54 #[.string s] w (Ret w (.int .i64 (chkQ s.data.toList))) := by
  have H1 := hide (qread_any s hs B w hB hT)
  by_cases h : chkQ s.data.toList = 0
  · rw [readV_good h] at H1
    rw [h]
    obtain ⟨n, hn⟩ : ∃ n, n = strB (Lib.itoa (valQ s.data.toList).num) := ⟨_, rfl⟩
    obtain ⟨d, hd⟩ : ∃ d, d = strB (Lib.itoa ((valQ s.data.toList).den : Int)) := ⟨_, rfl⟩
    rw [← hn, ← hd] at H1
    clear hn hd h
    go_enter Tryz.func54, Tryz.ntmps54
    go_wp2_with fail
    refine H1.out.mono ?_
    rintro e w1 ⟨rfl, hb1⟩
    have HB1 := hide hb1
    clear hb1
    go_wp2_with fail
    go_ret
    exact ⟨rfl, HB1.out.trans ((heap1 w1 _).2.2.mono HB1.out.size)⟩
  · rw [readV_bad h] at H1
    obtain ⟨E, hE⟩ : ∃ E, E = chkQ s.data.toList := ⟨_, rfl⟩
    rw [← hE] at H1 ⊢
    clear h hE
    go_enter Tryz.func54, Tryz.ntmps54
    go_wp2_with fail
    refine H1.out.mono ?_
    rintro e w1 ⟨rfl, hb1⟩
    have HB1 := hide hb1
    clear hb1
    go_wp2_with fail
    go_ret
    exact ⟨rfl, HB1.out.trans ((heap1 w1 _).2.2.mono HB1.out.size)⟩
/-- What Parts returns. -/
def partsR (l : List UInt8) : Value := if chkQ l = 0 then tripV (Lib.itoa (valQ l).num) (Lib.itoa ((valQ l).den : Int)) 0 else tripV [] [] (chkQ l)
set_option maxRecDepth 100000 in
set_option maxHeartbeats 4000000 in
theorem qParts_any (s : ByteArray) (hs : s.size ≤ 1000000) (B : Nat) (w : World) (hB : B ≤ w.heap.size) (hT : PQ B w) :
    Calls Tryz.prog 94 #[.string s] w (Ret w (partsR s.data.toList)) := by
  have H1 := hide (qread_any s hs B w hB hT)
  have hk : ∃ (n d : ByteArray) (z : Int), readV s.data.toList = .tuple #[partsV n d, .int .i64 z] ∧ partsR s.data.toList = .tuple #[.string n, .string d, .int .i64 z] := by
    by_cases h : chkQ s.data.toList = 0
    · exact ⟨_, _, _, readV_good h, if_pos h⟩
    · exact ⟨_, _, _, readV_bad h, if_neg h⟩
  obtain ⟨n, d, z, e1, e2⟩ := hk
  rw [e1] at H1
  rw [e2]
  clear e1 e2
  go_enter Tryz.func94, Tryz.ntmps94
  go_wp2_with fail
  refine H1.out.mono ?_
  rintro e w1 ⟨rfl, hb1⟩
  have HB1 := hide (hb1.trans ((heap1 w1 (partsO n d)).2.2.mono hb1.size))
  clear hb1
  go_wp2_with fail
  go_quiet (fail)
  go_wp2_with fail
  go_ret3
  exact ⟨rfl, below_drewN HB1.out _⟩
theorem fits_i64 {z : Int} (h0 : -9223372036854775808 ≤ z) (h1 : z ≤ 9223372036854775807) : fits z :=
  fits_small (n := 20) (by rw [most_eq]; omega) (Nat.lt_of_lt_of_le (m := 10000000000000000000) (by omega) (by decide))
set_option maxRecDepth 100000 in
set_option maxHeartbeats 4000000 in
theorem qOf_any (n d : Int) (n0 : -9223372036854775808 ≤ n) (n1 : n ≤ 9223372036854775807) (d0 : -9223372036854775808 ≤ d) (d1 : d ≤ 9223372036854775807) (hd : d ≠ 0) (B : Nat) (w : World) (hB : B ≤ w.heap.size) (hT : PQ B w) :
    Calls Tryz.prog 25 #[.int .i64 n, .int .i64 d] w (Ret w (pairV (ratS (Rat.divInt n d)) 0)) := by
  have HT := hide hT.p10
  have HI := hide (fun w hT => itoa_any n n0 n1 B w hT)
  have z0 : (d == 0) = false := by simpa using hd
  by_cases h1 : d = 1
  · subst h1
    have e1 : ratS (Rat.divInt n 1) = Lib.itoa n := by rw [show (1 : Int) = ((1 : Nat) : Int) from rfl, Rat.divInt_ofNat, Rat.mkRat_one, ratS_int]
    rw [e1]
    obtain ⟨X, hX⟩ : ∃ X, X = strB (Lib.itoa n) := ⟨_, rfl⟩
    rw [show pairV (Lib.itoa n) 0 = .tuple #[.string X, .int .i64 0] by rw [hX]]
    rw [← hX] at HI
    clear hX e1 hd hT
    go_enter Tryz.func25, Tryz.ntmps25
    go_wp2_with fail
    refine (HI.out _ HT.out).mono ?_
    rintro e w1 ⟨rfl, hb1⟩
    have HB1 := hide hb1
    clear hb1
    go_wp2_with fail
    refine bodyPost_ret (results_tmp2 rfl _ _ _) rfl ?_
    exact ⟨rfl, HB1.out⟩
  · have z1 : (d == 1) = false := by simpa using h1
    have HI2 := hide (fun w hT => itoa_any d d0 d1 B w hT)
    have HN := hide (fun w hB hT => qnumber_any (s := strB (Lib.itoa n)) (t := strB (Lib.itoa d)) (strB_list _) (strB_list _) (fits_i64 n0 n1) (fits_i64 d0 d1) hd B w hB hT)
    obtain ⟨X, hX⟩ : ∃ X, X = strB (Lib.itoa n) := ⟨_, rfl⟩
    obtain ⟨Y, hY⟩ : ∃ X, X = strB (Lib.itoa d) := ⟨_, rfl⟩
    obtain ⟨Z, hZ⟩ : ∃ X, X = strB (ratS (Rat.divInt n d)) := ⟨_, rfl⟩
    rw [show pairV (ratS (Rat.divInt n d)) 0 = .tuple #[.string Z, .int .i64 0] by rw [hZ]] at HN ⊢
    rw [← hX] at HI HN
    rw [← hY] at HI2 HN
    clear hX hY hZ hd h1 hT
    go_enter Tryz.func25, Tryz.ntmps25
    go_wp2_with fail
    refine (HI.out _ HT.out).mono ?_
    rintro e w1 ⟨rfl, hb1⟩
    have HB1 := hide hb1
    clear hb1
    go_wp2_with fail
    refine (HI2.out _ (HT.out.on HB1.out hB)).mono ?_
    rintro e w2 ⟨rfl, hb2⟩
    have HB2 := hide (HB1.out.trans (hb2.mono HB1.out.size))
    clear hb2
    go_wp2_with fail
    refine (HN.out _ (Nat.le_trans hB HB2.out.size) (HT.out.on HB2.out hB)).mono ?_
    rintro e w3 ⟨rfl, hb3⟩
    have HB3 := hide (HB2.out.trans (hb3.mono HB2.out.size))
    clear hb3
    go_wp2_with fail
    refine bodyPost_ret (results_tmp2 rfl _ _ _) rfl ?_
    exact ⟨rfl, HB3.out⟩
end Go.Proofs.YtgddookioipjiaaGreatDoor
namespace Go.KI
open Go
theorem strips_drop {k : Nat} (h : k < 25) (c m : Nat) : strips (primes25.drop k) c m = strips (primes25.drop (k + 1)) (stripD (primes25.getD k 0) c m).1 (stripD (primes25.getD k 0) c m).2 := by
  have e : primes25.drop k = primes25.getD k 0 :: primes25.drop (k + 1) := by
    rw [List.drop_eq_getElem_cons (by exact h)]
    congr 1
    rw [List.getD_eq_getElem?_getD, List.getElem?_eq_getElem h]
    rfl
  rw [e]
  rfl
theorem prime_bounds {k : Nat} (h : k < 25) : 2 ≤ primes25.getD k 0 ∧ primes25.getD k 0 ≤ 97 := by
  have key : ∀ k : Fin 25, 2 ≤ primes25.getD k.val 0 ∧ primes25.getD k.val 0 ≤ 97 := by decide
  exact key ⟨k, h⟩
end Go.KI
namespace Go.Proofs.YtgddookioipjiaaGreatDoor
open Go.RowKit Go.KP Go.KI Go.Shelf
attribute [local go_sem] Oper.semAt_some

def primeB (k : Nat) : ByteArray := strB (Lib.decDigits (primes25.getD k 0))
abbrev primesA : Array Value := #[.string (primeB 0), .string (primeB 1), .string (primeB 2), .string (primeB 3), .string (primeB 4), .string (primeB 5), .string (primeB 6), .string (primeB 7), .string (primeB 8), .string (primeB 9), .string (primeB 10), .string (primeB 11), .string (primeB 12), .string (primeB 13), .string (primeB 14), .string (primeB 15), .string (primeB 16), .string (primeB 17), .string (primeB 18), .string (primeB 19), .string (primeB 20), .string (primeB 21), .string (primeB 22), .string (primeB 23), .string (primeB 24)]
/-- What the walks of roots ask of a world beside PQ: the primes stand. -/
structure PR (B : Nat) (w : World) : Prop where
  pq : PQ B w
  lt : 0 < B
  pr : ∃ t fr, w.heap[0]? = some (.cells primesA t fr)
theorem PR.on {B n : Nat} {w w2 : World} (h : PR B w) (hb : Below n w w2) (hB : B ≤ n) : PR B w2 :=
  ⟨h.pq.on hb hB, h.lt, by
    obtain ⟨t, fr, hp⟩ := h.pr
    exact ⟨t, fr, (hb.block _ (Nat.lt_of_lt_of_le h.lt hB)).trans hp⟩⟩
theorem PR.mono {B B2 : Nat} {w : World} (h : PR B w) (hB : B ≤ B2) : PR B2 w := ⟨h.pq.mono hB, Nat.lt_of_lt_of_le h.lt hB, h.pr⟩
set_option maxRecDepth 100000 in
theorem pidx {k : Nat} (h : k < 25) (w : World) : (Instr.index 116 (.agg primesA) (.int .i64 k)).run Tryz.prog w = .ok (.string (primeB k)) w := by
  have hk : k = 0 ∨ k = 1 ∨ k = 2 ∨ k = 3 ∨ k = 4 ∨ k = 5 ∨ k = 6 ∨ k = 7 ∨ k = 8 ∨ k = 9 ∨ k = 10 ∨ k = 11 ∨ k = 12 ∨ k = 13 ∨ k = 14 ∨ k = 15 ∨ k = 16 ∨ k = 17 ∨ k = 18 ∨ k = 19 ∨ k = 20 ∨ k = 21 ∨ k = 22 ∨ k = 23 ∨ k = 24 := by omega
  rcases hk with rfl | rfl | rfl | rfl | rfl | rfl | rfl | rfl | rfl | rfl | rfl | rfl | rfl | rfl | rfl | rfl | rfl | rfl | rfl | rfl | rfl | rfl | rfl | rfl | rfl
  all_goals first | rfl | (refine Eq.trans ?_ rfl; kernel_rfl)
theorem prime_atoi {k : Nat} (h : k < 25) (w : World) : Calls Tryz.prog 95 #[.string (primeB k)] w fun e w' => e = .returned (.tuple #[.int .i64 (primes25.getD k 0), .nilIface]) ∧ Below w.heap.size w w' := by
  obtain ⟨b1, b2⟩ := prime_bounds h
  have hf : chkI (primeB k).data.toList = 0 ∧ valI (primeB k).data.toList = ((primes25.getD k 0 : Nat) : Int) := by
    unfold primeB
    rw [strB_list, ← Lib.itoa_nonneg]
    exact ⟨chk_fits (fits_small (n := 3) (by rw [most_eq]; omega) (by omega)), val_itoa _⟩
  have hs : (primeB k).size ≤ 18 := by
    have key : ∀ k : Fin 25, (primeB k.val).size ≤ 18 := by decide +kernel
    exact key ⟨k, h⟩
  have := atoi_any (primeB k) hf.1 hs w
  rw [hf.2] at this
  exact this
set_option maxRecDepth 100000 in
set_option maxHeartbeats 16000000 in
theorem rNativeNormal_any (n d : Nat) (hn : 0 < n) (hd : 0 < d) (hm : n * d < 1000000000000000000) (B : Nat) (w : World) (hB : B ≤ w.heap.size) (hT : PR B w) :
    Calls Tryz.prog 42 #[.int .i64 n, .int .i64 d] w (Ret w (.tuple #[.string (strB (ratS (Rat.divInt (normN (n * d)).1 d))), .string (strB (Lib.itoa (normN (n * d)).2))])) := by
  have HT := hide hT
  have hl := Nat.lt_of_lt_of_le hT.lt hB
  have hdm : d ≤ n * d := Nat.le_mul_of_pos_left d hn
  have HQ := hide (fun c (c0 : c ≤ 1000000000000000000) w hB hT => qOf_any ((c : Nat) : Int) (d : Int) (by omega) (by omega) (by omega) (by omega) (by omega) B w hB hT)
  obtain ⟨m, hmm⟩ : ∃ m, m = n * d := ⟨_, rfl⟩
  have hnd : (n : Int) * (d : Int) = (m : Int) := by rw [hmm, Int.natCast_mul]
  have hm0 : 0 < m := by rw [hmm]; exact Nat.mul_pos hn hd
  rw [← hmm] at hm hdm ⊢
  obtain ⟨V1, hV1⟩ : ∃ V, V = strB (ratS (Rat.divInt (normN m).1 d)) := ⟨_, rfl⟩
  obtain ⟨V2, hV2⟩ : ∃ V, V = strB (Lib.itoa (normN m).2) := ⟨_, rfl⟩
  rw [← hV1, ← hV2]
  have H1 := hide hV1
  have H2 := hide hV2
  clear hV1 hV2 hmm
  obtain ⟨tt, fr, hg1⟩ := hT.pr
  clear hT hn hd
  go_enter Tryz.func42, Tryz.ntmps42
  go_wp2_with (refine wpList_load_row rfl 116 _ rfl 0 rfl tt _ fr _ hg1 Tryz.underlying116 rfl (by kernel_rfl) ?_)
  clear hg1
  go_loopw [6, 7, 19] (fun cc ll i wr => ∃ c left k : Nat, k ≤ 25 ∧ cc = .int .i64 c ∧ ll = .int .i64 left ∧ i = .int .i64 k ∧ c ≤ m ∧ left ≤ m ∧ 0 < left ∧ 0 < c ∧ Hid (strips (primes25.drop k) c left = strips primes25 1 m ∧ c * c * left = m ∧ Below w.heap.size w wr)) (fun _ _ i _ => 25 - (intOf i).toNat)
  case atStart => exact ⟨1, m, 0, by omega, rfl, rfl, rfl, by omega, Nat.le_refl _, hm0, by omega, ⟨rfl, by omega, Below.refl _ _⟩⟩
  case round =>
    obtain ⟨c, left, k, hk, rfl, rfl, rfl, hc, hl, hl0, hc0, hin⟩ := hrel
    have IN := hide hin.out
    clear hin
    obtain ⟨wo, hwo⟩ : ∃ wo, wo = wr := ⟨_, rfl⟩
    subst hwo
    by_cases hlt : k < 25
    · have hki : (k : Int) < 25 := by omega
      have hpx := fun w => pidx hlt w
      have HA := hide (fun w => prime_atoi hlt w)
      obtain ⟨b1, b2⟩ := prime_bounds hlt
      have HD := hide (strips_drop hlt)
      obtain ⟨q, hq⟩ : ∃ q, q = primes25.getD k 0 := ⟨_, rfl⟩
      rw [← hq] at HA b1 b2 HD
      clear hq hlt
      go_wp2_with fail
      refine (HA.out _).mono ?_
      rintro e w1 ⟨rfl, hb1⟩
      have HB1 := hide (IN.out.2.2.trans (hb1.mono IN.out.2.2.size))
      clear hb1 hpx
      go_wp2_with fail
      go_loopw [6, 7] (fun cc ll wr2 => ∃ c2 l2 : Nat, cc = .int .i64 c2 ∧ ll = .int .i64 l2 ∧ c2 ≤ m ∧ l2 ≤ m ∧ 0 < l2 ∧ 0 < c2 ∧ Hid (stripD q c2 l2 = stripD q c left ∧ c2 * c2 * l2 = m ∧ Below w.heap.size w wr2)) (fun _ ll _ => (intOf ll).toNat)
      case atStart => exact ⟨c, left, rfl, rfl, hc, hl, hl0, hc0, ⟨rfl, IN.out.2.1, HB1.out⟩⟩
      clear hc hl hl0 hc0
      case round =>
        obtain ⟨c2, l2, rfl, rfl, hc2, hl2, hl20, hc20, hin2⟩ := hrel
        have I2 := hide hin2.out
        clear hin2
        obtain ⟨Q, hQ⟩ : ∃ Q, Q = q * q := ⟨_, rfl⟩
        have hQi : (q : Int) * (q : Int) = (Q : Int) := by rw [hQ, Int.natCast_mul]
        have hQ1 : 4 ≤ Q ∧ Q ≤ 9409 := by rw [hQ]; exact ⟨Nat.mul_le_mul b1 b1, Nat.mul_le_mul b2 b2⟩
        have hQ0 : ((Q : Int) == 0) = false := by simp only [beq_eq_false_iff_ne, ne_eq]; omega
        obtain ⟨r, hr⟩ : ∃ r, r = l2 % Q := ⟨_, rfl⟩
        have hri : (l2 : Int) % (Q : Int) = (r : Int) := by rw [hr, Int.natCast_emod]
        by_cases h0 : r = 0
        · have hr0 : ((r : Int) == 0) = true := by simp [h0]
          obtain ⟨l3, hl3⟩ : ∃ l3, l3 = l2 / Q := ⟨_, rfl⟩
          have hdi : (l2 : Int) / (Q : Int) = (l3 : Int) := by rw [hl3, Int.natCast_ediv]
          have hst := stripD_step (c := c2) b1 hl20 (by rw [← hQ, ← hr]; exact h0)
          obtain ⟨q1, q2⟩ := strip_less b1 hl20 (by rw [← hQ, ← hr]; exact h0)
          rw [← hQ, ← hl3] at hst q1 q2
          obtain ⟨c3, hc3⟩ : ∃ c3, c3 = c2 * q := ⟨_, rfl⟩
          have hci : (c2 : Int) * (q : Int) = (c3 : Int) := by rw [hc3, Int.natCast_mul]
          rw [← hc3] at hst
          have hm3 : c3 * c3 * l3 = m := by
            have hdm := Nat.div_add_mod l2 Q
            rw [← hr, h0, ← hl3, Nat.add_zero] at hdm
            rw [← I2.out.2.1, ← hdm, hc3, hQ]
            grind
          have hc30 : 0 < c3 := by rw [hc3]; exact Nat.mul_pos hc20 (by omega)
          have hc3m : c3 ≤ m := by
            have h1 : c3 * 1 ≤ c3 * (c3 * l3) := Nat.mul_le_mul (Nat.le_refl _) (Nat.mul_pos hc30 q1)
            rw [← Nat.mul_assoc, hm3] at h1
            omega
          have H3 := hide (⟨hst.symm.trans I2.out.1, hm3⟩ : stripD q c3 l3 = stripD q c left ∧ c3 * c3 * l3 = m)
          have hq2 : l3 < l2 := q2
          clear hst hm3 hc3 hl3 hr hQ h0 q2
          go_wp2_with fail
          go_quiet (fail)
          go_wp2_with fail
          go_roundw
          case rel => exact ⟨c3, l3, rfl, rfl, hc3m, by omega, q1, hc30, ⟨H3.out.1, H3.out.2, below_drewN I2.out.2.2 _⟩⟩
          case measure => simp [intOf]; omega
        · have hr0 : ((r : Int) == 0) = false := by simp only [beq_eq_false_iff_ne, ne_eq]; omega
          have hst := stripD_stop (q := q) (c := c2) hl20 (by rw [← hQ, ← hr]; exact h0)
          have hst2 := HD.out c left
          rw [← I2.out.1, hst] at hst2
          have H3 := hide (hst2.symm.trans IN.out.1)
          clear hst hst2 hr hQ h0
          go_wp2_with fail
          go_roundw
          case rel => exact ⟨c2, l2, k + 1, by omega, rfl, rfl, by simp, hc2, hl2, hl20, hc20, ⟨H3.out, I2.out.2.1, I2.out.2.2⟩⟩
          case measure => simp [intOf]; omega
    · obtain rfl : k = 25 := by omega
      have HE : Hid ((c, left) = strips primes25 1 m) := hide IN.out.1
      have HRT := hide (fun w => rNativeRoot_any left (by omega) w)
      obtain ⟨r, hr⟩ : ∃ r, r = rootN left := ⟨_, rfl⟩
      have hsp := (rootN_spec left).1
      have hcl : normN m = if r * r = left then (c * r, 1) else (c, left) := by
        unfold normN closeN
        rw [← HE.out, hr]
      rw [← hr] at HRT hsp
      obtain ⟨rr, hrr⟩ : ∃ x, x = r * r := ⟨_, rfl⟩
      have hri : (r : Int) * (r : Int) = (rr : Int) := by rw [hrr, Int.natCast_mul]
      rw [← hrr] at hcl hsp
      by_cases heq : rr = left
      · obtain ⟨c2, hc2⟩ : ∃ x, x = c * r := ⟨_, rfl⟩
        have hci : (c : Int) * (r : Int) = (c2 : Int) := by rw [hc2, Int.natCast_mul]
        have hc2m : c2 ≤ m := by
          have e : c2 * c2 = m := by
            rw [← IN.out.2.1, ← heq, hrr, hc2]
            grind
          rcases Nat.eq_zero_or_pos c2 with h | h
          · omega
          · have := Nat.le_mul_of_pos_left c2 h
            omega
        rw [if_pos heq, ← hc2] at hcl
        have hQ := HQ.out c2 (by omega)
        have e1 : pairV (ratS (Rat.divInt ((c2 : Nat) : Int) (d : Int))) 0 = .tuple #[.string V1, .int .i64 0] := by rw [H1.out, hcl]
        rw [e1] at hQ
        have HQ2 := hide hQ
        have HI := hide (fun w hT => itoa_any 1 (by omega) (by omega) B w hT)
        have e2 : strB (Lib.itoa 1) = V2 := by rw [H2.out, hcl]; rfl
        rw [e2] at HI
        have hq : ((rr : Int) == (left : Int)) = true := by simp [heq]
        clear hlt hr hrr hcl heq hc2 e1 e2 hQ
        go_wp2_with fail
        refine (HRT.out _).mono ?_
        rintro e w1 ⟨rfl, hb1⟩
        have HB1 := hide (IN.out.2.2.trans (hb1.mono IN.out.2.2.size))
        clear hb1
        go_wp2_with fail
        refine (HQ2.out _ (Nat.le_trans hB HB1.out.size) (HT.out.on HB1.out hB).pq).mono ?_
        rintro e w2 ⟨rfl, hb2⟩
        have HB2 := hide (HB1.out.trans (hb2.mono HB1.out.size))
        clear hb2
        go_wp2_with fail
        refine (HI.out _ (HT.out.on HB2.out hB).pq.p10).mono ?_
        rintro e w3 ⟨rfl, hb3⟩
        have HB3 := hide (HB2.out.trans (hb3.mono HB2.out.size))
        clear hb3
        go_wp2_with fail
        refine bodyPost_ret (results_tmp2 rfl _ _ _) rfl ?_
        exact ⟨rfl, HB3.out⟩
      · rw [if_neg heq] at hcl
        have hQ := HQ.out c (by omega)
        have e1 : pairV (ratS (Rat.divInt ((c : Nat) : Int) (d : Int))) 0 = .tuple #[.string V1, .int .i64 0] := by rw [H1.out, hcl]
        rw [e1] at hQ
        have HQ2 := hide hQ
        have HI := hide (fun w hT => itoa_any left (by omega) (by omega) B w hT)
        have e2 : strB (Lib.itoa left) = V2 := by rw [H2.out, hcl]
        rw [e2] at HI
        have hq : ((rr : Int) == (left : Int)) = false := by simp only [beq_eq_false_iff_ne, ne_eq]; omega
        clear hlt hr hrr hcl heq e1 e2 hQ
        go_wp2_with fail
        refine (HRT.out _).mono ?_
        rintro e w1 ⟨rfl, hb1⟩
        have HB1 := hide (IN.out.2.2.trans (hb1.mono IN.out.2.2.size))
        clear hb1
        go_wp2_with fail
        refine (HQ2.out _ (Nat.le_trans hB HB1.out.size) (HT.out.on HB1.out hB).pq).mono ?_
        rintro e w2 ⟨rfl, hb2⟩
        have HB2 := hide (HB1.out.trans (hb2.mono HB1.out.size))
        clear hb2
        go_wp2_with fail
        refine (HI.out _ (HT.out.on HB2.out hB).pq.p10).mono ?_
        rintro e w3 ⟨rfl, hb3⟩
        have HB3 := hide (HB2.out.trans (hb3.mono HB2.out.size))
        clear hb3
        go_wp2_with fail
        refine bodyPost_ret (results_tmp2 rfl _ _ _) rfl ?_
        exact ⟨rfl, HB3.out⟩
end Go.Proofs.YtgddookioipjiaaGreatDoor
