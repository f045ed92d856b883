/-
  The reference's integers: Compare walked.; The reference's rational numbers: the parts of a number's text, the reference's integers at good texts.; The reference's rational numbers: a number of two integers (make2) walked.; The reference's rational numbers: products, sums, differences, quotients walked.; The reference's rational numbers: Add, Sub, Mul, Compare walked.
-/
import Derived.Test.YtbfojhneajedmaaGreatDoorM14
import Derived.Test.YtbfojhneajedmaaGreatDoorM11
import Derived.Test.YtbfojhneajedmaaGreatDoorM15
import Derived.Test.YtbfojhneajedmaaGreatDoorM16
namespace Go.Proofs.YtbfojhneajedmaaGreatDoor
open Go.RowKit Go.KP Go.KI Go.Shelf
attribute [local go_sem] Oper.semAt_some

theorem cmp_cases (x y : Int) : (x < y ∧ Lib.compareInt x y = -1) ∨ (y < x ∧ Lib.compareInt x y = 1) ∨ (x = y ∧ Lib.compareInt x y = 0) := by
  have h1 := cmp_bound x y
  have h2 := cmp_zero (x := x) (y := y)
  unfold Lib.compareInt at *
  rcases Int.lt_trichotomy x y with h | h | h
  · exact .inl ⟨h, by simp [h]⟩
  · exact .inr (.inr ⟨h, by simp [h]⟩)
  · exact .inr (.inl ⟨h, by simp [h, show ¬ x < y by omega]⟩)
set_option maxRecDepth 100000 in
set_option maxHeartbeats 4000000 in
theorem rCompare_any (s t : ByteArray) (w : World) (hs : s.size ≤ 1000000) (ht : t.size ≤ 1000000) :
    Calls Tryz.prog 185 #[.string s, .string t] w (Ret w (.tuple #[.int .i64 (cmpV s.data.toList t.data.toList), .int .i64 (bothI s.data.toList t.data.toList)])) := by
  have H1 := hide (rboth_any s t hs ht w)
  by_cases hE : bothI s.data.toList t.data.toList = 0
  · have e1 : cmpV s.data.toList t.data.toList = Lib.compareInt (valI s.data.toList) (valI t.data.toList) := if_pos hE
    obtain ⟨c1, c2, _, _⟩ := op2_good (f := (· + ·)) hE
    rw [e1, hE]
    rw [hE] at H1
    clear e1 hE hs ht
    obtain ⟨V, hV⟩ : ∃ V, V = Lib.compareInt (valI s.data.toList) (valI t.data.toList) := ⟨_, rfl⟩
    rw [← hV]
    have hcmp := cmp_cases (valI s.data.toList) (valI t.data.toList)
    rw [← hV] at hcmp
    by_cases hsm : s.size ≤ 17 ∧ t.size ≤ 17
    · have H2 := hide (fun w => rtwo_yes s t c1 c2 hsm.1 hsm.2 w)
      obtain ⟨x, hx⟩ : ∃ x, x = valI s.data.toList := ⟨_, rfl⟩
      obtain ⟨y, hy⟩ : ∃ y, y = valI t.data.toList := ⟨_, rfl⟩
      rw [← hx, ← hy] at H2 hcmp
      clear c1 c2 hsm hx hy hV
      rcases hcmp with ⟨h, rfl⟩ | ⟨h, rfl⟩ | ⟨h, rfl⟩
      case' inl => have t1 : x < y := h
      case' inr.inl =>
        have t1 : (x < y) = False := eq_false (by omega)
        have t2 : y < x := h
      case' inr.inr =>
        have t1 : (x < y) = False := eq_false (by omega)
        have t2 : (y < x) = False := eq_false (by omega)
      all_goals
        clear h
        go_enter Tryz.func185, Tryz.ntmps185
        go_wp2_with fail
        refine H1.out.mono ?_
        rintro e w1 ⟨rfl, hb1⟩
        have HB1 := hide hb1
        clear hb1 H1
        go_wp2_with fail
        refine (H2.out _).mono ?_
        rintro e w2 ⟨rfl, hb2⟩
        have HB2 := hide (HB1.out.trans (hb2.mono HB1.out.size))
        clear hb2 H2 HB1
        go_wp2_with fail
        refine bodyPost_ret (results_tmp2 rfl _ _ _) rfl ?_
        exact ⟨rfl, HB2.out⟩
    · have H2 := hide (fun w => rtwo_no s t c1 hsm w)
      have R1 := hide (fun w => rread_good s c1 w)
      have R2 := hide (fun w => rread_good t c2 w)
      clear c1 c2 hsm hV
      have HCMP := hide hcmp
      clear hcmp
      go_enter Tryz.func185, Tryz.ntmps185
      go_wp2_with fail
      refine H1.out.mono ?_
      rintro e w1 ⟨rfl, hb1⟩
      have HB1 := hide hb1
      clear hb1 H1
      go_wp2_with fail
      refine (H2.out _).mono ?_
      rintro e w2 ⟨x0, y0, rfl, hb2⟩
      have HB2 := hide (HB1.out.trans (hb2.mono HB1.out.size))
      clear hb2 H2 HB1
      go_wp2_with fail
      refine (R1.out _).mono ?_
      rintro e w3 ⟨m1, v1, l1, rfl, hb3, o1, n1, q1, k1⟩
      obtain ⟨a1, g1, hvf, _, _⟩ := o1.form
      subst hvf
      have HB3 := hide (HB2.out.trans (hb3.mono HB2.out.size))
      have O1 := hide o1; have N1 := hide n1; have Q1 := hide q1
      clear hb3 HB2 R1 o1 n1 q1
      go_wp2_with fail
      refine (R2.out _).mono ?_
      rintro e w4 ⟨m2, v2, l2, rfl, hb4, o2, n2, q2, k2⟩
      obtain ⟨a2, g2, hvf, _, _⟩ := o2.form
      subst hvf
      have HB4 := hide (HB3.out.trans (hb4.mono HB3.out.size))
      have O1' := hide (O1.out.keep hb4)
      have O2 := hide o2; have N2 := hide n2; have Q2 := hide q2
      clear hb4 HB3 R2 o2 n2 q2 O1
      go_wp2_with fail
      refine (rnegative_any m2 a2 g2 l2 w4).mono ?_
      rintro e w41 ⟨m21, rfl, hb41, q21⟩
      have HB41 := hide (HB4.out.trans (hb41.mono HB4.out.size))
      have O11 := hide (O1'.out.keep hb41)
      have O21 := hide (O2.out.keep hb41)
      have Q21 := hide q21
      clear hb41 q21 O1' O2 HB4
      go_wp2_with fail
      refine (radd_any m1 m21 a1 a2 g1 g2 l1 l2 w41 (.of_own O11.out) (.of_own O21.out) N1.out N2.out (by omega) (by omega)).mono ?_
      rintro e w5 ⟨m3, v3, l3, rfl, hb5, o3, n3, q3, k3⟩
      obtain ⟨a3, g3, hvf, _, _⟩ := o3.form
      subst hvf
      have HB5 := hide (HB41.out.trans (hb5.mono HB41.out.size))
      have hq3 : valS m3 (lv 1000000 l3) = valI s.data.toList - valI t.data.toList := by
        rw [q3, Q1.out, Q21.out, Q2.out]
        omega
      have hcmp := HCMP.out
      have hpos : l3 ≠ [] → 1 ≤ lv 1000000 l3 := fun h => by
        rcases Nat.eq_zero_or_pos (lv 1000000 l3) with h1 | h1
        · exact absurd ((n3.zero (by omega)).1 h1) h
        · exact h1
      have hres : (l3 = [] ∧ V = 0) ∨ (l3 ≠ [] ∧ m3 = true ∧ V = -1) ∨ (l3 ≠ [] ∧ m3 = false ∧ V = 1) := by
        by_cases h : l3 = []
        · refine .inl ⟨h, ?_⟩
          have h0 : valS m3 (lv 1000000 l3) = 0 := by rw [h]; cases m3 <;> rfl
          omega
        · have h1 := hpos h
          cases m3
          · exact .inr (.inr ⟨h, rfl, by simp [valS] at hq3; omega⟩)
          · exact .inr (.inl ⟨h, rfl, by simp [valS] at hq3; omega⟩)
      have F0 := hide (heap1 w5 (bigO m3 (.slice a3 l3.length g3)))
      clear hb5 q3 hq3 hpos HCMP hcmp HB41 O11 O21 N1 N2 Q1 Q2 Q21 o3 n3
      rcases hres with ⟨h, rfl⟩ | ⟨h, rfl, rfl⟩ | ⟨h, rfl, rfl⟩
      case' inl => have hl0 : ((l3.length : Int) == 0) = true := by rw [h]; rfl
      case' inr.inl =>
        have hl0 : ((l3.length : Int) == 0) = false := by
          have : l3.length ≠ 0 := fun h2 => h (List.eq_nil_of_length_eq_zero h2)
          simp only [beq_eq_false_iff_ne, ne_eq]
          omega
      case' inr.inr =>
        have hl0 : ((l3.length : Int) == 0) = false := by
          have : l3.length ≠ 0 := fun h2 => h (List.eq_nil_of_length_eq_zero h2)
          simp only [beq_eq_false_iff_ne, ne_eq]
          omega
      all_goals
        clear h
        obtain ⟨b0, bs0, bb0⟩ := F0.out
        have z0 := cell_blk b0 0
        have z1 := cell_blk b0 1
        have f0 := froz_blk b0 0
        have f1 := froz_blk b0 1
        have HB6 := hide (HB5.out.trans (bb0.mono HB5.out.size))
        clear b0 bs0 bb0
        go_wp2_with fail
        refine bodyPost_ret (results_tmp2 rfl _ _ _) rfl ?_
        exact ⟨rfl, HB6.out⟩
  · have e1 : cmpV s.data.toList t.data.toList = 0 := if_neg hE
    rw [e1]
    have hne : (bothI s.data.toList t.data.toList != 0) = true := by simpa using hE
    obtain ⟨E, hEE⟩ : ∃ E, E = bothI s.data.toList t.data.toList := ⟨_, rfl⟩
    rw [← hEE] at H1 hne ⊢
    clear e1 hE hEE
    go_enter Tryz.func185, Tryz.ntmps185
    go_wp2_with fail
    refine H1.out.mono ?_
    rintro e w1 ⟨rfl, hb1⟩
    have HB1 := hide hb1
    clear hb1 H1
    go_wp2_with fail
    refine bodyPost_ret (results_tmp2 rfl _ _ _) rfl ?_
    exact ⟨rfl, HB1.out⟩
end Go.Proofs.YtbfojhneajedmaaGreatDoor
namespace Go.KI
open Go
theorem isNeg_ratS (q : Rat) : isNeg (ratS q) = decide (q.num < 0) := by
  unfold isNeg
  exact decide_eq_decide.2 ratS_head
theorem cutD_ratS (q : Rat) : ahead 47 (digs (ratS q)) = Lib.decDigits q.num.natAbs ∧ (47 ∈ digs (ratS q) ↔ q.den ≠ 1) ∧ (q.den ≠ 1 → behind 47 (digs (ratS q)) = Lib.decDigits q.den) := by
  have hn : ∀ c ∈ Lib.decDigits q.num.natAbs, c ≠ 47 := fun c hc => by have := dec_no47 _ c hc; simpa using this
  rw [(digs_ratS q).1]
  by_cases h : q.den = 1
  · rw [if_pos h, List.append_nil]
    have h47 : ¬ 47 ∈ Lib.decDigits q.num.natAbs := fun e => hn 47 e rfl
    exact ⟨cut_not h47, ⟨fun e => absurd e h47, fun e => absurd h e⟩, fun e => absurd h e⟩
  · rw [if_neg h]
    obtain ⟨a, b, c⟩ := cut_at (c := 47) (a := Lib.decDigits q.num.natAbs) (b := Lib.decDigits q.den) hn
    exact ⟨a, ⟨fun _ => h, fun _ => c⟩, fun _ => b⟩
theorem dec1_len : (Lib.decDigits 1).length = 1 := by rw [one_dec]; rfl
/-- Are both parts of a number short? -/
def shortQ (q : Rat) : Prop := (Lib.decDigits q.num.natAbs).length ≤ 9 ∧ (Lib.decDigits q.den).length ≤ 9
instance (q : Rat) : Decidable (shortQ q) := inferInstanceAs (Decidable (_ ∧ _))
theorem shortQ_lt {q : Rat} (h : shortQ q) : q.num.natAbs < 1000000000 ∧ q.den < 1000000000 := ⟨(dec_len_le (n := 9) (by omega)).1 h.1, (dec_len_le (n := 9) (by omega)).1 h.2⟩
end Go.KI
namespace Go.Proofs.YtbfojhneajedmaaGreatDoor
open Go.RowKit Go.KP Go.KI Go.Shelf
attribute [local go_sem] Oper.semAt_some

theorem rMul_I {x y : Int} (f1 : fits x) (f2 : fits y) (B : Nat) (w : World) (hB : B ≤ w.heap.size) (hT : P10 B w) :
    Calls Tryz.prog 214 #[.string (iB x), .string (iB y)] w (Ret w (pairV (resS (x * y)) (resE (x * y)))) := by
  obtain ⟨_, _, b, l1, l2, v1, v2⟩ := iB_both f1 f2
  obtain ⟨_, _, e1, e2⟩ := op2_good (f := (· * ·)) b
  have := rMul_any _ _ B w l1 l2 hB hT
  rw [e1, e2, v1, v2] at this
  exact this
theorem rAdd_I {x y : Int} (f1 : fits x) (f2 : fits y) (B : Nat) (w : World) (hB : B ≤ w.heap.size) (hT : P10 B w) :
    Calls Tryz.prog 181 #[.string (iB x), .string (iB y)] w (Ret w (pairV (resS (x + y)) (resE (x + y)))) := by
  obtain ⟨_, _, b, l1, l2, v1, v2⟩ := iB_both f1 f2
  obtain ⟨_, _, e1, e2⟩ := op2_good (f := (· + ·)) b
  have := rAdd_any _ _ B w l1 l2 hB hT
  rw [e1, e2, v1, v2] at this
  exact this
theorem rGcd_I {x y : Int} (f1 : fits x) (f2 : fits y) (B : Nat) (w : World) (hB : B ≤ w.heap.size) (hT : P10 B w) :
    Calls Tryz.prog 175 #[.string (iB x), .string (iB y)] w (Ret w (.tuple #[.string (iB (Nat.gcd x.natAbs y.natAbs : Nat)), .int .i64 0])) := by
  obtain ⟨c1, c2, _, _, _, v1, v2⟩ := iB_both f1 f2
  by_cases hl : (iB x).size ≤ 17 ∧ (iB y).size ≤ 17
  · have := rGcd_small _ _ B w c1 c2 hl.1 hl.2 hB hT
    rw [v1, v2] at this
    exact this
  · have := rGcd_long _ _ w c1 c2 hl
    rw [v1, v2] at this
    exact this
theorem rDivide_I {x y : Int} (f1 : fits x) (f2 : fits y) (hy : 0 < y) (B : Nat) (w : World) (hB : B ≤ w.heap.size) (hT : P10 B w) :
    Calls Tryz.prog 213 #[.string (iB x), .string (iB y)] w (Ret w (.tuple #[.string (iB (x / y)), .string (iB (x % y)), .int .i64 0])) := by
  obtain ⟨c1, c2, _, _, _, v1, v2⟩ := iB_both f1 f2
  have h0 : (iB y).data.toList ≠ [48] := fun e => by
    rw [iB_list] at e
    have := itoa_inj (e.trans itoa_zero.symm)
    omega
  have e1 : x.fdiv y = x / y := Int.fdiv_eq_ediv_of_nonneg _ (by omega)
  have e2 : x.fmod y = x % y := Int.fmod_eq_emod_of_nonneg _ (by omega)
  by_cases hl : (iB x).size ≤ 17 ∧ (iB y).size ≤ 17
  · have := rDivide_small _ _ B w c1 c2 hl.1 hl.2 h0 hB hT
    rw [v1, v2, e1, e2] at this
    exact this
  · have := rDivide_long _ _ w c1 c2 hl h0
    rw [v1, v2, e1, e2] at this
    exact this
theorem rCompare_I {x y : Int} (f1 : fits x) (f2 : fits y) (w : World) :
    Calls Tryz.prog 185 #[.string (iB x), .string (iB y)] w (Ret w (.tuple #[.int .i64 (Lib.compareInt x y), .int .i64 0])) := by
  obtain ⟨_, _, b, l1, l2, v1, v2⟩ := iB_both f1 f2
  have := rCompare_any _ _ w l1 l2
  rw [b] at this
  unfold cmpV at this
  rw [if_pos b, v1, v2] at this
  exact this
theorem signed_abs (z : Int) : (if decide (z < 0) = true then -((z.natAbs : Nat) : Int) else ((z.natAbs : Nat) : Int)) = z := by
  by_cases h : z < 0
  · rw [decide_eq_true h, if_pos rfl]; omega
  · rw [decide_eq_false h, if_neg (by simp)]; omega
/-- What ints returns for a number. -/
def intsQ (q : Rat) : Value := if shortQ q then .tuple #[.int .i64 q.num, .int .i64 (q.den : Int), .bool true] else .tuple #[.int .i64 0, .int .i64 0, .bool false]
theorem r2ints_T {q : Rat} (fq : fitsQ q) (w : World) : Calls Tryz.prog 145 #[.string (T q)] w (Ret w (intsQ q)) := by
  obtain ⟨h1, h2, h3⟩ := cutD_ratS q
  have h := r2ints_any (T q) (T_good fq).1 (by rw [T_list, h1]; exact decDigits_dg _) (by
    rw [T_list]
    intro h47
    rw [h3 (h2.1 h47)]
    exact decDigits_dg _) w
  have e : intsV (T q).data.toList = intsQ q := by
    unfold intsV intsQ
    rw [T_list, h1, isNeg_ratS]
    by_cases hd : q.den = 1
    · have hn : ¬ 47 ∈ digs (ratS q) := fun e => h2.1 e hd
      rw [if_neg hn]
      have hs : shortQ q ↔ ¬ (9 < (Lib.decDigits q.num.natAbs).length ∨ 9 < ([] : List UInt8).length) := by
        unfold shortQ
        rw [hd, dec1_len, List.length_nil]
        omega
      by_cases hh : shortQ q
      · rw [if_pos hh, if_neg (hs.1 hh), if_neg hn, hd, dv_decDigits]
        rw [signed_abs]
        rfl
      · rw [if_neg hh, if_pos (Decidable.not_not.1 fun e => hh (hs.2 e))]
    · have hn : 47 ∈ digs (ratS q) := h2.2 hd
      rw [if_pos hn, h3 hd]
      have hs : shortQ q ↔ ¬ (9 < (Lib.decDigits q.num.natAbs).length ∨ 9 < (Lib.decDigits q.den).length) := by
        unfold shortQ
        omega
      by_cases hh : shortQ q
      · rw [if_pos hh, if_neg (hs.1 hh), if_pos hn, dv_decDigits, dv_decDigits]
        rw [signed_abs]
      · rw [if_neg hh, if_pos (Decidable.not_not.1 fun e => hh (hs.2 e))]
  rw [e] at h
  exact h
theorem r2parts_T {q : Rat} (fq : fitsQ q) (w : World) : Calls Tryz.prog 147 #[.string (T q)] w (Ret w (.tuple #[.string (iB q.num), .string (iB (q.den : Int))])) := by
  obtain ⟨h1, h2, h3⟩ := cutD_ratS q
  have h := r2parts_any (T q) (T_good fq).1 w
  have e : partsR2 (T q).data.toList = .tuple #[.string (iB q.num), .string (iB (q.den : Int))] := by
    unfold partsR2
    rw [T_list, h1, isNeg_ratS]
    have e1 : (if decide (q.num < 0) = true then [45] else []) ++ Lib.decDigits q.num.natAbs = Lib.itoa q.num := by
      rcases itoa_cases q.num with ⟨a, b⟩ | ⟨a, b⟩
      · rw [b, decide_eq_true a]; rfl
      · rw [b, decide_eq_false (by omega)]; rfl
    have e2 : (if 47 ∈ digs (ratS q) then KI.behind 47 (digs (ratS q)) else [49]) = Lib.itoa (q.den : Int) := by
      rw [Lib.itoa_nonneg]
      by_cases hd : q.den = 1
      · rw [if_neg (fun e => h2.1 e hd), hd, one_dec]
      · rw [if_pos (h2.2 hd), h3 hd]
    rw [e1, e2]
    rfl
  rw [e] at h
  exact h
theorem r2Check_T {q : Rat} (fq : fitsQ q) (B : Nat) (w : World) (hB : B ≤ w.heap.size) (hT : PQ B w) : Calls Tryz.prog 109 #[.string (T q)] w (Ret w (.int .i64 0)) := by
  have h := r2Check_any (T q) (T_good fq).1 B w hB hT
  rw [(T_good fq).2.1] at h
  exact h
end Go.Proofs.YtbfojhneajedmaaGreatDoor
namespace Go.Proofs.YtbfojhneajedmaaGreatDoor
open Go.RowKit Go.KP Go.KI Go.Shelf
attribute [local go_sem] Oper.semAt_some

theorem iB_short {z : Int} (h : (iB z).size ≤ 18) : z.natAbs < 1000000000000000000 := by
  rw [← bytes_len, iB_list] at h
  refine (dec_len_le (n := 18) (by omega)).1 ?_
  rcases itoa_cases z with ⟨_, a⟩ | ⟨_, a⟩
  · rw [a, List.length_cons] at h; omega
  · rw [a] at h; exact h
theorem iB_dv {z : Int} (h : 0 ≤ z) : dv (iB z).data.toList = z.natAbs ∧ ∀ c ∈ (iB z).data.toList, isDg c = true := by
  rw [iB_nonneg h]
  exact ⟨dv_decDigits _, decDigits_dg _⟩
/-- The texts that make2 ends with. -/
theorem make_text {n d : Int} (hd : 0 < d) : (d / (Nat.gcd n.natAbs d.natAbs : Nat) = 1 → iB (n / (Nat.gcd n.natAbs d.natAbs : Nat)) = T (Rat.divInt n d)) ∧
    (d / (Nat.gcd n.natAbs d.natAbs : Nat) ≠ 1 → iB (n / (Nat.gcd n.natAbs d.natAbs : Nat)) ++ ⟨#[47]⟩ ++ iB (d / (Nat.gcd n.natAbs d.natAbs : Nat)) = T (Rat.divInt n d)) := by
  have h := ratS_of (n := n) hd
  constructor
  · intro h1
    rw [if_pos h1] at h
    apply bytes_eq
    rw [iB_list, T_list, h]
  · intro h1
    rw [if_neg h1] at h
    apply bytes_eq
    rw [T_list, h]
    simp [iB, strB]
/-- What the walk of make2 asks of the two integers, once the denominator is positive. -/
structure MakeOk (n d : Int) : Prop where
  pos : 0 < d
  fn : fits n
  fd : fits d
set_option maxRecDepth 100000 in
set_option maxHeartbeats 16000000 in
theorem r2make_any {n d : Int} (hd : d ≠ 0) (fn : fits n) (fd : fits d) (B : Nat) (w : World) (hB : B ≤ w.heap.size) (hT : P10 B w) :
    Calls Tryz.prog 182 #[.string (iB n), .string (iB d)] w (Ret w (.tuple #[.string (T (Rat.divInt n d)), .int .i64 0])) := by
  have HT := hide hT
  -- the normalized integers
  obtain ⟨n', d', hpos, fn', fd', hX, hst⟩ : ∃ n' d' : Int, 0 < d' ∧ fits n' ∧ fits d' ∧ Rat.divInt n d = Rat.divInt n' d' ∧ ((n' = n ∧ d' = d ∧ ¬ d < 0) ∨ (d < 0 ∧ d' = -d ∧ n' = -n)) := by
    by_cases h : d < 0
    · exact ⟨-n, -d, by omega, fits_of_le fn (by omega), fits_of_le fd (by omega), (Rat.divInt_eq_divInt_iff hd (by omega)).2 (by rw [Int.mul_neg, Int.neg_mul]), .inr ⟨h, rfl, rfl⟩⟩
    · exact ⟨n, d, by omega, fn, fd, rfl, .inl ⟨rfl, rfl, h⟩⟩
  rw [hX]
  clear hX
  -- the start
  obtain ⟨hn0, ehn⟩ := iB_head n
  obtain ⟨hd0, ehd⟩ := iB_head d
  have zn := iB_zero_test n
  have hszN := iB_size fn
  have hszD := iB_size fd
  have hpn : (0 : Int) < ((iB n).size : Int) := by omega
  have hpd : (0 : Int) < ((iB d).size : Int) := by omega
  have hpn1 : (1 : Int) ≤ ((iB n).size : Int) := by omega
  have hpd1 : (1 : Int) ≤ ((iB d).size : Int) := by omega
  have hcat : (9223372036854775807 < 1 + (iB n).size) = False := eq_false (by omega)
  have hcases : (((((iB d)[0]'hd0).toNat : Nat) : Int) == 45) = false ∧ iB n = iB n' ∧ iB d = iB d' ∨
      ((((((iB d)[0]'hd0).toNat : Nat) : Int) == 45) = true ∧ (iB d).extract 1 (iB d).size = iB d' ∧
        ((((((iB n)[0]'hn0).toNat : Nat) : Int) == 45) = true ∧ (iB n).extract 1 (iB n).size = iB n' ∨
         ((((((iB n)[0]'hn0).toNat : Nat) : Int) == 45) = false ∧ (((iB n).toList == [48]) = true ∧ iB n = iB n' ∨ ((iB n).toList == [48]) = false ∧ (⟨#[45]⟩ : ByteArray) ++ iB n = iB n')))) := by
    rcases hst with ⟨rfl, rfl, h⟩ | ⟨h, rfl, rfl⟩
    · exact .inl ⟨by rw [ehd, decide_eq_false h], rfl, rfl⟩
    · refine .inr ⟨by rw [ehd, decide_eq_true h], iB_neg_drop h, ?_⟩
      by_cases hn : n < 0
      · exact .inl ⟨by rw [ehn, decide_eq_true hn], iB_neg_drop hn⟩
      · refine .inr ⟨by rw [ehn, decide_eq_false hn], ?_⟩
        by_cases hz : n = 0
        · exact .inl ⟨by rw [zn, decide_eq_true hz], by rw [hz]; rfl⟩
        · exact .inr ⟨by rw [zn, decide_eq_false hz], iB_pos_neg (by omega)⟩
  clear hst ehn ehd zn fn fd hd
  -- the end
  obtain ⟨hn2, ehn2⟩ := iB_head n'
  have hs1 := iB_size fn'
  have hs2 := iB_size fd'
  have hq1 : (1 : Int) ≤ ((iB n').size : Int) := by omega
  have hq0 : (0 : Int) < ((iB n').size : Int) := by omega
  have hway : (((iB n').size : Int) ≤ 18 ∧ ((iB d').size : Int) ≤ 18) ∨ (((iB n').size : Int) ≤ 18 ∧ (((iB d').size : Int) ≤ 18) = False) ∨ (((iB n').size : Int) ≤ 18) = False := by
    by_cases a : (iB n').size ≤ 18
    · by_cases b : (iB d').size ≤ 18
      · exact .inl ⟨by omega, by omega⟩
      · exact .inr (.inl ⟨by omega, eq_false (by omega)⟩)
    · exact .inr (.inr (eq_false (by omega)))
  -- quick
  have HQ := hide (fun (h1 : ((iB n').size : Int) ≤ 18) (h2 : ((iB d').size : Int) ≤ 18) => show ∃ (u v : Nat), (u : Int) < 1000000000000000000 ∧ (d' = (v : Int)) ∧ (0 ≤ n' → n' = (u : Int)) ∧ (n' < 0 → n' = -(u : Int)) ∧
      (∀ w, Calls Tryz.prog 174 #[.string (iB d')] w (Ret w (.int .i64 v))) ∧
      (0 ≤ n' → ∀ w, Calls Tryz.prog 174 #[.string (iB n')] w (Ret w (.int .i64 u))) ∧
      (n' < 0 → ∀ w, Calls Tryz.prog 174 #[.string (iB (-n'))] w (Ret w (.int .i64 u))) ∧
      (∀ w, Calls Tryz.prog 146 #[.int .i64 n', .int .i64 v] w (Ret w (.string (T (Rat.divInt n' d'))))) from by
    have b1 := iB_short (z := n') (by omega)
    have b2 := iB_short (z := d') (by omega)
    refine ⟨n'.natAbs, d'.natAbs, by omega, by omega, fun _ => by omega, fun _ => by omega, ?_, ?_, ?_, ?_⟩
    · intro w
      have e := iB_dv (z := d') (by omega)
      have h := r2small_any (iB d') e.2 (by omega) w
      rw [e.1] at h
      exact h
    · intro h0 w
      have e := iB_dv (z := n') h0
      have h := r2small_any (iB n') e.2 (by omega) w
      rw [e.1] at h
      exact h
    · intro h0 w
      have e := iB_dv (z := -n') (by omega)
      have l : (iB (-n')).size ≤ 18 := by
        have e2 := congrArg ByteArray.size (iB_neg_drop h0)
        rw [ByteArray.size_extract] at e2
        omega
      have h := r2small_any (iB (-n')) e.2 l w
      rw [e.1, Int.natAbs_neg] at h
      exact h
    · intro w
      have h := r2quick_any n' d'.natAbs (by omega) (by omega) (by omega) w
      rw [show ((d'.natAbs : Nat) : Int) = d' by omega] at h
      rw [show ((d'.natAbs : Nat) : Int) = d' by omega]
      exact h)
  -- the long way
  obtain ⟨g, hg⟩ : ∃ g, g = Nat.gcd n'.natAbs d'.natAbs := ⟨_, rfl⟩
  have hgp : 0 < g := by rw [hg]; exact Nat.gcd_pos_of_pos_right _ (by omega)
  have hgd : g ≤ d'.natAbs := by rw [hg]; exact Nat.gcd_le_right _ (by omega)
  have fg : fits ((g : Nat) : Int) := fits_of_le fd' (by omega)
  have HG := hide (fun w hB hT => rGcd_I fn' fd' B w hB hT)
  have HV1 := hide (fun w hB hT => rDivide_I fn' fg (by omega) B w hB hT)
  have HV2 := hide (fun w hB hT => rDivide_I fd' fg (by omega) B w hB hT)
  rw [← hg] at HG
  have mt := make_text (n := n') hpos
  rw [← hg] at mt
  have fN1 : fits (n' / (g : Int)) := fits_of_le fn' (by
    rw [Int.natAbs_ediv_of_dvd (by rw [hg]; exact Int.ofNat_dvd_left.2 (Nat.gcd_dvd_left _ _)), Int.natAbs_natCast]
    exact Nat.div_le_self _ _)
  have fD1 : fits (d' / (g : Int)) := fits_of_le fd' (by
    rw [Int.natAbs_ediv_of_dvd (by rw [hg]; exact Int.ofNat_dvd_left.2 (Nat.gcd_dvd_right _ _)), Int.natAbs_natCast]
    exact Nat.div_le_self _ _)
  obtain ⟨N1, hN1⟩ : ∃ x, x = n' / (g : Int) := ⟨_, rfl⟩
  obtain ⟨D1, hD1⟩ : ∃ x, x = d' / (g : Int) := ⟨_, rfl⟩
  obtain ⟨R1, hR1⟩ : ∃ x, x = iB (n' % (g : Int)) := ⟨_, rfl⟩
  obtain ⟨R2, hR2⟩ : ∃ x, x = iB (d' % (g : Int)) := ⟨_, rfl⟩
  have hD1p : 0 ≤ D1 := by rw [hD1]; exact Int.ediv_nonneg (by omega) (by omega)
  rw [← hN1] at HV1 fN1 mt
  rw [← hD1] at HV2 fD1 mt
  rw [← hR1] at HV1
  rw [← hR2] at HV2
  obtain ⟨hn3, ehn3⟩ := iB_head N1
  have s1 := iB_size fN1
  have s1p : (0 : Int) < ((iB N1).size : Int) := by omega
  have s1q : (1 : Int) ≤ ((iB N1).size : Int) := by omega
  have s2 : (iB D1).size ≤ 300 := by
    rw [← bytes_len, iB_nonneg hD1p]
    exact fits_len.1 fD1
  have s2i : ((300 : Int) < ((iB D1).size : Int)) = False := eq_false (by omega)
  have s2n : (300 < (iB D1).size) = False := eq_false (by omega)
  have hM : (((((iB N1)[0]'hn3).toNat : Nat) : Int) == 45) = false ∧ ((300 : Int) < ((iB N1).size : Int)) = False ∨ (((((iB N1)[0]'hn3).toNat : Nat) : Int) == 45) = true ∧ ∃ M : ByteArray, (iB N1).extract 1 (iB N1).size = M ∧ ((300 : Int) < (M.size : Int)) = False := by
    by_cases h : N1 < 0
    · refine .inr ⟨by rw [ehn3, decide_eq_true h], _, iB_neg_drop h, eq_false ?_⟩
      have := fits_len.1 fN1
      have e : (iB (-N1)).size = (Lib.decDigits N1.natAbs).length := by rw [← bytes_len, iB_nonneg (by omega), Int.natAbs_neg]
      omega
    · refine .inl ⟨by rw [ehn3, decide_eq_false h], eq_false ?_⟩
      have := fits_len.1 fN1
      have e : (iB N1).size = (Lib.decDigits N1.natAbs).length := by rw [← bytes_len, iB_nonneg (by omega)]
      omega
  have hE : ((iB D1).toList == [49]) = true ∧ iB N1 = T (Rat.divInt n' d') ∨ ((iB D1).toList == [49]) = false ∧ iB N1 ++ ⟨#[47]⟩ ++ iB D1 = T (Rat.divInt n' d') := by
    rw [iB_one_test]
    by_cases h : D1 = 1
    · exact .inl ⟨decide_eq_true h, mt.1 h⟩
    · exact .inr ⟨decide_eq_false h, mt.2 h⟩
  have c1 : (9223372036854775807 < (iB N1).size + 1) = False := eq_false (by omega)
  have c2 : (9223372036854775807 < (iB N1).size + 1 + (iB D1).size) = False := eq_false (by omega)
  have HM := hide hM
  have HE := hide hE
  have hsg : (((((iB n')[0]'hn2).toNat : Nat) : Int) == 45) = true ∧ n' < 0 ∧ (iB n').extract 1 (iB n').size = iB (-n') ∨ (((((iB n')[0]'hn2).toNat : Nat) : Int) == 45) = false ∧ 0 ≤ n' := by
    by_cases h : n' < 0
    · exact .inl ⟨by rw [ehn2, decide_eq_true h], h, iB_neg_drop h⟩
    · exact .inr ⟨by rw [ehn2, decide_eq_false h], by omega⟩
  obtain ⟨X, hX⟩ : ∃ X, X = T (Rat.divInt n' d') := ⟨_, rfl⟩
  rw [← hX] at HQ HE ⊢
  obtain ⟨GB, hGB⟩ : ∃ X, X = iB ((g : Nat) : Int) := ⟨_, rfl⟩
  rw [← hGB] at HG HV1 HV2
  obtain ⟨NB, hNB⟩ : ∃ X, X = iB N1 := ⟨_, rfl⟩
  obtain ⟨DB, hDB⟩ : ∃ X, X = iB D1 := ⟨_, rfl⟩
  clear hM hE mt fN1 fD1 ehn3 ehn2 hN1 hD1 hR1 hR2 hD1p hg hgp hgd fg hX hGB hT s2 fn' fd' hs1 hs2
  subst hNB
  subst hDB
  generalize iB n = NN at hn0 hpn hpn1 hcat hszN hcases ⊢
  generalize iB d = DD at hd0 hpd hpd1 hszD hcases ⊢
  generalize iB (-n') = N3 at hsg HQ
  generalize iB n' = N2 at hn2 hq1 hq0 hcases hsg hway HQ HG HV1
  generalize iB d' = D2 at hcases hway HQ HG HV2
  rcases hcases with ⟨z1, rfl, rfl⟩ | ⟨z1, e2, ⟨z2, e1⟩ | ⟨z2, ⟨z3, rfl⟩ | ⟨z3, e1⟩⟩⟩
  case inl =>
    rcases hway with ⟨a1, a2⟩ | ⟨a1, a2⟩ | a1
    · obtain ⟨u, v, hu, hv, hp, hm, HS2, HS1, HS3, HQQ⟩ := HQ.out a1 a2
      have HU2 := hide HS2
      rcases hsg with ⟨s1, hneg, e3⟩ | ⟨s1, hnn⟩
      · have hn' := hm hneg
        have HU1 := hide (HS3 hneg)
        have HU3 := hide HQQ
        rw [hn'] at HU3
        clear HQ HG HV1 HV2 HM HE hv hp hm HS2 HS1 HS3 HQQ hn' hneg c1 c2 s2i s2n s1p s1q
        go_enter Tryz.func182, Tryz.ntmps182
        go_wp2_with fail
        refine (HU1.out _).mono ?_
        rintro e w1 ⟨rfl, hb1⟩
        have HB1 := hide hb1
        clear hb1
        go_wp2_with fail
        refine (HU2.out _).mono ?_
        rintro e w2 ⟨rfl, hb2⟩
        have HB2 := hide (HB1.out.trans (hb2.mono HB1.out.size))
        clear hb2
        go_wp2_with fail
        refine (HU3.out _).mono ?_
        rintro e w3 ⟨rfl, hb3⟩
        have HB3 := hide (HB2.out.trans (hb3.mono HB2.out.size))
        clear hb3
        go_wp2_with fail
        refine bodyPost_ret (results_tmp2 rfl _ _ _) rfl ?_
        exact ⟨rfl, HB3.out⟩
      · have hn' := hp hnn
        have HU1 := hide (HS1 hnn)
        have HU3 := hide HQQ
        rw [hn'] at HU3
        clear HQ HG HV1 HV2 HM HE hv hp hm HS2 HS1 HS3 HQQ hn' hnn c1 c2 s2i s2n s1p s1q
        go_enter Tryz.func182, Tryz.ntmps182
        go_wp2_with fail
        refine (HU1.out _).mono ?_
        rintro e w1 ⟨rfl, hb1⟩
        have HB1 := hide hb1
        clear hb1
        go_wp2_with fail
        refine (HU2.out _).mono ?_
        rintro e w2 ⟨rfl, hb2⟩
        have HB2 := hide (HB1.out.trans (hb2.mono HB1.out.size))
        clear hb2
        go_wp2_with fail
        refine (HU3.out _).mono ?_
        rintro e w3 ⟨rfl, hb3⟩
        have HB3 := hide (HB2.out.trans (hb3.mono HB2.out.size))
        clear hb3
        go_wp2_with fail
        refine bodyPost_ret (results_tmp2 rfl _ _ _) rfl ?_
        exact ⟨rfl, HB3.out⟩
    all_goals
      clear HQ hsg
      rcases HE.out with ⟨t1, e9⟩ | ⟨t1, e9⟩ <;> rcases HM.out with ⟨m1, m2⟩ | ⟨m1, M, m3, m2⟩
      all_goals
        have E9 := hide e9
        clear e9 HE HM
        go_enter Tryz.func182, Tryz.ntmps182
        go_wp2_with fail
        refine (HG.out _ hB HT.out).mono ?_
        rintro e w1 ⟨rfl, hb1⟩
        have HB1 := hide hb1
        clear hb1
        go_wp2_with fail
        refine (HV1.out _ (Nat.le_trans hB HB1.out.size) (HT.out.on HB1.out hB)).mono ?_
        rintro e w2 ⟨rfl, hb2⟩
        have HB2 := hide (HB1.out.trans (hb2.mono HB1.out.size))
        clear hb2
        go_wp2_with fail
        refine (HV2.out _ (Nat.le_trans hB HB2.out.size) (HT.out.on HB2.out hB)).mono ?_
        rintro e w3 ⟨rfl, hb3⟩
        have HB3 := hide (HB2.out.trans (hb3.mono HB2.out.size))
        clear hb3
        go_wp2_with fail
        refine bodyPost_ret (results_tmp2 rfl _ _ _) rfl ?_
        exact ⟨by rw [← E9.out]; first | rfl | (simp; done), HB3.out⟩
  case inr.inl =>
    rcases hway with ⟨a1, a2⟩ | ⟨a1, a2⟩ | a1
    · obtain ⟨u, v, hu, hv, hp, hm, HS2, HS1, HS3, HQQ⟩ := HQ.out a1 a2
      have HU2 := hide HS2
      rcases hsg with ⟨s1, hneg, e3⟩ | ⟨s1, hnn⟩
      · have hn' := hm hneg
        have HU1 := hide (HS3 hneg)
        have HU3 := hide HQQ
        rw [hn'] at HU3
        clear HQ HG HV1 HV2 HM HE hv hp hm HS2 HS1 HS3 HQQ hn' hneg c1 c2 s2i s2n s1p s1q
        go_enter Tryz.func182, Tryz.ntmps182
        go_wp2_with fail
        refine (HU1.out _).mono ?_
        rintro e w1 ⟨rfl, hb1⟩
        have HB1 := hide hb1
        clear hb1
        go_wp2_with fail
        refine (HU2.out _).mono ?_
        rintro e w2 ⟨rfl, hb2⟩
        have HB2 := hide (HB1.out.trans (hb2.mono HB1.out.size))
        clear hb2
        go_wp2_with fail
        refine (HU3.out _).mono ?_
        rintro e w3 ⟨rfl, hb3⟩
        have HB3 := hide (HB2.out.trans (hb3.mono HB2.out.size))
        clear hb3
        go_wp2_with fail
        refine bodyPost_ret (results_tmp2 rfl _ _ _) rfl ?_
        exact ⟨rfl, HB3.out⟩
      · have hn' := hp hnn
        have HU1 := hide (HS1 hnn)
        have HU3 := hide HQQ
        rw [hn'] at HU3
        clear HQ HG HV1 HV2 HM HE hv hp hm HS2 HS1 HS3 HQQ hn' hnn c1 c2 s2i s2n s1p s1q
        go_enter Tryz.func182, Tryz.ntmps182
        go_wp2_with fail
        refine (HU1.out _).mono ?_
        rintro e w1 ⟨rfl, hb1⟩
        have HB1 := hide hb1
        clear hb1
        go_wp2_with fail
        refine (HU2.out _).mono ?_
        rintro e w2 ⟨rfl, hb2⟩
        have HB2 := hide (HB1.out.trans (hb2.mono HB1.out.size))
        clear hb2
        go_wp2_with fail
        refine (HU3.out _).mono ?_
        rintro e w3 ⟨rfl, hb3⟩
        have HB3 := hide (HB2.out.trans (hb3.mono HB2.out.size))
        clear hb3
        go_wp2_with fail
        refine bodyPost_ret (results_tmp2 rfl _ _ _) rfl ?_
        exact ⟨rfl, HB3.out⟩
    all_goals
      clear HQ hsg
      rcases HE.out with ⟨t1, e9⟩ | ⟨t1, e9⟩ <;> rcases HM.out with ⟨m1, m2⟩ | ⟨m1, M, m3, m2⟩
      all_goals
        have E9 := hide e9
        clear e9 HE HM
        go_enter Tryz.func182, Tryz.ntmps182
        go_wp2_with fail
        refine (HG.out _ hB HT.out).mono ?_
        rintro e w1 ⟨rfl, hb1⟩
        have HB1 := hide hb1
        clear hb1
        go_wp2_with fail
        refine (HV1.out _ (Nat.le_trans hB HB1.out.size) (HT.out.on HB1.out hB)).mono ?_
        rintro e w2 ⟨rfl, hb2⟩
        have HB2 := hide (HB1.out.trans (hb2.mono HB1.out.size))
        clear hb2
        go_wp2_with fail
        refine (HV2.out _ (Nat.le_trans hB HB2.out.size) (HT.out.on HB2.out hB)).mono ?_
        rintro e w3 ⟨rfl, hb3⟩
        have HB3 := hide (HB2.out.trans (hb3.mono HB2.out.size))
        clear hb3
        go_wp2_with fail
        refine bodyPost_ret (results_tmp2 rfl _ _ _) rfl ?_
        exact ⟨by rw [← E9.out]; first | rfl | (simp; done), HB3.out⟩
  case inr.inr.inl =>
    rcases hway with ⟨a1, a2⟩ | ⟨a1, a2⟩ | a1
    · obtain ⟨u, v, hu, hv, hp, hm, HS2, HS1, HS3, HQQ⟩ := HQ.out a1 a2
      have HU2 := hide HS2
      obtain ⟨s1, hnn⟩ := hsg.resolve_left (fun h => by rw [z2] at h; exact absurd h.1 (by decide))
      clear s1
      · have hn' := hp hnn
        have HU1 := hide (HS1 hnn)
        have HU3 := hide HQQ
        rw [hn'] at HU3
        clear HQ HG HV1 HV2 HM HE hv hp hm HS2 HS1 HS3 HQQ hn' hnn c1 c2 s2i s2n s1p s1q
        go_enter Tryz.func182, Tryz.ntmps182
        go_wp2_with fail
        refine (HU1.out _).mono ?_
        rintro e w1 ⟨rfl, hb1⟩
        have HB1 := hide hb1
        clear hb1
        go_wp2_with fail
        refine (HU2.out _).mono ?_
        rintro e w2 ⟨rfl, hb2⟩
        have HB2 := hide (HB1.out.trans (hb2.mono HB1.out.size))
        clear hb2
        go_wp2_with fail
        refine (HU3.out _).mono ?_
        rintro e w3 ⟨rfl, hb3⟩
        have HB3 := hide (HB2.out.trans (hb3.mono HB2.out.size))
        clear hb3
        go_wp2_with fail
        refine bodyPost_ret (results_tmp2 rfl _ _ _) rfl ?_
        exact ⟨rfl, HB3.out⟩
    all_goals
      clear HQ hsg
      rcases HE.out with ⟨t1, e9⟩ | ⟨t1, e9⟩ <;> rcases HM.out with ⟨m1, m2⟩ | ⟨m1, M, m3, m2⟩
      all_goals
        have E9 := hide e9
        clear e9 HE HM
        go_enter Tryz.func182, Tryz.ntmps182
        go_wp2_with fail
        refine (HG.out _ hB HT.out).mono ?_
        rintro e w1 ⟨rfl, hb1⟩
        have HB1 := hide hb1
        clear hb1
        go_wp2_with fail
        refine (HV1.out _ (Nat.le_trans hB HB1.out.size) (HT.out.on HB1.out hB)).mono ?_
        rintro e w2 ⟨rfl, hb2⟩
        have HB2 := hide (HB1.out.trans (hb2.mono HB1.out.size))
        clear hb2
        go_wp2_with fail
        refine (HV2.out _ (Nat.le_trans hB HB2.out.size) (HT.out.on HB2.out hB)).mono ?_
        rintro e w3 ⟨rfl, hb3⟩
        have HB3 := hide (HB2.out.trans (hb3.mono HB2.out.size))
        clear hb3
        go_wp2_with fail
        refine bodyPost_ret (results_tmp2 rfl _ _ _) rfl ?_
        exact ⟨by rw [← E9.out]; first | rfl | (simp; done), HB3.out⟩
  case inr.inr.inr =>
    rcases hway with ⟨a1, a2⟩ | ⟨a1, a2⟩ | a1
    · obtain ⟨u, v, hu, hv, hp, hm, HS2, HS1, HS3, HQQ⟩ := HQ.out a1 a2
      have HU2 := hide HS2
      rcases hsg with ⟨s1, hneg, e3⟩ | ⟨s1, hnn⟩
      · have hn' := hm hneg
        have HU1 := hide (HS3 hneg)
        have HU3 := hide HQQ
        rw [hn'] at HU3
        clear HQ HG HV1 HV2 HM HE hv hp hm HS2 HS1 HS3 HQQ hn' hneg c1 c2 s2i s2n s1p s1q
        go_enter Tryz.func182, Tryz.ntmps182
        go_wp2_with fail
        refine (HU1.out _).mono ?_
        rintro e w1 ⟨rfl, hb1⟩
        have HB1 := hide hb1
        clear hb1
        go_wp2_with fail
        refine (HU2.out _).mono ?_
        rintro e w2 ⟨rfl, hb2⟩
        have HB2 := hide (HB1.out.trans (hb2.mono HB1.out.size))
        clear hb2
        go_wp2_with fail
        refine (HU3.out _).mono ?_
        rintro e w3 ⟨rfl, hb3⟩
        have HB3 := hide (HB2.out.trans (hb3.mono HB2.out.size))
        clear hb3
        go_wp2_with fail
        refine bodyPost_ret (results_tmp2 rfl _ _ _) rfl ?_
        exact ⟨rfl, HB3.out⟩
      · have hn' := hp hnn
        have HU1 := hide (HS1 hnn)
        have HU3 := hide HQQ
        rw [hn'] at HU3
        clear HQ HG HV1 HV2 HM HE hv hp hm HS2 HS1 HS3 HQQ hn' hnn c1 c2 s2i s2n s1p s1q
        go_enter Tryz.func182, Tryz.ntmps182
        go_wp2_with fail
        refine (HU1.out _).mono ?_
        rintro e w1 ⟨rfl, hb1⟩
        have HB1 := hide hb1
        clear hb1
        go_wp2_with fail
        refine (HU2.out _).mono ?_
        rintro e w2 ⟨rfl, hb2⟩
        have HB2 := hide (HB1.out.trans (hb2.mono HB1.out.size))
        clear hb2
        go_wp2_with fail
        refine (HU3.out _).mono ?_
        rintro e w3 ⟨rfl, hb3⟩
        have HB3 := hide (HB2.out.trans (hb3.mono HB2.out.size))
        clear hb3
        go_wp2_with fail
        refine bodyPost_ret (results_tmp2 rfl _ _ _) rfl ?_
        exact ⟨rfl, HB3.out⟩
    all_goals
      clear HQ hsg
      rcases HE.out with ⟨t1, e9⟩ | ⟨t1, e9⟩ <;> rcases HM.out with ⟨m1, m2⟩ | ⟨m1, M, m3, m2⟩
      all_goals
        have E9 := hide e9
        clear e9 HE HM
        go_enter Tryz.func182, Tryz.ntmps182
        go_wp2_with fail
        refine (HG.out _ hB HT.out).mono ?_
        rintro e w1 ⟨rfl, hb1⟩
        have HB1 := hide hb1
        clear hb1
        go_wp2_with fail
        refine (HV1.out _ (Nat.le_trans hB HB1.out.size) (HT.out.on HB1.out hB)).mono ?_
        rintro e w2 ⟨rfl, hb2⟩
        have HB2 := hide (HB1.out.trans (hb2.mono HB1.out.size))
        clear hb2
        go_wp2_with fail
        refine (HV2.out _ (Nat.le_trans hB HB2.out.size) (HT.out.on HB2.out hB)).mono ?_
        rintro e w3 ⟨rfl, hb3⟩
        have HB3 := hide (HB2.out.trans (hb3.mono HB2.out.size))
        clear hb3
        go_wp2_with fail
        refine bodyPost_ret (results_tmp2 rfl _ _ _) rfl ?_
        exact ⟨by rw [← E9.out]; first | rfl | (simp; done), HB3.out⟩
end Go.Proofs.YtbfojhneajedmaaGreatDoor
namespace Go.KI
open Go
theorem fits_neg {z : Int} (h : fits z) : fits (-z) := fits_of_le h (by omega)
theorem fitsQ_neg {q : Rat} (h : fitsQ q) : fitsQ (-q) := ⟨by rw [Rat.neg_num]; exact fits_neg h.1, by rw [Rat.neg_den]; exact h.2⟩
theorem addC_neg (x y : Rat) : addC x (-y) ↔ subC x y := by
  unfold addC subC
  rw [Rat.neg_num, Rat.neg_den, Int.neg_mul, ← Int.sub_eq_add_neg]
  constructor
  · rintro ⟨a, b, c, d⟩
    exact ⟨a, by have := fits_neg b; rwa [Int.neg_neg] at this, c, d⟩
  · rintro ⟨a, b, c, d⟩
    exact ⟨a, fits_neg b, c, d⟩
theorem prod9 {a b : Int} (ha : a.natAbs < 1000000000) (hb : b.natAbs < 1000000000) : (a * b).natAbs < 1000000000000000000 := by
  rw [Int.natAbs_mul]
  exact Nat.lt_of_lt_of_le (Nat.mul_lt_mul'' ha hb) (by decide)
theorem short_sz {q : Rat} (h : shortQ q) : sz 9 q := ⟨(shortQ_lt h).1, (shortQ_lt h).2⟩
end Go.KI
namespace Go.Proofs.YtbfojhneajedmaaGreatDoor
open Go.RowKit Go.KP Go.KI Go.Shelf
attribute [local go_sem] Oper.semAt_some

abbrev noB : ByteArray := ⟨#[]⟩
set_option maxRecDepth 100000 in
set_option maxHeartbeats 4000000 in
theorem r2products_no {a b c d : Int} (fa : fits a) (fb : fits b) (fc : fits c) (fd : fits d) (h : ¬ (fits (a * b) ∧ fits (c * d))) (B : Nat) (w : World) (hB : B ≤ w.heap.size) (hT : P10 B w) :
    ∃ x y : ByteArray, Calls Tryz.prog 180 #[.string (iB a), .string (iB b), .string (iB c), .string (iB d)] w (Ret w (.tuple #[.string x, .string y, .int .i64 4])) := by
  have HT := hide hT
  have H1 := hide (fun w hB hT => rMul_I fa fb B w hB hT)
  have H2 := hide (fun w hB hT => rMul_I fc fd B w hB hT)
  obtain ⟨A, hA⟩ : ∃ x, x = iB a := ⟨_, rfl⟩
  obtain ⟨B', hB'⟩ : ∃ x, x = iB b := ⟨_, rfl⟩
  obtain ⟨C, hC⟩ : ∃ x, x = iB c := ⟨_, rfl⟩
  obtain ⟨D, hD⟩ : ∃ x, x = iB d := ⟨_, rfl⟩
  simp only [← hA, ← hB', ← hC, ← hD] at *
  clear hA hB' hC hD
  by_cases h1 : fits (a * b)
  · have h2 : ¬ fits (c * d) := fun e => h ⟨h1, e⟩
    rw [resI_yes h1] at H1
    rw [resI_no h2] at H2
    obtain ⟨X, hX⟩ : ∃ x, x = iB (a * b) := ⟨_, rfl⟩
    rw [← hX] at H1
    refine ⟨X, noB, ?_⟩
    clear hX h h1 h2 fa fb fc fd hT
    go_enter Tryz.func180, Tryz.ntmps180
    go_wp2_with fail
    refine (H1.out _ hB HT.out).mono ?_
    rintro e w1 ⟨rfl, hb1⟩
    have HB1 := hide hb1
    clear hb1
    go_wp2_with fail
    refine (H2.out _ (Nat.le_trans hB HB1.out.size) (HT.out.on HB1.out hB)).mono ?_
    rintro e w2 ⟨rfl, hb2⟩
    have HB2 := hide (HB1.out.trans (hb2.mono HB1.out.size))
    clear hb2
    go_wp2_with fail
    refine ret3v rfl rfl rfl rfl rfl ?_
    exact ⟨rfl, HB2.out⟩
  · rw [resI_no h1] at H1
    refine ⟨noB, noB, ?_⟩
    clear h h1 fa fb fc fd hT H2
    go_enter Tryz.func180, Tryz.ntmps180
    go_wp2_with fail
    refine (H1.out _ hB HT.out).mono ?_
    rintro e w1 ⟨rfl, hb1⟩
    have HB1 := hide hb1
    clear hb1
    go_wp2_with fail
    refine ret3v rfl rfl rfl rfl rfl ?_
    exact ⟨rfl, HB1.out⟩
set_option maxRecDepth 100000 in
set_option maxHeartbeats 4000000 in
theorem r2products_yes {a b c d : Int} (fa : fits a) (fb : fits b) (fc : fits c) (fd : fits d) (h1 : fits (a * b)) (h2 : fits (c * d)) (B : Nat) (w : World) (hB : B ≤ w.heap.size) (hT : P10 B w) :
    Calls Tryz.prog 180 #[.string (iB a), .string (iB b), .string (iB c), .string (iB d)] w (Ret w (.tuple #[.string (iB (a * b)), .string (iB (c * d)), .int .i64 0])) := by
  have HT := hide hT
  have H1 := hide (fun w hB hT => rMul_I fa fb B w hB hT)
  have H2 := hide (fun w hB hT => rMul_I fc fd B w hB hT)
  rw [resI_yes h1] at H1
  rw [resI_yes h2] at H2
  obtain ⟨A, hA⟩ : ∃ x, x = iB a := ⟨_, rfl⟩
  obtain ⟨B', hB'⟩ : ∃ x, x = iB b := ⟨_, rfl⟩
  obtain ⟨C, hC⟩ : ∃ x, x = iB c := ⟨_, rfl⟩
  obtain ⟨D, hD⟩ : ∃ x, x = iB d := ⟨_, rfl⟩
  obtain ⟨X, hX⟩ : ∃ x, x = iB (a * b) := ⟨_, rfl⟩
  obtain ⟨Y, hY⟩ : ∃ x, x = iB (c * d) := ⟨_, rfl⟩
  simp only [← hA, ← hB', ← hC, ← hD, ← hX, ← hY] at *
  clear hA hB' hC hD hX hY h1 h2 fa fb fc fd hT
  go_enter Tryz.func180, Tryz.ntmps180
  go_wp2_with fail
  refine (H1.out _ hB HT.out).mono ?_
  rintro e w1 ⟨rfl, hb1⟩
  have HB1 := hide hb1
  clear hb1
  go_wp2_with fail
  refine (H2.out _ (Nat.le_trans hB HB1.out.size) (HT.out.on HB1.out hB)).mono ?_
  rintro e w2 ⟨rfl, hb2⟩
  have HB2 := hide (HB1.out.trans (hb2.mono HB1.out.size))
  clear hb2
  go_wp2_with fail
  refine ret3v rfl rfl rfl rfl rfl ?_
  exact ⟨rfl, HB2.out⟩
/-- An operation's pair: the number's text or none. -/
def opV (o : Option Rat) : Value := match o with | some q => .tuple #[.string (T q), .int .i64 0] | none => .tuple #[.string noB, .int .i64 4]
set_option maxRecDepth 100000 in
set_option maxHeartbeats 16000000 in
theorem r2add_T {x y : Rat} (fx : fitsQ x) (fy : fitsQ y) (B : Nat) (w : World) (hB : B ≤ w.heap.size) (hT : PQ B w) :
    Calls Tryz.prog 118 #[.string (T x), .string (T y)] w (Ret w (opV (addO x y))) := by
  have HT := hide hT
  have HI1 := hide (fun w => r2ints_T fx w)
  have HI2 := hide (fun w => r2ints_T fy w)
  have HP1 := hide (fun w => r2parts_T fx w)
  have HP2 := hide (fun w => r2parts_T fy w)
  unfold intsQ at HI1 HI2
  obtain ⟨S, hS⟩ : ∃ s, s = T x := ⟨_, rfl⟩
  obtain ⟨U, hU⟩ : ∃ s, s = T y := ⟨_, rfl⟩
  rw [← hS, ← hU]
  rw [← hS] at HI1 HP1
  rw [← hU] at HI2 HP2
  clear hS hU hT
  by_cases hs : shortQ x ∧ shortQ y
  · rw [if_pos hs.1] at HI1
    rw [if_pos hs.2] at HI2
    obtain ⟨a1, a2⟩ := shortQ_lt hs.1
    obtain ⟨b1, b2⟩ := shortQ_lt hs.2
    have ap := x.den_pos
    have bp := y.den_pos
    rw [addO_sz (short_sz hs.1) (short_sz hs.2) (by rw [most_eq]; omega)]
    unfold opV
    have hdiv := divInt_add x y
    have m1 := prod9 (a := x.num) (b := (y.den : Int)) a1 (by omega)
    have m2 := prod9 (a := y.num) (b := (x.den : Int)) b1 (by omega)
    have m3 := prod9 (a := (x.den : Int)) (b := (y.den : Int)) (by omega) (by omega)
    have m4 : 0 < x.den * y.den := Nat.mul_pos ap bp
    have m5 : ((x.den * y.den : Nat) : Int) = (x.den : Int) * (y.den : Int) := by push_cast; rfl
    have HQ := hide (fun w => r2quick_any (x.num * y.den + y.num * x.den) (x.den * y.den) (by omega) (by omega) m4 w)
    rw [m5, hdiv] at HQ
    obtain ⟨R, hR⟩ : ∃ s, s = T (x + y) := ⟨_, rfl⟩
    have hR2 : strB (ratS (x + y)) = R := hR.symm
    rw [hR2] at HQ
    dsimp only
    rw [← hR]
    obtain ⟨n, hn⟩ : ∃ n, n = x.num := ⟨_, rfl⟩
    obtain ⟨d, hd⟩ : ∃ n, n = (x.den : Int) := ⟨_, rfl⟩
    obtain ⟨m, hm⟩ : ∃ n, n = y.num := ⟨_, rfl⟩
    obtain ⟨c, hc⟩ : ∃ n, n = (y.den : Int) := ⟨_, rfl⟩
    simp only [← hn, ← hd, ← hm, ← hc] at HI1 HI2 HQ m1 m2 m3
    have v1 : IntKind.i64.wrap (n * c) = n * c := IntWalk.i64_in _ (by omega)
    have v2 : IntKind.i64.wrap (m * d) = m * d := IntWalk.i64_in _ (by omega)
    have v3 : IntKind.i64.wrap (d * c) = d * c := IntWalk.i64_in _ (by omega)
    have v4 : IntKind.i64.wrap (n * c + m * d) = n * c + m * d := IntWalk.i64_in _ (by omega)
    clear hR hR2 hdiv m1 m2 m3 m4 m5 hs a1 a2 b1 b2 ap bp hn hd hm hc HP1 HP2 fx fy
    go_enter Tryz.func118, Tryz.ntmps118
    go_wp2_with fail
    refine (HI1.out _).mono ?_
    rintro e w1 ⟨rfl, hb1⟩
    have HB1 := hide hb1
    clear hb1
    go_wp2_with fail
    refine (HI2.out _).mono ?_
    rintro e w2 ⟨rfl, hb2⟩
    have HB2 := hide (HB1.out.trans (hb2.mono HB1.out.size))
    clear hb2
    go_wp2_with fail
    refine (HQ.out _).mono ?_
    rintro e w3 ⟨rfl, hb3⟩
    have HB3 := hide (HB2.out.trans (hb3.mono HB2.out.size))
    clear hb3
    go_wp2_with fail
    refine bodyPost_ret (results_tmp2 rfl _ _ _) rfl ?_
    exact ⟨rfl, HB3.out⟩
  · have hway : (∃ v1 v2 : Int, ∃ b1 b2 : Bool, ∃ v3 v4 : Int, Hid (∀ w, Calls Tryz.prog 145 #[.string S] w (Ret w (.tuple #[.int .i64 v1, .int .i64 v2, .bool b1]))) ∧ Hid (∀ w, Calls Tryz.prog 145 #[.string U] w (Ret w (.tuple #[.int .i64 v3, .int .i64 v4, .bool b2]))) ∧ (b1 = false ∨ (b1 = true ∧ b2 = false))) := by
      by_cases h1 : shortQ x
      · have h2 : ¬ shortQ y := fun e => hs ⟨h1, e⟩
        rw [if_pos h1] at HI1
        rw [if_neg h2] at HI2
        exact ⟨_, _, _, _, _, _, HI1, HI2, .inr ⟨rfl, rfl⟩⟩
      · rw [if_neg h1] at HI1
        by_cases h2 : shortQ y
        · rw [if_pos h2] at HI2
          exact ⟨_, _, _, _, _, _, HI1, HI2, .inl rfl⟩
        · rw [if_neg h2] at HI2
          exact ⟨_, _, _, _, _, _, HI1, HI2, .inl rfl⟩
    clear HI1 HI2 hs
    obtain ⟨i1, i2, b1, b2, i3, i4, HI1, HI2, hb⟩ := hway
    obtain ⟨n, hn⟩ : ∃ n, n = x.num := ⟨_, rfl⟩
    obtain ⟨d, hd⟩ : ∃ n, n = (x.den : Int) := ⟨_, rfl⟩
    obtain ⟨m, hm⟩ : ∃ n, n = y.num := ⟨_, rfl⟩
    obtain ⟨c, hc⟩ : ∃ n, n = (y.den : Int) := ⟨_, rfl⟩
    have hd0 : 0 < d := by have := x.den_pos; omega
    have hc0 : 0 < c := by have := y.den_pos; omega
    have fn : fits n := by rw [hn]; exact fx.1
    have fd : fits d := by rw [hd]; exact fx.2
    have fm : fits m := by rw [hm]; exact fy.1
    have fc : fits c := by rw [hc]; exact fy.2
    have hdiv := divInt_add x y
    have hO : addO x y = if fits (n * c) ∧ fits (m * d) ∧ fits (n * c + m * d) ∧ fits (d * c) then some (x + y) else none := by
      rw [hn, hd, hm, hc]
      unfold addO
      by_cases h : addC x y
      · exact (if_pos h).trans (if_pos h).symm
      · exact (if_neg h).trans (if_neg h).symm
    simp only [← hn, ← hd, ← hm, ← hc] at HP1 HP2 hdiv
    rw [hO]
    have e1 := iB1
    have f1 : fits 1 := fits_one
    have hdc : d * c ≠ 0 := by have := Int.mul_pos hd0 hc0; omega
    have HPY := hide (fun (h1 : fits (n * c)) (h2 : fits (m * d)) w hB hT => r2products_yes fn fc fm fd h1 h2 B w hB hT)
    have HPN := hide (fun (h : ¬ (fits (n * c) ∧ fits (m * d))) w hB hT => r2products_no fn fc fm fd h B w hB hT)
    have HPY2 := hide (fun (h1 : fits (d * c)) w hB hT => r2products_yes fd fc f1 f1 h1 (by rw [Int.mul_one]; exact f1) B w hB hT)
    have HPN2 := hide (fun (h : ¬ (fits (d * c) ∧ fits (1 * 1))) w hB hT => r2products_no fd fc f1 f1 h B w hB hT)
    have HAD := hide (fun (h1 : fits (n * c)) (h2 : fits (m * d)) w hB hT => rAdd_I h1 h2 B w hB hT)
    have HMK := hide (fun (h1 : fits (n * c + m * d)) (h2 : fits (d * c)) w hB hT => r2make_any hdc h1 h2 B w hB hT)
    rw [hdiv] at HMK
    rw [Int.mul_one] at HPY2 HPN2
    rw [e1] at HPY2 HPN2
    obtain ⟨NB, hNB⟩ : ∃ s, s = iB n := ⟨_, rfl⟩
    obtain ⟨DB, hDB⟩ : ∃ s, s = iB d := ⟨_, rfl⟩
    obtain ⟨MB, hMB⟩ : ∃ s, s = iB m := ⟨_, rfl⟩
    obtain ⟨CB, hCB⟩ : ∃ s, s = iB c := ⟨_, rfl⟩
    obtain ⟨PB, hPB⟩ : ∃ s, s = iB (n * c) := ⟨_, rfl⟩
    obtain ⟨QB, hQB⟩ : ∃ s, s = iB (m * d) := ⟨_, rfl⟩
    obtain ⟨DC, hDC⟩ : ∃ s, s = iB (d * c) := ⟨_, rfl⟩
    simp only [← hNB, ← hDB, ← hMB, ← hCB, ← hPB, ← hQB, ← hDC] at HP1 HP2 HPY HPN HPY2 HPN2 HAD HMK
    clear hNB hDB hMB hCB hPB hQB hDC hn hd hm hc hd0 hc0 hdiv hO hdc e1 fn fd fm fc fx fy
    by_cases c1 : fits (n * c) ∧ fits (m * d)
    rotate_left
    · rw [if_neg (fun e => c1 ⟨e.1, e.2.1⟩)]
      unfold opV
      have HN := hide (HPN.out c1)
      clear HPY HPN HPY2 HPN2 HAD HMK c1
      rcases hb with rfl | ⟨rfl, rfl⟩
      all_goals
        go_enter Tryz.func118, Tryz.ntmps118
        go_wp2_with fail
        refine (HI1.out _).mono ?_
        rintro e w1 ⟨rfl, hb1⟩
        have HB1 := hide hb1
        clear hb1
        go_wp2_with fail
        refine (HI2.out _).mono ?_
        rintro e w2 ⟨rfl, hb2⟩
        have HB2 := hide (HB1.out.trans (hb2.mono HB1.out.size))
        clear hb2
        go_wp2_with fail
        refine (HP1.out _).mono ?_
        rintro e w3 ⟨rfl, hb3⟩
        have HB3 := hide (HB2.out.trans (hb3.mono HB2.out.size))
        clear hb3
        go_wp2_with fail
        refine (HP2.out _).mono ?_
        rintro e w4 ⟨rfl, hb4⟩
        have HB4 := hide (HB3.out.trans (hb4.mono HB3.out.size))
        clear hb4
        go_wp2_with fail
        obtain ⟨X, Y, hXY⟩ := HN.out _ (Nat.le_trans hB HB4.out.size) (HT.out.p10.on HB4.out hB)
        refine hXY.mono ?_
        rintro e w5 ⟨rfl, hb5⟩
        have HB5 := hide (HB4.out.trans (hb5.mono HB4.out.size))
        clear hb5 hXY
        go_wp2_with fail
        refine bodyPost_ret (results_tmp2 rfl _ _ _) rfl ?_
        exact ⟨rfl, HB5.out⟩
    have H1 := hide (HPY.out c1.1 c1.2)
    by_cases c2 : fits (d * c)
    rotate_left
    · rw [if_neg (fun e => c2 e.2.2.2)]
      unfold opV
      have HN := hide (HPN2.out (fun e => c2 e.1))
      clear HPY HPN HPY2 HPN2 HAD HMK c1 c2
      rcases hb with rfl | ⟨rfl, rfl⟩
      all_goals
        go_enter Tryz.func118, Tryz.ntmps118
        go_wp2_with fail
        refine (HI1.out _).mono ?_
        rintro e w1 ⟨rfl, hb1⟩
        have HB1 := hide hb1
        clear hb1
        go_wp2_with fail
        refine (HI2.out _).mono ?_
        rintro e w2 ⟨rfl, hb2⟩
        have HB2 := hide (HB1.out.trans (hb2.mono HB1.out.size))
        clear hb2
        go_wp2_with fail
        refine (HP1.out _).mono ?_
        rintro e w3 ⟨rfl, hb3⟩
        have HB3 := hide (HB2.out.trans (hb3.mono HB2.out.size))
        clear hb3
        go_wp2_with fail
        refine (HP2.out _).mono ?_
        rintro e w4 ⟨rfl, hb4⟩
        have HB4 := hide (HB3.out.trans (hb4.mono HB3.out.size))
        clear hb4
        go_wp2_with fail
        refine (H1.out _ (Nat.le_trans hB HB4.out.size) (HT.out.p10.on HB4.out hB)).mono ?_
        rintro e w5 ⟨rfl, hb5⟩
        have HB5 := hide (HB4.out.trans (hb5.mono HB4.out.size))
        clear hb5
        go_wp2_with fail
        obtain ⟨X, Y, hXY⟩ := HN.out _ (Nat.le_trans hB HB5.out.size) (HT.out.p10.on HB5.out hB)
        refine hXY.mono ?_
        rintro e w6 ⟨rfl, hb6⟩
        have HB6 := hide (HB5.out.trans (hb6.mono HB5.out.size))
        clear hb6 hXY
        go_wp2_with fail
        refine bodyPost_ret (results_tmp2 rfl _ _ _) rfl ?_
        exact ⟨rfl, HB6.out⟩
    have H2 := hide (HPY2.out c2)
    have H3 := hide (HAD.out c1.1 c1.2)
    by_cases c3 : fits (n * c + m * d)
    rotate_left
    · rw [if_neg (fun e => c3 e.2.2.1)]
      unfold opV
      rw [resI_no c3] at H3
      clear HPY HPN HPY2 HPN2 HAD HMK c1 c2 c3
      rcases hb with rfl | ⟨rfl, rfl⟩
      all_goals
        go_enter Tryz.func118, Tryz.ntmps118
        go_wp2_with fail
        refine (HI1.out _).mono ?_
        rintro e w1 ⟨rfl, hb1⟩
        have HB1 := hide hb1
        clear hb1
        go_wp2_with fail
        refine (HI2.out _).mono ?_
        rintro e w2 ⟨rfl, hb2⟩
        have HB2 := hide (HB1.out.trans (hb2.mono HB1.out.size))
        clear hb2
        go_wp2_with fail
        refine (HP1.out _).mono ?_
        rintro e w3 ⟨rfl, hb3⟩
        have HB3 := hide (HB2.out.trans (hb3.mono HB2.out.size))
        clear hb3
        go_wp2_with fail
        refine (HP2.out _).mono ?_
        rintro e w4 ⟨rfl, hb4⟩
        have HB4 := hide (HB3.out.trans (hb4.mono HB3.out.size))
        clear hb4
        go_wp2_with fail
        refine (H1.out _ (Nat.le_trans hB HB4.out.size) (HT.out.p10.on HB4.out hB)).mono ?_
        rintro e w5 ⟨rfl, hb5⟩
        have HB5 := hide (HB4.out.trans (hb5.mono HB4.out.size))
        clear hb5
        go_wp2_with fail
        refine (H2.out _ (Nat.le_trans hB HB5.out.size) (HT.out.p10.on HB5.out hB)).mono ?_
        rintro e w6 ⟨rfl, hb6⟩
        have HB6 := hide (HB5.out.trans (hb6.mono HB5.out.size))
        clear hb6
        go_wp2_with fail
        refine (H3.out _ (Nat.le_trans hB HB6.out.size) (HT.out.p10.on HB6.out hB)).mono ?_
        rintro e w7 ⟨rfl, hb7⟩
        have HB7 := hide (HB6.out.trans (hb7.mono HB6.out.size))
        clear hb7
        go_wp2_with fail
        refine bodyPost_ret (results_tmp2 rfl _ _ _) rfl ?_
        exact ⟨rfl, HB7.out⟩
    rw [if_pos ⟨c1.1, c1.2, c3, c2⟩]
    unfold opV
    rw [resI_yes c3] at H3
    have H4 := hide (HMK.out c3 c2)
    obtain ⟨SB, hSB⟩ : ∃ s, s = iB (n * c + m * d) := ⟨_, rfl⟩
    obtain ⟨R, hR⟩ : ∃ s, s = T (x + y) := ⟨_, rfl⟩
    rw [← hSB] at H3 H4
    rw [← hR] at H4
    dsimp only
    rw [← hR]
    clear HPY HPN HPY2 HPN2 HAD HMK c1 c2 c3 hSB hR
    rcases hb with rfl | ⟨rfl, rfl⟩
    all_goals
      go_enter Tryz.func118, Tryz.ntmps118
      go_wp2_with fail
      refine (HI1.out _).mono ?_
      rintro e w1 ⟨rfl, hb1⟩
      have HB1 := hide hb1
      clear hb1
      go_wp2_with fail
      refine (HI2.out _).mono ?_
      rintro e w2 ⟨rfl, hb2⟩
      have HB2 := hide (HB1.out.trans (hb2.mono HB1.out.size))
      clear hb2
      go_wp2_with fail
      refine (HP1.out _).mono ?_
      rintro e w3 ⟨rfl, hb3⟩
      have HB3 := hide (HB2.out.trans (hb3.mono HB2.out.size))
      clear hb3
      go_wp2_with fail
      refine (HP2.out _).mono ?_
      rintro e w4 ⟨rfl, hb4⟩
      have HB4 := hide (HB3.out.trans (hb4.mono HB3.out.size))
      clear hb4
      go_wp2_with fail
      refine (H1.out _ (Nat.le_trans hB HB4.out.size) (HT.out.p10.on HB4.out hB)).mono ?_
      rintro e w5 ⟨rfl, hb5⟩
      have HB5 := hide (HB4.out.trans (hb5.mono HB4.out.size))
      clear hb5
      go_wp2_with fail
      refine (H2.out _ (Nat.le_trans hB HB5.out.size) (HT.out.p10.on HB5.out hB)).mono ?_
      rintro e w6 ⟨rfl, hb6⟩
      have HB6 := hide (HB5.out.trans (hb6.mono HB5.out.size))
      clear hb6
      go_wp2_with fail
      refine (H3.out _ (Nat.le_trans hB HB6.out.size) (HT.out.p10.on HB6.out hB)).mono ?_
      rintro e w7 ⟨rfl, hb7⟩
      have HB7 := hide (HB6.out.trans (hb7.mono HB6.out.size))
      clear hb7
      go_wp2_with fail
      refine (H4.out _ (Nat.le_trans hB HB7.out.size) (HT.out.p10.on HB7.out hB)).mono ?_
      rintro e w8 ⟨rfl, hb8⟩
      have HB8 := hide (HB7.out.trans (hb8.mono HB7.out.size))
      clear hb8
      go_wp2_with fail
      refine bodyPost_ret (results_tmp2 rfl _ _ _) rfl ?_
      exact ⟨rfl, HB8.out⟩
end Go.Proofs.YtbfojhneajedmaaGreatDoor
namespace Go.KI
open Go
theorem cmpR_int (x y : Rat) : Lib.compareInt (x.num * y.den) (y.num * x.den) = cmpR x y := cmpQ x y
end Go.KI
namespace Go.Proofs.YtbfojhneajedmaaGreatDoor
open Go.RowKit Go.KP Go.KI Go.Shelf
attribute [local go_sem] Oper.semAt_some

theorem ratS_eq (q : Rat) : ratS q = Lib.itoa q.num ++ (if q.den = 1 then [] else 47 :: Lib.decDigits q.den) := by
  unfold ratS
  by_cases h : q.den = 1
  · rw [if_pos h, if_pos h, List.append_nil]
  · rw [if_neg h, if_neg h]
theorem T_head (q : Rat) : ∃ h : 0 < (T q).size, (((((T q)[0]'h).toNat : Nat) : Int) == 45) = decide (q.num < 0) := by
  have hne : (T q).data.toList ≠ [] := by
    rw [T_list, ratS_eq]
    intro e
    have e2 := (List.append_eq_nil_iff.1 e).1
    rcases itoa_cases q.num with ⟨_, a⟩ | ⟨_, a⟩ <;> rw [a] at e2
    · cases e2
    · exact decDigits_ne _ e2
  obtain ⟨hp, hh⟩ := bytes_head hne
  refine ⟨hp, ?_⟩
  rw [T_list] at hh
  have h2 := ratS_head (q := q)
  rw [hh] at h2
  by_cases h : q.num < 0
  · have h3 := h2.2 h
    injection h3 with h3
    rw [h3, decide_eq_true h]
    rfl
  · rw [decide_eq_false h]
    simp only [beq_eq_false_iff_ne, ne_eq]
    intro e
    refine h (h2.1 ?_)
    congr 1
    apply UInt8.toNat_inj.1
    have e2 : (45 : UInt8).toNat = 45 := rfl
    omega
theorem T_neg_drop {q : Rat} (h : q.num < 0) : (T q).extract 1 (T q).size = T (-q) := by
  rw [ext_drop, T_list]
  apply bytes_eq
  rw [strB_list, T_list, ratS_eq, ratS_eq, Rat.neg_num, Rat.neg_den]
  rcases itoa_cases q.num with ⟨_, a⟩ | ⟨a, _⟩
  · rcases itoa_cases (-q.num) with ⟨b, _⟩ | ⟨_, b⟩
    · omega
    · rw [a, b, Int.natAbs_neg]
      rfl
  · omega
theorem T_pos_neg {q : Rat} (h : 0 < q.num) : (⟨#[45]⟩ : ByteArray) ++ T q = T (-q) := by
  apply bytes_eq
  have e : ((⟨#[45]⟩ : ByteArray) ++ T q).data.toList = 45 :: (T q).data.toList := by simp
  rw [e, T_list, T_list, ratS_eq, ratS_eq, Rat.neg_num, Rat.neg_den]
  rcases itoa_cases q.num with ⟨a, _⟩ | ⟨_, a⟩
  · omega
  · rcases itoa_cases (-q.num) with ⟨_, b⟩ | ⟨b, _⟩
    · rw [a, b, Int.natAbs_neg]
      rfl
    · omega
theorem T_zero_test (q : Rat) : ((T q).toList == [48]) = decide (q = 0) := by
  rw [list_is (T_list q)]
  have h0 : ratS 0 = [48] := by rw [← T_list, T0]
  refine decide_eq_decide.2 ⟨fun e => ratS_inj (e.trans h0.symm), fun e => by rw [e, h0]⟩
set_option maxRecDepth 100000 in
set_option maxHeartbeats 4000000 in
theorem r2negative_T {y : Rat} (fy : fitsQ y) (w : World) : Calls Tryz.prog 119 #[.string (T y)] w (Ret w (.string (T (-y)))) := by
  obtain ⟨hp, he⟩ := T_head y
  have hz := T_zero_test y
  have hs := T_size fy
  have hp0 : (0 : Int) < ((T y).size : Int) := by omega
  have hp1 : (1 : Int) ≤ ((T y).size : Int) := by omega
  have hcat : (9223372036854775807 < 1 + (T y).size) = False := eq_false (by omega)
  have hk : ((T y).toList == [48]) = true ∧ T (-y) = T y ∨ ((T y).toList == [48]) = false ∧ (((((T y)[0]'hp).toNat : Nat) : Int) == 45) = true ∧ (T y).extract 1 (T y).size = T (-y) ∨
      ((T y).toList == [48]) = false ∧ (((((T y)[0]'hp).toNat : Nat) : Int) == 45) = false ∧ (⟨#[45]⟩ : ByteArray) ++ T y = T (-y) := by
    by_cases h0 : y = 0
    · exact .inl ⟨by rw [hz, decide_eq_true h0], by rw [h0, Rat.neg_zero]⟩
    · have hn : y.num ≠ 0 := fun e => h0 (Rat.num_eq_zero.1 e)
      by_cases h1 : y.num < 0
      · exact .inr (.inl ⟨by rw [hz, decide_eq_false h0], by rw [he, decide_eq_true h1], T_neg_drop h1⟩)
      · exact .inr (.inr ⟨by rw [hz, decide_eq_false h0], by rw [he, decide_eq_false h1], T_pos_neg (by omega)⟩)
  clear he hz hs
  generalize T y = S at hp hp0 hp1 hcat hk ⊢
  generalize T (-y) = R at hk ⊢
  rcases hk with ⟨a1, a2⟩ | ⟨a1, a2, a3⟩ | ⟨a1, a2, a3⟩
  · subst a2
    go_enter Tryz.func119, Tryz.ntmps119
    go_wp2_with fail
    go_ret
    exact ⟨rfl, Below.refl _ _⟩
  · have A3 := hide a3
    clear a3
    go_enter Tryz.func119, Tryz.ntmps119
    go_wp2_with fail
    go_ret
    exact ⟨by rw [← A3.out]; rfl, Below.refl _ _⟩
  · have A3 := hide a3
    clear a3
    go_enter Tryz.func119, Tryz.ntmps119
    go_wp2_with fail
    go_ret
    exact ⟨by rw [← A3.out]; rfl, Below.refl _ _⟩
set_option maxRecDepth 100000 in
theorem r2check_any (s t : ByteArray) (hs : s.size ≤ 1000000) (ht : t.size ≤ 1000000) (B : Nat) (w : World) (hB : B ≤ w.heap.size) (hT : PQ B w) :
    Calls Tryz.prog 117 #[.string s, .string t] w (Ret w (.int .i64 (bothQ s.data.toList t.data.toList))) := by
  have HT := hide hT
  have H1 := hide (fun w hB hT => r2Check_any s hs B w hB hT)
  have H2 := hide (fun w hB hT => r2Check_any t ht B w hB hT)
  unfold bothQ
  obtain ⟨x, hx⟩ : ∃ x, x = chkQ s.data.toList := ⟨_, rfl⟩
  obtain ⟨y, hy⟩ : ∃ x, x = chkQ t.data.toList := ⟨_, rfl⟩
  rw [← hx] at H1 ⊢
  rw [← hy] at H2 ⊢
  clear hx hy hT
  by_cases h : x = 0
  · subst h
    rw [if_pos rfl]
    go_enter Tryz.func117, Tryz.ntmps117
    go_wp2_with fail
    refine (H1.out _ hB HT.out).mono ?_
    rintro e w1 ⟨rfl, hb1⟩
    have HB1 := hide hb1
    clear hb1
    go_wp2_with fail
    refine (H2.out _ (Nat.le_trans hB HB1.out.size) (HT.out.on HB1.out hB)).mono ?_
    rintro e w2 ⟨rfl, hb2⟩
    have HB2 := hide (HB1.out.trans (hb2.mono HB1.out.size))
    clear hb2
    go_wp2_with fail
    go_ret
    exact ⟨rfl, HB2.out⟩
  · rw [if_neg h]
    have hne : (x != 0) = true := by simpa using h
    clear h
    go_enter Tryz.func117, Tryz.ntmps117
    go_wp2_with fail
    refine (H1.out _ hB HT.out).mono ?_
    rintro e w1 ⟨rfl, hb1⟩
    have HB1 := hide hb1
    clear hb1
    go_wp2_with fail
    go_ret
    exact ⟨rfl, HB1.out⟩
theorem r2check_T {x y : Rat} (fx : fitsQ x) (fy : fitsQ y) (B : Nat) (w : World) (hB : B ≤ w.heap.size) (hT : PQ B w) :
    Calls Tryz.prog 117 #[.string (T x), .string (T y)] w (Ret w (.int .i64 0)) := by
  have h := r2check_any (T x) (T y) (T_good fx).1 (T_good fy).1 B w hB hT
  rw [zero_bothQ (T_good fx).2.1 (T_good fy).2.1] at h
  exact h
set_option maxRecDepth 100000 in
theorem r2Sub_T {x y : Rat} (fx : fitsQ x) (fy : fitsQ y) (B : Nat) (w : World) (hB : B ≤ w.heap.size) (hT : PQ B w) :
    Calls Tryz.prog 65 #[.string (T x), .string (T y)] w (Ret w (opV (subO x y))) := by
  have HT := hide hT
  have H1 := hide (fun w hB hT => r2check_T fx fy B w hB hT)
  have HN := hide (fun w => r2negative_T fy w)
  have H2 := hide (fun w hB hT => r2add_T fx (fitsQ_neg fy) B w hB hT)
  have e : addO x (-y) = subO x y := by
    unfold addO subO
    by_cases h : subC x y
    · rw [if_pos h, if_pos ((addC_neg x y).2 h), Rat.sub_eq_add_neg]
    · rw [if_neg h, if_neg (fun a => h ((addC_neg x y).1 a))]
  rw [e] at H2
  obtain ⟨S, hS⟩ : ∃ s, s = T x := ⟨_, rfl⟩
  obtain ⟨U, hU⟩ : ∃ s, s = T y := ⟨_, rfl⟩
  obtain ⟨V, hV⟩ : ∃ s, s = T (-y) := ⟨_, rfl⟩
  rw [← hS, ← hU] at H1 ⊢
  rw [← hU, ← hV] at HN
  rw [← hS, ← hV] at H2
  clear hS hU hV hT fx fy e
  generalize subO x y = O at H2 ⊢
  cases O
  all_goals
    unfold opV at H2 ⊢
    dsimp only at H2 ⊢
    go_enter Tryz.func65, Tryz.ntmps65
    go_wp2_with fail
    refine (H1.out _ hB HT.out).mono ?_
    rintro e w1 ⟨rfl, hb1⟩
    have HB1 := hide hb1
    clear hb1
    go_wp2_with fail
    refine (HN.out _).mono ?_
    rintro e w2 ⟨rfl, hb2⟩
    have HB2 := hide (HB1.out.trans (hb2.mono HB1.out.size))
    clear hb2
    go_wp2_with fail
    refine (H2.out _ (Nat.le_trans hB HB2.out.size) (HT.out.on HB2.out hB)).mono ?_
    rintro e w3 ⟨rfl, hb3⟩
    have HB3 := hide (HB2.out.trans (hb3.mono HB2.out.size))
    clear hb3
    go_wp2_with fail
    refine bodyPost_ret (results_tmp2 rfl _ _ _) rfl ?_
    exact ⟨rfl, HB3.out⟩
/-- The product of two fractions. -/
def mulI (n d m c : Int) : Option Rat := if fits (n * m) ∧ fits (d * c) then some (Rat.divInt (n * m) (d * c)) else none
set_option maxRecDepth 100000 in
set_option maxHeartbeats 4000000 in
theorem r2mul_I {n d m c : Int} (fn : fits n) (fd : fits d) (fm : fits m) (fc : fits c) (hd : d * c ≠ 0) (B : Nat) (w : World) (hB : B ≤ w.heap.size) (hT : P10 B w) :
    Calls Tryz.prog 148 #[.string (iB n), .string (iB d), .string (iB m), .string (iB c)] w (Ret w (opV (mulI n d m c))) := by
  have HT := hide hT
  unfold mulI
  have HPY := hide (fun (h : fits (n * m) ∧ fits (d * c)) w hB hT => r2products_yes fn fm fd fc h.1 h.2 B w hB hT)
  have HPN := hide (fun (h : ¬ (fits (n * m) ∧ fits (d * c))) w hB hT => r2products_no fn fm fd fc h B w hB hT)
  have HMK := hide (fun (h : fits (n * m) ∧ fits (d * c)) w hB hT => r2make_any hd h.1 h.2 B w hB hT)
  obtain ⟨NB, hNB⟩ : ∃ s, s = iB n := ⟨_, rfl⟩
  obtain ⟨DB, hDB⟩ : ∃ s, s = iB d := ⟨_, rfl⟩
  obtain ⟨MB, hMB⟩ : ∃ s, s = iB m := ⟨_, rfl⟩
  obtain ⟨CB, hCB⟩ : ∃ s, s = iB c := ⟨_, rfl⟩
  obtain ⟨PB, hPB⟩ : ∃ s, s = iB (n * m) := ⟨_, rfl⟩
  obtain ⟨QB, hQB⟩ : ∃ s, s = iB (d * c) := ⟨_, rfl⟩
  simp only [← hNB, ← hDB, ← hMB, ← hCB, ← hPB, ← hQB] at HPY HPN HMK ⊢
  clear hNB hDB hMB hCB hPB hQB fn fd fm fc hd hT
  by_cases h : fits (n * m) ∧ fits (d * c)
  · rw [if_pos h]
    have H1 := hide (HPY.out h)
    have H2 := hide (HMK.out h)
    unfold opV
    dsimp only
    clear HPY HPN HMK h
    go_enter Tryz.func148, Tryz.ntmps148
    go_wp2_with fail
    refine (H1.out _ hB HT.out).mono ?_
    rintro e w1 ⟨rfl, hb1⟩
    have HB1 := hide hb1
    clear hb1
    go_wp2_with fail
    refine (H2.out _ (Nat.le_trans hB HB1.out.size) (HT.out.on HB1.out hB)).mono ?_
    rintro e w2 ⟨rfl, hb2⟩
    have HB2 := hide (HB1.out.trans (hb2.mono HB1.out.size))
    clear hb2
    go_wp2_with fail
    refine bodyPost_ret (results_tmp2 rfl _ _ _) rfl ?_
    exact ⟨rfl, HB2.out⟩
  · rw [if_neg h]
    have HN := hide (HPN.out h)
    unfold opV
    dsimp only
    clear HPY HPN HMK h
    go_enter Tryz.func148, Tryz.ntmps148
    go_wp2_with fail
    obtain ⟨X, Y, hXY⟩ := HN.out _ hB HT.out
    refine hXY.mono ?_
    rintro e w1 ⟨rfl, hb1⟩
    have HB1 := hide hb1
    clear hb1 hXY
    go_wp2_with fail
    refine bodyPost_ret (results_tmp2 rfl _ _ _) rfl ?_
    exact ⟨rfl, HB1.out⟩
/-- ints of two numbers of which one is long. -/
theorem ints_long {x y : Rat} (fx : fitsQ x) (fy : fitsQ y) (hs : ¬ (shortQ x ∧ shortQ y)) : ∃ v1 v2 : Int, ∃ b1 b2 : Bool, ∃ v3 v4 : Int, Hid (∀ w, Calls Tryz.prog 145 #[.string (T x)] w (Ret w (.tuple #[.int .i64 v1, .int .i64 v2, .bool b1]))) ∧ Hid (∀ w, Calls Tryz.prog 145 #[.string (T y)] w (Ret w (.tuple #[.int .i64 v3, .int .i64 v4, .bool b2]))) ∧ (b1 = false ∨ (b1 = true ∧ b2 = false)) := by
  have HI1 := fun w => r2ints_T fx w
  have HI2 := fun w => r2ints_T fy w
  unfold intsQ at HI1 HI2
  by_cases h1 : shortQ x
  · have h2 : ¬ shortQ y := fun e => hs ⟨h1, e⟩
    rw [if_pos h1] at HI1
    rw [if_neg h2] at HI2
    exact ⟨_, _, _, _, _, _, hide HI1, hide HI2, .inr ⟨rfl, rfl⟩⟩
  · rw [if_neg h1] at HI1
    by_cases h2 : shortQ y
    · rw [if_pos h2] at HI2
      exact ⟨_, _, _, _, _, _, hide HI1, hide HI2, .inl rfl⟩
    · rw [if_neg h2] at HI2
      exact ⟨_, _, _, _, _, _, hide HI1, hide HI2, .inl rfl⟩
theorem ints_short {x : Rat} (fx : fitsQ x) (h : shortQ x) (w : World) : Calls Tryz.prog 145 #[.string (T x)] w (Ret w (.tuple #[.int .i64 x.num, .int .i64 (x.den : Int), .bool true])) := by
  have H := r2ints_T fx w
  unfold intsQ at H
  rw [if_pos h] at H
  exact H
set_option maxRecDepth 100000 in
set_option maxHeartbeats 8000000 in
theorem r2Mul_T {x y : Rat} (fx : fitsQ x) (fy : fitsQ y) (B : Nat) (w : World) (hB : B ≤ w.heap.size) (hT : PQ B w) :
    Calls Tryz.prog 100 #[.string (T x), .string (T y)] w (Ret w (opV (mulO x y))) := by
  have HT := hide hT
  have H1 := hide (fun w hB hT => r2check_T fx fy B w hB hT)
  by_cases hs : shortQ x ∧ shortQ y
  · have HI1 := hide (fun w => ints_short fx hs.1 w)
    have HI2 := hide (fun w => ints_short fy hs.2 w)
    obtain ⟨a1, a2⟩ := shortQ_lt hs.1
    obtain ⟨b1, b2⟩ := shortQ_lt hs.2
    have ap := x.den_pos
    have bp := y.den_pos
    rw [mulO_sz (short_sz hs.1) (short_sz hs.2) (by rw [most_eq]; omega)]
    unfold opV
    have hdiv := divInt_mul x y
    have m1 := prod9 (a := x.num) (b := y.num) a1 b1
    have m3 := prod9 (a := (x.den : Int)) (b := (y.den : Int)) (by omega) (by omega)
    have m4 : 0 < x.den * y.den := Nat.mul_pos ap bp
    have m5 : ((x.den * y.den : Nat) : Int) = (x.den : Int) * (y.den : Int) := by push_cast; rfl
    have HQ := hide (fun w => r2quick_any (x.num * y.num) (x.den * y.den) (by omega) (by omega) m4 w)
    rw [m5, hdiv] at HQ
    obtain ⟨R, hR⟩ : ∃ s, s = T (x * y) := ⟨_, rfl⟩
    have hR2 : strB (ratS (x * y)) = R := hR.symm
    rw [hR2] at HQ
    dsimp only
    rw [← hR]
    obtain ⟨S, hS⟩ : ∃ s, s = T x := ⟨_, rfl⟩
    obtain ⟨U, hU⟩ : ∃ s, s = T y := ⟨_, rfl⟩
    obtain ⟨n, hn⟩ : ∃ n, n = x.num := ⟨_, rfl⟩
    obtain ⟨d, hd⟩ : ∃ n, n = (x.den : Int) := ⟨_, rfl⟩
    obtain ⟨m, hm⟩ : ∃ n, n = y.num := ⟨_, rfl⟩
    obtain ⟨c, hc⟩ : ∃ n, n = (y.den : Int) := ⟨_, rfl⟩
    simp only [← hn, ← hd, ← hm, ← hc, ← hS, ← hU] at HI1 HI2 HQ m1 m3 H1 ⊢
    have v1 : IntKind.i64.wrap (n * m) = n * m := IntWalk.i64_in _ (by omega)
    have v3 : IntKind.i64.wrap (d * c) = d * c := IntWalk.i64_in _ (by omega)
    clear hR hR2 hdiv m1 m3 m4 m5 hs a1 a2 b1 b2 ap bp hn hd hm hc fx fy hS hU hT
    go_enter Tryz.func100, Tryz.ntmps100
    go_wp2_with fail
    refine (H1.out _ hB HT.out).mono ?_
    rintro e w1 ⟨rfl, hb1⟩
    have HB1 := hide hb1
    clear hb1
    go_wp2_with fail
    refine (HI1.out _).mono ?_
    rintro e w2 ⟨rfl, hb2⟩
    have HB2 := hide (HB1.out.trans (hb2.mono HB1.out.size))
    clear hb2
    go_wp2_with fail
    refine (HI2.out _).mono ?_
    rintro e w3 ⟨rfl, hb3⟩
    have HB3 := hide (HB2.out.trans (hb3.mono HB2.out.size))
    clear hb3
    go_wp2_with fail
    refine (HQ.out _).mono ?_
    rintro e w4 ⟨rfl, hb4⟩
    have HB4 := hide (HB3.out.trans (hb4.mono HB3.out.size))
    clear hb4
    go_wp2_with fail
    refine bodyPost_ret (results_tmp2 rfl _ _ _) rfl ?_
    exact ⟨rfl, HB4.out⟩
  · obtain ⟨i1, i2, b1, b2, i3, i4, HI1, HI2, hb⟩ := ints_long fx fy hs
    have HP1 := hide (fun w => r2parts_T fx w)
    have HP2 := hide (fun w => r2parts_T fy w)
    have hO : mulI x.num (x.den : Int) y.num (y.den : Int) = mulO x y := by
      unfold mulI mulO
      rw [divInt_mul]
      by_cases h : mulC x y
      · exact (if_pos h).trans (if_pos h).symm
      · exact (if_neg h).trans (if_neg h).symm
    have hdc : (x.den : Int) * (y.den : Int) ≠ 0 := by have := dens_pos x y; omega
    have HM := hide (fun w hB hT => r2mul_I fx.1 fx.2 fy.1 fy.2 hdc B w hB hT)
    rw [hO] at HM
    obtain ⟨S, hS⟩ : ∃ s, s = T x := ⟨_, rfl⟩
    obtain ⟨U, hU⟩ : ∃ s, s = T y := ⟨_, rfl⟩
    obtain ⟨NB, hNB⟩ : ∃ s, s = iB x.num := ⟨_, rfl⟩
    obtain ⟨DB, hDB⟩ : ∃ s, s = iB (x.den : Int) := ⟨_, rfl⟩
    obtain ⟨MB, hMB⟩ : ∃ s, s = iB y.num := ⟨_, rfl⟩
    obtain ⟨CB, hCB⟩ : ∃ s, s = iB (y.den : Int) := ⟨_, rfl⟩
    simp only [← hNB, ← hDB, ← hMB, ← hCB, ← hS, ← hU] at HI1 HI2 HP1 HP2 HM H1 ⊢
    clear hNB hDB hMB hCB hS hU hO hdc hs fx fy hT
    generalize mulO x y = O at HM ⊢
    cases O
    all_goals
      unfold opV at HM ⊢
      dsimp only at HM ⊢
      rcases hb with rfl | ⟨rfl, rfl⟩
      all_goals
        go_enter Tryz.func100, Tryz.ntmps100
        go_wp2_with fail
        refine (H1.out _ hB HT.out).mono ?_
        rintro e w1 ⟨rfl, hb1⟩
        have HB1 := hide hb1
        clear hb1
        go_wp2_with fail
        refine (HI1.out _).mono ?_
        rintro e w2 ⟨rfl, hb2⟩
        have HB2 := hide (HB1.out.trans (hb2.mono HB1.out.size))
        clear hb2
        go_wp2_with fail
        refine (HI2.out _).mono ?_
        rintro e w3 ⟨rfl, hb3⟩
        have HB3 := hide (HB2.out.trans (hb3.mono HB2.out.size))
        clear hb3
        go_wp2_with fail
        refine (HP1.out _).mono ?_
        rintro e w4 ⟨rfl, hb4⟩
        have HB4 := hide (HB3.out.trans (hb4.mono HB3.out.size))
        clear hb4
        go_wp2_with fail
        refine (HP2.out _).mono ?_
        rintro e w5 ⟨rfl, hb5⟩
        have HB5 := hide (HB4.out.trans (hb5.mono HB4.out.size))
        clear hb5
        go_wp2_with fail
        refine (HM.out _ (Nat.le_trans hB HB5.out.size) (HT.out.p10.on HB5.out hB)).mono ?_
        rintro e w6 ⟨rfl, hb6⟩
        have HB6 := hide (HB5.out.trans (hb6.mono HB5.out.size))
        clear hb6
        go_wp2_with fail
        refine bodyPost_ret (results_tmp2 rfl _ _ _) rfl ?_
        exact ⟨rfl, HB6.out⟩
/-- What a comparison answers. -/
def cmpOV (x y : Rat) : Value := if cmpC x y then .tuple #[.int .i64 (cmpR x y), .int .i64 0] else .tuple #[.int .i64 0, .int .i64 4]
set_option maxRecDepth 100000 in
set_option maxHeartbeats 8000000 in
theorem r2Compare_T {x y : Rat} (fx : fitsQ x) (fy : fitsQ y) (B : Nat) (w : World) (hB : B ≤ w.heap.size) (hT : PQ B w) :
    Calls Tryz.prog 125 #[.string (T x), .string (T y)] w (Ret w (cmpOV x y)) := by
  have HT := hide hT
  have H1 := hide (fun w hB hT => r2check_T fx fy B w hB hT)
  unfold cmpOV
  by_cases hs : shortQ x ∧ shortQ y
  · rw [if_pos (cmpC_of (short_sz hs.1) (short_sz hs.2) (by rw [most_eq]; omega)), ← cmpR_int]
    have HI1 := hide (fun w => ints_short fx hs.1 w)
    have HI2 := hide (fun w => ints_short fy hs.2 w)
    obtain ⟨a1, a2⟩ := shortQ_lt hs.1
    obtain ⟨b1, b2⟩ := shortQ_lt hs.2
    have m1 := prod9 (a := x.num) (b := (y.den : Int)) a1 (by omega)
    have m3 := prod9 (a := y.num) (b := (x.den : Int)) b1 (by omega)
    obtain ⟨S, hS⟩ : ∃ s, s = T x := ⟨_, rfl⟩
    obtain ⟨U, hU⟩ : ∃ s, s = T y := ⟨_, rfl⟩
    obtain ⟨n, hn⟩ : ∃ n, n = x.num := ⟨_, rfl⟩
    obtain ⟨d, hd⟩ : ∃ n, n = (x.den : Int) := ⟨_, rfl⟩
    obtain ⟨m, hm⟩ : ∃ n, n = y.num := ⟨_, rfl⟩
    obtain ⟨c, hc⟩ : ∃ n, n = (y.den : Int) := ⟨_, rfl⟩
    simp only [← hn, ← hd, ← hm, ← hc, ← hS, ← hU] at HI1 HI2 m1 m3 H1 ⊢
    have v1 : IntKind.i64.wrap (n * c) = n * c := IntWalk.i64_in _ (by omega)
    have v3 : IntKind.i64.wrap (m * d) = m * d := IntWalk.i64_in _ (by omega)
    have hk : (n * c < m * d ∧ Lib.compareInt (n * c) (m * d) = -1) ∨ ((n * c < m * d) = False ∧ m * d < n * c ∧ Lib.compareInt (n * c) (m * d) = 1) ∨ ((n * c < m * d) = False ∧ (m * d < n * c) = False ∧ Lib.compareInt (n * c) (m * d) = 0) := by
      unfold Lib.compareInt
      rcases Int.lt_trichotomy (n * c) (m * d) with h | h | h
      · exact .inl ⟨h, by rw [if_pos h]⟩
      · exact .inr (.inr ⟨eq_false (by omega), eq_false (by omega), by rw [if_neg (by omega), if_neg (by omega)]⟩)
      · exact .inr (.inl ⟨eq_false (by omega), h, by rw [if_neg (by omega), if_pos h]⟩)
    clear m1 m3 hs a1 a2 b1 b2 hn hd hm hc fx fy hS hU hT
    rcases hk with ⟨k1, e⟩ | ⟨k1, k2, e⟩ | ⟨k1, k2, e⟩ <;> rw [e] <;> clear e
    all_goals
      go_enter Tryz.func125, Tryz.ntmps125
      go_wp2_with fail
      refine (H1.out _ hB HT.out).mono ?_
      rintro e w1 ⟨rfl, hb1⟩
      have HB1 := hide hb1
      clear hb1
      go_wp2_with fail
      refine (HI1.out _).mono ?_
      rintro e w2 ⟨rfl, hb2⟩
      have HB2 := hide (HB1.out.trans (hb2.mono HB1.out.size))
      clear hb2
      go_wp2_with fail
      refine (HI2.out _).mono ?_
      rintro e w3 ⟨rfl, hb3⟩
      have HB3 := hide (HB2.out.trans (hb3.mono HB2.out.size))
      clear hb3
      go_wp2_with fail
      refine bodyPost_ret (results_tmp2 rfl _ _ _) rfl ?_
      exact ⟨rfl, HB3.out⟩
  · obtain ⟨i1, i2, b1, b2, i3, i4, HI1, HI2, hb⟩ := ints_long fx fy hs
    have HP1 := hide (fun w => r2parts_T fx w)
    have HP2 := hide (fun w => r2parts_T fy w)
    have HPY := hide (fun (h : cmpC x y) w hB hT => r2products_yes fx.1 fy.2 fy.1 fx.2 h.1 h.2 B w hB hT)
    have HPN := hide (fun (h : ¬ cmpC x y) w hB hT => r2products_no fx.1 fy.2 fy.1 fx.2 h B w hB hT)
    have HC := hide (fun (h : cmpC x y) w => rCompare_I h.1 h.2 w)
    rw [cmpR_int] at HC
    obtain ⟨S, hS⟩ : ∃ s, s = T x := ⟨_, rfl⟩
    obtain ⟨U, hU⟩ : ∃ s, s = T y := ⟨_, rfl⟩
    obtain ⟨NB, hNB⟩ : ∃ s, s = iB x.num := ⟨_, rfl⟩
    obtain ⟨DB, hDB⟩ : ∃ s, s = iB (x.den : Int) := ⟨_, rfl⟩
    obtain ⟨MB, hMB⟩ : ∃ s, s = iB y.num := ⟨_, rfl⟩
    obtain ⟨CB, hCB⟩ : ∃ s, s = iB (y.den : Int) := ⟨_, rfl⟩
    obtain ⟨PB, hPB⟩ : ∃ s, s = iB (x.num * (y.den : Int)) := ⟨_, rfl⟩
    obtain ⟨QB, hQB⟩ : ∃ s, s = iB (y.num * (x.den : Int)) := ⟨_, rfl⟩
    simp only [← hNB, ← hDB, ← hMB, ← hCB, ← hS, ← hU, ← hPB, ← hQB] at HI1 HI2 HP1 HP2 HPY HPN HC H1 ⊢
    clear hNB hDB hMB hCB hS hU hPB hQB hs fx fy hT
    by_cases h : cmpC x y
    · rw [if_pos h]
      have HA := hide (HPY.out h)
      have HD := hide (HC.out h)
      obtain ⟨r, hr⟩ : ∃ r, r = cmpR x y := ⟨_, rfl⟩
      rw [← hr] at HD ⊢
      clear h HPY HPN HC hr
      rcases hb with rfl | ⟨rfl, rfl⟩
      all_goals
        go_enter Tryz.func125, Tryz.ntmps125
        go_wp2_with fail
        refine (H1.out _ hB HT.out).mono ?_
        rintro e w1 ⟨rfl, hb1⟩
        have HB1 := hide hb1
        clear hb1
        go_wp2_with fail
        refine (HI1.out _).mono ?_
        rintro e w2 ⟨rfl, hb2⟩
        have HB2 := hide (HB1.out.trans (hb2.mono HB1.out.size))
        clear hb2
        go_wp2_with fail
        refine (HI2.out _).mono ?_
        rintro e w3 ⟨rfl, hb3⟩
        have HB3 := hide (HB2.out.trans (hb3.mono HB2.out.size))
        clear hb3
        go_wp2_with fail
        refine (HP1.out _).mono ?_
        rintro e w4 ⟨rfl, hb4⟩
        have HB4 := hide (HB3.out.trans (hb4.mono HB3.out.size))
        clear hb4
        go_wp2_with fail
        refine (HP2.out _).mono ?_
        rintro e w5 ⟨rfl, hb5⟩
        have HB5 := hide (HB4.out.trans (hb5.mono HB4.out.size))
        clear hb5
        go_wp2_with fail
        refine (HA.out _ (Nat.le_trans hB HB5.out.size) (HT.out.p10.on HB5.out hB)).mono ?_
        rintro e w6 ⟨rfl, hb6⟩
        have HB6 := hide (HB5.out.trans (hb6.mono HB5.out.size))
        clear hb6
        go_wp2_with fail
        refine (HD.out _).mono ?_
        rintro e w7 ⟨rfl, hb7⟩
        have HB7 := hide (HB6.out.trans (hb7.mono HB6.out.size))
        clear hb7
        go_wp2_with fail
        refine bodyPost_ret (results_tmp2 rfl _ _ _) rfl ?_
        exact ⟨rfl, HB7.out⟩
    · rw [if_neg h]
      have HN := hide (HPN.out h)
      clear h HPY HPN HC
      rcases hb with rfl | ⟨rfl, rfl⟩
      all_goals
        go_enter Tryz.func125, Tryz.ntmps125
        go_wp2_with fail
        refine (H1.out _ hB HT.out).mono ?_
        rintro e w1 ⟨rfl, hb1⟩
        have HB1 := hide hb1
        clear hb1
        go_wp2_with fail
        refine (HI1.out _).mono ?_
        rintro e w2 ⟨rfl, hb2⟩
        have HB2 := hide (HB1.out.trans (hb2.mono HB1.out.size))
        clear hb2
        go_wp2_with fail
        refine (HI2.out _).mono ?_
        rintro e w3 ⟨rfl, hb3⟩
        have HB3 := hide (HB2.out.trans (hb3.mono HB2.out.size))
        clear hb3
        go_wp2_with fail
        refine (HP1.out _).mono ?_
        rintro e w4 ⟨rfl, hb4⟩
        have HB4 := hide (HB3.out.trans (hb4.mono HB3.out.size))
        clear hb4
        go_wp2_with fail
        refine (HP2.out _).mono ?_
        rintro e w5 ⟨rfl, hb5⟩
        have HB5 := hide (HB4.out.trans (hb5.mono HB4.out.size))
        clear hb5
        go_wp2_with fail
        obtain ⟨X, Y, hXY⟩ := HN.out _ (Nat.le_trans hB HB5.out.size) (HT.out.p10.on HB5.out hB)
        refine hXY.mono ?_
        rintro e w6 ⟨rfl, hb6⟩
        have HB6 := hide (HB5.out.trans (hb6.mono HB5.out.size))
        clear hb6 hXY
        go_wp2_with fail
        refine bodyPost_ret (results_tmp2 rfl _ _ _) rfl ?_
        exact ⟨rfl, HB6.out⟩
end Go.Proofs.YtbfojhneajedmaaGreatDoor
