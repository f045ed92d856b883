/-
  Roots at any texts: Ratio of the program and of the reference return the same; the reference's Great.; Roots: the law Forms walked.
-/
import Derived.Test.YtgddookioipjiaaGreatDoorM19
namespace Go.Proofs.YtgddookioipjiaaGreatDoor
open Go.RowKit Go.KP Go.KI Go.Shelf
attribute [local go_sem] Oper.semAt_some

theorem firstE2 {p q : ByteArray} (h : firstE [p, q] = 0) : chk90 p.data.toList = 0 ∧ chk90 q.data.toList = 0 := by
  by_cases h1 : chk90 p.data.toList = 0
  · refine ⟨h1, ?_⟩
    by_cases h2 : chk90 q.data.toList = 0
    · exact h2
    · have : firstE [p, q] = chk90 q.data.toList := by
        show (if chk90 p.data.toList ≠ 0 then _ else firstE [q]) = _
        rw [if_neg (by simp [h1])]
        exact if_pos h2
      rw [this] at h
      exact absurd h h2
  · have : firstE [p, q] = chk90 p.data.toList := if_pos h1
    rw [this] at h
    exact absurd h h1
theorem check_split2 (p q : ByteArray) : (firstE [p, q] ≠ 0 ∧ checkE [p, q] [p, q] = firstE [p, q]) ∨ (∃ x y, roomy x ∧ roomy y ∧ p = T x ∧ q = T y ∧ (x.num < 0 ∨ (0 ≤ x.num ∧ y.num < 0)) ∧ firstE [p, q] = 0 ∧ checkE [p, q] [p, q] = 2) ∨ (∃ x y, roomy x ∧ roomy y ∧ p = T x ∧ q = T y ∧ 0 ≤ x.num ∧ 0 ≤ y.num ∧ firstE [p, q] = 0) := by
  by_cases h : firstE [p, q] = 0
  · obtain ⟨h1, h2⟩ := firstE2 h
    obtain ⟨x, rx, rfl⟩ := chk90_roomy h1
    obtain ⟨y, ry, rfl⟩ := chk90_roomy h2
    have hc : (x.num < 0 ∨ y.num < 0) → checkE [T x, T y] [T x, T y] = 2 := fun hn => by
      unfold checkE
      rw [h, if_neg (by simp), if_pos]
      rw [List.any_cons, List.any_cons, negS_T, negS_T]
      rcases hn with hn | hn
      · rw [decide_eq_true hn]; rfl
      · rw [decide_eq_true hn]; simp
    by_cases hx : x.num < 0
    · exact .inr (.inl ⟨x, y, rx, ry, rfl, rfl, .inl hx, h, hc (.inl hx)⟩)
    · by_cases hy : y.num < 0
      · exact .inr (.inl ⟨x, y, rx, ry, rfl, rfl, .inr ⟨by omega, hy⟩, h, hc (.inr hy)⟩)
      · exact .inr (.inr ⟨x, y, rx, ry, rfl, rfl, by omega, by omega, h⟩)
  · exact .inl ⟨h, if_pos h⟩
set_option maxRecDepth 100000 in
theorem rRatio_bad {p q : ByteArray} (hp : p.size ≤ 1000000) (hq : q.size ≤ 1000000) (h : checkE [p, q] [p, q] ≠ 0) (B : Nat) (w : World) (hB : B ≤ w.heap.size) (hT : PQ B w) :
    Calls Tryz.prog 18 #[.string p, .string q] w (Ret w (.tuple #[.string ⟨#[]⟩, .bool false, .int .i64 (checkE [p, q] [p, q])])) := by
  have X0 := hide (heap2 w (.cells #[.string p, .string q] 22) (.cells #[.string p, .string q] 22))
  have HC := hide (rCheck_any w.heap.size (w.heap.size + 1) [p, q] [p, q] (by simp) (by simp) (fun x hx => by simp at hx; rcases hx with rfl | rfl; exact hp; exact hq) B _ (strs2 X0.out.1) (strs2 X0.out.2.1) (Nat.le_trans hB X0.out.2.2.2.size) (hT.on X0.out.2.2.2 hB))
  have hE : (checkE [p, q] [p, q] == 0) = false := by simpa using h
  generalize checkE [p, q] [p, q] = E at *
  clear h hp hq hT
  go_enter Tryz.func18, Tryz.ntmps18
  go_wp2_with fail
  refine HC.out.mono ?_
  rintro e w1 ⟨rfl, hb1⟩
  have HB1 := hide (X0.out.2.2.2.trans (hb1.mono X0.out.2.2.2.size))
  clear hb1
  go_wp2_with fail
  refine bodyPost_ret (results_tmp3 rfl _ _ _) rfl ?_
  exact ⟨rfl, HB1.out⟩
set_option maxRecDepth 100000 in
theorem rRatio_zero {x : Rat} (rx : roomy x) (hx : 0 ≤ x.num) (B : Nat) (w : World) (hB : B ≤ w.heap.size) (hT : PQ B w) :
    Calls Tryz.prog 18 #[.string (T x), .string (T 0)] w (Ret w (.tuple #[.string ⟨#[]⟩, .bool false, .int .i64 12])) := by
  have X0 := hide (heap2 w (.cells #[.string (T x), .string (T 0)] 22) (.cells #[.string (T x), .string (T 0)] 22))
  have HC := hide (rCheck_ok w.heap.size (w.heap.size + 1) [x, 0] [x, 0] (by simp) (by simp) (fun y hy => by simp at hy; rcases hy with rfl | rfl; exact rx; exact roomy_zero) (fun y hy => by simp at hy; rcases hy with rfl | rfl; omega; decide) B _ (nums2 X0.out.1) (nums2 X0.out.2.1) (Nat.le_trans hB X0.out.2.2.2.size) (hT.on X0.out.2.2.2 hB))
  have hz := T_num0 0
  rw [decide_eq_true (show (0 : Rat).num = 0 from rfl)] at hz
  generalize T 0 = Z at *
  generalize T x = X at *
  clear rx hx hT
  go_enter Tryz.func18, Tryz.ntmps18
  go_wp2_with fail
  refine HC.out.mono ?_
  rintro e w1 ⟨rfl, hb1⟩
  have HB1 := hide (X0.out.2.2.2.trans (hb1.mono X0.out.2.2.2.size))
  clear hb1
  go_wp2_with fail
  refine bodyPost_ret (results_tmp3 rfl _ _ _) rfl ?_
  exact ⟨rfl, HB1.out⟩
set_option maxRecDepth 100000 in
theorem s3Ratio_first {p q : ByteArray} (hp : p.size ≤ 1000000) (hq : q.size ≤ 1000000) (h : firstE [p, q] ≠ 0) (B : Nat) (w : World) (hB : B ≤ w.heap.size) (hT : PQ B w) :
    Calls Tryz.prog 19 #[.string p, .string q] w (Ret w (.tuple #[.string ⟨#[]⟩, .bool false, .int .i64 (firstE [p, q])])) := by
  have X0 := hide (heap1 w (.cells #[.string p, .string q] 22))
  have HC := hide (s3check_any w.heap.size [p, q] (by simp) (fun x hx => by simp at hx; rcases hx with rfl | rfl <;> omega) B _ (strs2 X0.out.1) (Nat.le_trans hB X0.out.2.2.size) (hT.on X0.out.2.2 hB))
  have hE : (firstE [p, q] == 0) = false := by simpa using h
  generalize firstE [p, q] = E at *
  clear h hp hq hT
  go_enter Tryz.func19, Tryz.ntmps19
  go_wp2_with fail
  refine HC.out.mono ?_
  rintro e w1 ⟨rfl, hb1⟩
  have HB1 := hide (X0.out.2.2.trans (hb1.mono X0.out.2.2.size))
  clear hb1
  go_wp2_with fail
  refine bodyPost_ret (results_tmp3 rfl _ _ _) rfl ?_
  exact ⟨rfl, HB1.out⟩
theorem check2_T {x y : Rat} (rx : roomy x) (ry : roomy y) : (∀ s ∈ [T x, T y], s.size ≤ 9223372036854775807) ∧ firstE [T x, T y] = 0 := by
  refine ⟨fun s hs => ?_, firstE_zero (fun s hs => ?_)⟩
  · simp at hs
    rcases hs with rfl | rfl
    · exact size_T rx
    · exact size_T ry
  · simp at hs
    rcases hs with rfl | rfl
    · exact roomy_chk90 rx
    · exact roomy_chk90 ry
theorem sgn_of_neg {x : Rat} (h : x.num < 0) : sgnR x = -1 := cmpT_lt (Rat.not_le.1 fun h2 => by have := Rat.num_nonneg.2 h2; omega)
set_option maxRecDepth 100000 in
theorem s3Ratio_neg {x y : Rat} (rx : roomy x) (ry : roomy y) (h : x.num < 0 ∨ (0 ≤ x.num ∧ y.num < 0)) (B : Nat) (w : World) (hB : B ≤ w.heap.size) (hT : PQ B w) :
    Calls Tryz.prog 19 #[.string (T x), .string (T y)] w (Ret w (.tuple #[.string ⟨#[]⟩, .bool false, .int .i64 2])) := by
  have X0 := hide (heap1 w (.cells #[.string (T x), .string (T y)] 22))
  obtain ⟨c1, c2⟩ := check2_T rx ry
  have HC := hide (s3check_any w.heap.size [T x, T y] (by simp) c1 B _ (strs2 X0.out.1) (Nat.le_trans hB X0.out.2.2.size) (hT.on X0.out.2.2 hB))
  rw [c2] at HC
  have S1 := hide (fun w => s3sign_T x w)
  have S2 := hide (fun w => s3sign_T y w)
  rcases h with h | ⟨h, h2⟩
  · rw [sgn_of_neg h] at S1
    generalize T x = X at *
    generalize T y = Y at *
    clear rx ry h hT c1 c2 S2
    go_enter Tryz.func19, Tryz.ntmps19
    go_wp2_with fail
    refine HC.out.mono ?_
    rintro e w1 ⟨rfl, hb1⟩
    have HB1 := hide (X0.out.2.2.trans (hb1.mono X0.out.2.2.size))
    clear hb1
    go_wp2_with fail
    refine (S1.out _).mono ?_
    rintro e w2 ⟨rfl, rfl⟩
    go_wp2_with fail
    refine bodyPost_ret (results_tmp3 rfl _ _ _) rfl ?_
    exact ⟨rfl, HB1.out⟩
  · rw [sgn_of_neg h2] at S2
    have z1 : (sgnR x < 0) = False := eq_false (by have := sgn_ge (Rat.num_nonneg.1 h); omega)
    generalize sgnR x = z at *
    generalize T x = X at *
    generalize T y = Y at *
    clear rx ry h h2 hT c1 c2
    go_enter Tryz.func19, Tryz.ntmps19
    go_wp2_with fail
    refine HC.out.mono ?_
    rintro e w1 ⟨rfl, hb1⟩
    have HB1 := hide (X0.out.2.2.trans (hb1.mono X0.out.2.2.size))
    clear hb1
    go_wp2_with fail
    refine (S1.out _).mono ?_
    rintro e w2 ⟨rfl, rfl⟩
    go_wp2_with fail
    refine (S2.out _).mono ?_
    rintro e w2 ⟨rfl, rfl⟩
    go_wp2_with fail
    refine bodyPost_ret (results_tmp3 rfl _ _ _) rfl ?_
    exact ⟨rfl, HB1.out⟩
set_option maxRecDepth 100000 in
theorem s3Ratio_zero {x : Rat} (rx : roomy x) (hx : 0 ≤ x.num) (B : Nat) (w : World) (hB : B ≤ w.heap.size) (hT : PQ B w) :
    Calls Tryz.prog 19 #[.string (T x), .string (T 0)] w (Ret w (.tuple #[.string ⟨#[]⟩, .bool false, .int .i64 12])) := by
  have X0 := hide (heap1 w (.cells #[.string (T x), .string (T 0)] 22))
  obtain ⟨c1, c2⟩ := check2_T rx roomy_zero
  have HC := hide (s3check_any w.heap.size [T x, T 0] (by simp) c1 B _ (strs2 X0.out.1) (Nat.le_trans hB X0.out.2.2.size) (hT.on X0.out.2.2 hB))
  rw [c2] at HC
  have S1 := hide (fun w => s3sign_T x w)
  have S2 := hide (fun w => s3sign_T 0 w)
  rw [show sgnR 0 = 0 from rfl] at S2
  have z1 : (sgnR x < 0) = False := eq_false (by have := sgn_ge (Rat.num_nonneg.1 hx); omega)
  generalize sgnR x = z at *
  generalize T x = X at *
  generalize T 0 = Y at *
  clear rx hx hT c1 c2
  go_enter Tryz.func19, Tryz.ntmps19
  go_wp2_with fail
  refine HC.out.mono ?_
  rintro e w1 ⟨rfl, hb1⟩
  have HB1 := hide (X0.out.2.2.trans (hb1.mono X0.out.2.2.size))
  clear hb1
  go_wp2_with fail
  refine (S1.out _).mono ?_
  rintro e w2 ⟨rfl, rfl⟩
  go_wp2_with fail
  refine (S2.out _).mono ?_
  rintro e w2 ⟨rfl, rfl⟩
  go_wp2_with fail
  refine (S2.out _).mono ?_
  rintro e w2 ⟨rfl, rfl⟩
  go_wp2_with fail
  refine bodyPost_ret (results_tmp3 rfl _ _ _) rfl ?_
  exact ⟨rfl, HB1.out⟩
set_option maxRecDepth 100000 in
set_option maxHeartbeats 8000000 in
theorem s3Ratio_T {x y : Rat} (rx : roomy x) (ry : roomy y) (hx : 0 ≤ x.num) (hy : 0 < y.num) (B : Nat) (w : World) (hB : B ≤ w.heap.size) (hT : PQ B w) :
    Calls Tryz.prog 19 #[.string (T x), .string (T y)] w (Ret w (.tuple #[.string (rootT (sqR (x / y))), .bool (rootB (sqR (x / y))), .int .i64 0])) := by
  have HT := hide hT
  have X0 := hide (heap1 w (.cells #[.string (T x), .string (T y)] 22))
  obtain ⟨c1, c2⟩ := check2_T rx ry
  have HC := hide (s3check_any w.heap.size [T x, T y] (by simp) c1 B _ (strs2 X0.out.1) (Nat.le_trans hB X0.out.2.2.size) (hT.on X0.out.2.2 hB))
  rw [c2] at HC
  have S1 := hide (fun w => s3sign_T x w)
  have S2 := hide (fun w => s3sign_T y w)
  rw [sgnR_pos hy] at S2
  have z1 : (sgnR x < 0) = False := eq_false (by have := sgn_ge (Rat.num_nonneg.1 hx); omega)
  have sx := roomy_sz rx
  have sy := roomy_sz ry
  have hc := cmpC_of sx sy (by rw [most_eq]; omega)
  have HD := hide (fun w hB hT => s3quotient_T rx.1 ry.1 hy hc B w hB hT)
  have sq := sz_div (by omega) sx sy
  have fq := sz_fits sq (by rw [most_eq]; omega)
  have hq0 : 0 ≤ (x / y).num := by
    rw [Rat.num_nonneg, Rat.div_def]
    exact Rat.mul_nonneg (Rat.num_nonneg.1 hx) (Rat.le_of_lt (Rat.inv_pos.2 (pos_num hy)))
  have HPA := hide (fun w hB hT => r2Parts_T fq B w hB hT)
  have hS := sqR_eq (x / y)
  generalize x / y = q at *
  have en : q.num = ((q.num.toNat : Nat) : Int) := by omega
  have fn : fits ((q.num.toNat : Nat) : Int) := by rw [← en]; exact fq.1
  have Q1 := hide (fun w hB hT => s3square_I fn B w hB hT)
  have Q2 := hide (fun w hB hT => s3square_I (n := q.den) fq.2 B w hB hT)
  rw [← en] at Q1
  have f1 := fits_root fn
  have f2 := fits_root (n := q.den) fq.2
  have hp2 : 0 < ((rootN q.den : Nat) : Int) := by have := root_pos q.den_pos; omega
  have HQU := hide (fun w hB hT => s3quotient_T (x := (((rootN q.num.toNat : Nat) : Int) : Rat)) (y := (((rootN q.den : Nat) : Int) : Rat)) (fitsQ_int f1) (fitsQ_int f2) hp2 ⟨by show fits (_ * 1); rw [Int.mul_one]; exact f1, by show fits (_ * 1); rw [Int.mul_one]; exact f2⟩ B w hB hT)
  rw [← iB_T, ← iB_T] at HQU
  rw [show ((((rootN q.num.toNat : Nat) : Int) : Rat) / (((rootN q.den : Nat) : Int) : Rat)) = ((rootN q.num.toNat : Nat) : Rat) / ((rootN q.den : Nat) : Rat) from rfl] at HQU
  generalize ((rootN q.num.toNat : Nat) : Rat) / ((rootN q.den : Nat) : Rat) = R at HQU hS
  generalize sqR q = S at hS ⊢
  generalize sqI q.num.toNat = b1 at Q1 hS
  generalize sqI q.den = b2 at Q2 hS
  generalize iB ((rootN q.num.toNat : Nat) : Int) = X1 at Q1 HQU
  generalize iB ((rootN q.den : Nat) : Int) = X2 at Q2 HQU
  generalize iB q.num = N at HPA Q1
  generalize iB ((q.den : Nat) : Int) = D at HPA Q2
  generalize T q = TQ at *
  generalize sgnR x = z at *
  generalize T x = X at *
  generalize T y = Y at *
  clear rx ry hx hy hT c1 c2 sx sy hc sq fq hq0 en fn f1 f2 hp2
  have hk : (b1 = false ∧ S = none) ∨ (b1 = true ∧ b2 = false ∧ S = none) ∨ (b1 = true ∧ b2 = true ∧ S = some R) := by
    cases b1 <;> cases b2 <;> simp [hS]
  clear hS
  rcases hk with ⟨rfl, rfl⟩ | ⟨rfl, rfl, rfl⟩ | ⟨rfl, rfl, rfl⟩
  all_goals
    dsimp only [rootT, rootB]
    go_enter Tryz.func19, Tryz.ntmps19
    go_wp2_with fail
    refine HC.out.mono ?_
    rintro e w1 ⟨rfl, hb1⟩
    have HB1 := hide (X0.out.2.2.trans (hb1.mono X0.out.2.2.size))
    clear hb1
    go_wp2_with fail
    refine (S1.out _).mono ?_
    rintro e w2 ⟨rfl, rfl⟩
    go_wp2_with fail
    refine (S2.out _).mono ?_
    rintro e w2 ⟨rfl, rfl⟩
    go_wp2_with fail
    refine (S2.out _).mono ?_
    rintro e w2 ⟨rfl, rfl⟩
    go_wp2_with fail
    refine (HD.out _ (Nat.le_trans hB HB1.out.size) (HT.out.on HB1.out hB)).mono ?_
    rintro e w2 ⟨rfl, hb2⟩
    have HB2 := hide (HB1.out.trans (hb2.mono HB1.out.size))
    clear hb2
    go_wp2_with fail
    refine (HPA.out _ (Nat.le_trans hB HB2.out.size) (HT.out.on HB2.out hB)).mono ?_
    rintro e w3 ⟨rfl, hb3⟩
    have HB3 := hide (HB2.out.trans (hb3.mono HB2.out.size))
    clear hb3
    go_wp2_with fail
    refine (Q1.out _ (Nat.le_trans hB HB3.out.size) (HT.out.p10.on HB3.out hB)).mono ?_
    rintro e w4 ⟨rfl, hb4⟩
    have HB4 := hide (HB3.out.trans (hb4.mono HB3.out.size))
    clear hb4
    go_wp2_with fail
    refine (Q2.out _ (Nat.le_trans hB HB4.out.size) (HT.out.p10.on HB4.out hB)).mono ?_
    rintro e w5 ⟨rfl, hb5⟩
    have HB5 := hide (HB4.out.trans (hb5.mono HB4.out.size))
    clear hb5
    go_wp2_with fail
    first
      | (refine bodyPost_ret (results_tmp3 rfl _ _ _) rfl ?_
         exact ⟨rfl, HB5.out⟩)
      | skip
  refine (HQU.out _ (Nat.le_trans hB HB5.out.size) (HT.out.on HB5.out hB)).mono ?_
  rintro e w6 ⟨rfl, hb6⟩
  have HB6 := hide (HB5.out.trans (hb6.mono HB5.out.size))
  clear hb6
  go_wp2_with fail
  refine bodyPost_ret (results_tmp3 rfl _ _ _) rfl ?_
  exact ⟨rfl, HB6.out⟩
/-- Ratio: the same results. -/
theorem ratio_same (p q : ByteArray) (hp : p.size ≤ 1000000) (hq : q.size ≤ 1000000) (B : Nat) : ∃ (a : ByteArray) (b : Bool) (e : Int), Hid (∀ w, B ≤ w.heap.size → PR B w → Calls Tryz.prog 18 #[.string p, .string q] w (Ret w (.tuple #[.string a, .bool b, .int .i64 e]))) ∧ Hid (∀ w, B ≤ w.heap.size → PR B w → Calls Tryz.prog 19 #[.string p, .string q] w (Ret w (.tuple #[.string a, .bool b, .int .i64 e]))) := by
  rcases check_split2 p q with ⟨h1, h2⟩ | ⟨x, y, rx, ry, rfl, rfl, h, h1, h2⟩ | ⟨x, y, rx, ry, rfl, rfl, hx, hy, h1⟩
  · refine ⟨_, _, _, hide (fun w hB hT => rRatio_bad hp hq (by rw [h2]; exact h1) B w hB hT.pq), hide (fun w hB hT => ?_)⟩
    rw [h2]
    exact s3Ratio_first hp hq h1 B w hB hT.pq
  · refine ⟨_, _, _, hide (fun w hB hT => rRatio_bad hp hq (by rw [h2]; decide) B w hB hT.pq), hide (fun w hB hT => ?_)⟩
    rw [h2]
    exact s3Ratio_neg rx ry h B w hB hT.pq
  · by_cases h0 : y.num = 0
    · have hy0 := Rat.num_eq_zero.1 h0
      subst hy0
      exact ⟨_, _, _, hide (fun w hB hT => rRatio_zero rx hx B w hB hT.pq), hide (fun w hB hT => s3Ratio_zero rx hx B w hB hT.pq)⟩
    · have hc := cmpC_of (roomy_sz rx) (roomy_sz ry) (by rw [most_eq]; omega)
      exact ⟨_, _, _, hide (fun w hB hT => rRatio_T rx ry hx (by omega) hc B w hB hT.pq), hide (fun w hB hT => s3Ratio_T rx ry hx (by omega) B w hB hT.pq)⟩
set_option maxRecDepth 100000 in
set_option maxHeartbeats 8000000 in
/-- Great: some answer; if it is no, no text is long. -/
theorem s3Great_any (b1 : Nat) (l1 : List ByteArray) (n1 : l1.length ≤ 1000) (h1 : ∀ s ∈ l1, s.size ≤ 9223372036854775807) (B : Nat) (w : World) (c1 : StrsAt w b1 l1) (hB : B ≤ w.heap.size) (hT : PQ B w) :
    Calls Tryz.prog 12 #[.slice (some ⟨b1, 0, none⟩) l1.length l1.length] w (fun e w' => Ret w (.bool true) e w' ∨ (Ret w (.bool false) e w' ∧ ∀ s ∈ l1, s.size ≤ 330)) := by
  have HT := hide hT
  obtain ⟨n, hn⟩ : ∃ n, n = l1.length := ⟨_, rfl⟩
  rw [← hn] at n1 ⊢
  have C1 := hide c1
  have N1 := hide hn
  have R1 := hide h1
  clear c1 hn h1 hT
  go_enter Tryz.func12, Tryz.ntmps12
  go_wp2_with fail
  go_loopw [3] (fun i wr => ∃ k : Nat, k ≤ n ∧ i = .int .i64 k ∧ Hid ((∀ x ∈ l1.take k, x.size ≤ 330) ∧ Below w.heap.size w wr)) (fun i _ => n - (intOf i).toNat)
  case atStart => exact ⟨0, Nat.zero_le _, rfl, by simp, Below.refl _ _⟩
  case round =>
    obtain ⟨k, hk, rfl, hin⟩ := hrel
    obtain ⟨wo, hwo⟩ : ∃ wo, wo = wr := ⟨_, rfl⟩
    subst hwo
    have IN := hide hin.out.1
    have HB0 := hide hin.out.2
    by_cases hlt : k < n
    · have hki : (k : Int) < (n : Int) := by omega
      have hk0 : (0 : Int) ≤ (k : Int) := by omega
      obtain ⟨s, hs⟩ : ∃ s, l1[k]? = some s := ⟨_, List.getElem?_eq_getElem (by rw [← N1.out]; exact hlt)⟩
      have hss := R1.out s (List.mem_of_getElem? hs)
      have hcell := (C1.out.below HB0.out C1.out.1).2 k s hs
      have HSK := hide hs
      have HNX := hide (show s.size ≤ 330 → ∀ x ∈ l1.take (k + 1), x.size ≤ 330 from fun h x hx => by
        rw [List.take_add_one, hs] at hx
        rcases List.mem_append.1 hx with h2 | h2
        · exact IN.out x h2
        · simp at h2; rw [h2]; exact h)
      by_cases h40 : 40 < s.size
      · have g40 : (40 : Int) < (s.size : Int) := by omega
        have X0 := hide (heap1 wo (.cells #[.string s] 22))
        have HBX := hide (HB0.out.trans (X0.out.2.2.mono HB0.out.size))
        have HC := hide (s3check_any wo.heap.size [s] (by simp) (fun x hx => by simp at hx; subst hx; exact hss) B _ (strs1 X0.out.1) (Nat.le_trans hB HBX.out.size) (HT.out.on HBX.out hB))
        generalize firstE [s] = E at HC
        clear hs hss hlt hin h40
        go_wp2_with fail
        refine HC.out.mono ?_
        rintro e w1 ⟨rfl, hb1⟩
        have HB1 := hide (HBX.out.trans (hb1.mono HBX.out.size))
        clear hb1 hcell HC X0 HBX
        by_cases hE : E = 0
        · subst hE
          go_wp2_with fail
          go_ret
          exact .inl ⟨rfl, HB1.out⟩
        · have hEb : (E == 0) = false := by simpa using hE
          have hcell := (C1.out.below HB1.out C1.out.1).2 k s HSK.out
          clear hE
          by_cases h330 : s.size ≤ 330
          · have g330 : ((330 : Int) < (s.size : Int)) = False := eq_false (by omega)
            have HN := hide (HNX.out h330)
            clear h330
            go_wp2_with fail
            go_roundw
            case rel => exact ⟨k + 1, by omega, by simp, HN.out, HB1.out⟩
            case measure => simp [intOf]; omega
          · have g330 : (330 : Int) < (s.size : Int) := by omega
            clear h330
            go_wp2_with fail
            go_ret
            exact .inl ⟨rfl, HB1.out⟩
      · have g40 : ((40 : Int) < (s.size : Int)) = False := eq_false (by omega)
        have g330 : ((330 : Int) < (s.size : Int)) = False := eq_false (by omega)
        have HN := hide (HNX.out (by omega))
        clear hs hss hlt hin h40
        go_wp2_with fail
        go_roundw
        case rel => exact ⟨k + 1, by omega, by simp, HN.out, HB0.out⟩
        case measure => simp [intOf]; omega
    · obtain rfl : k = n := by omega
      have hki : ((k : Int) < (k : Int)) = False := eq_false (by omega)
      have hA : ∀ s ∈ l1, s.size ≤ 330 := by
        have h := IN.out
        rw [List.take_of_length_le (by rw [← N1.out]; omega)] at h
        exact h
      have HA := hide hA
      clear hlt hin hA
      go_wp2_with fail
      go_ret
      exact .inr ⟨⟨rfl, HB0.out⟩, HA.out⟩
end Go.Proofs.YtgddookioipjiaaGreatDoor
namespace Go.Proofs.YtgddookioipjiaaGreatDoor
open Go.RowKit Go.KP Go.KI Go.Shelf
attribute [local go_sem] Oper.semAt_some

set_option maxRecDepth 100000 in
set_option maxHeartbeats 16000000 in
theorem lawForms_any (p q : ByteArray) (hp : p.size ≤ 9223372036854775807) (hq : q.size ≤ 9223372036854775807) (n0 : Nat) (w : World) (hB : n0 ≤ w.heap.size) (hT : PR n0 w) :
    Calls Tryz.prog 3 #[.string p, .string q] w (Ret w (.bool true)) := by
  have HT := hide hT
  have HAW := hide (fun w hB hT => l3awake_any n0 w hB hT)
  have X0 := hide (heap1 w (.cells #[.string p, .string q] 22))
  have HG := hide (s3Great_any w.heap.size [p, q] (by simp) (fun s hs => by simp at hs; rcases hs with rfl | rfl; exact hp; exact hq) n0 _ (strs2 X0.out.1) (Nat.le_trans hB X0.out.2.2.size) (hT.on X0.out.2.2 hB).pq)
  clear hT hp hq
  go_enter Tryz.func3, Tryz.ntmps3
  go_wp2_with fail
  refine HG.out.mono ?_
  rintro e w1 (⟨rfl, hb1⟩ | ⟨⟨rfl, hb1⟩, hsz⟩)
  · have HB1 := hide (X0.out.2.2.trans (hb1.mono X0.out.2.2.size))
    clear hb1 X0 HG
    go_wp2_with fail
    refine (HAW.out _ (Nat.le_trans hB HB1.out.size) (HT.out.on HB1.out hB)).mono ?_
    rintro e w99 ⟨rfl, hb99⟩
    have HB99 := hide (HB1.out.trans (hb99.mono HB1.out.size))
    clear hb99
    go_wp2_with fail
    go_ret
    exact ⟨rfl, HB99.out⟩
  · have HB1 := hide (X0.out.2.2.trans (hb1.mono X0.out.2.2.size))
    have sp := hsz p (by simp)
    have sq := hsz q (by simp)
    obtain ⟨A, D, E1, N1, N2⟩ := normal_same q (by omega) n0
    obtain ⟨X, is, E2, M1, M2⟩ := exact_same q (by omega) n0
    obtain ⟨U, has, E3, R1, R2⟩ := ratio_same p q (by omega) (by omega) n0
    obtain ⟨a1, a2⟩ := beqs A
    obtain ⟨d1, d2⟩ := beqs D
    obtain ⟨x1, x2⟩ := beqs X
    obtain ⟨u1, u2⟩ := beqs U
    clear hb1 X0 HG hsz sp sq
    go_wp2_with fail
    refine (N1.out _ (Nat.le_trans hB HB1.out.size) (HT.out.on HB1.out hB)).mono ?_
    rintro e w2 ⟨rfl, hb2⟩
    have HB2 := hide (HB1.out.trans (hb2.mono HB1.out.size))
    clear hb2
    go_wp2_with fail
    refine (N2.out _ (Nat.le_trans hB HB2.out.size) (HT.out.on HB2.out hB)).mono ?_
    rintro e w3 ⟨rfl, hb3⟩
    have HB3 := hide (HB2.out.trans (hb3.mono HB2.out.size))
    clear hb3
    go_wp2_with fail
    refine (M1.out _ (Nat.le_trans hB HB3.out.size) (HT.out.on HB3.out hB)).mono ?_
    rintro e w4 ⟨rfl, hb4⟩
    have HB4 := hide (HB3.out.trans (hb4.mono HB3.out.size))
    clear hb4
    go_wp2_with fail
    refine (M2.out _ (Nat.le_trans hB HB4.out.size) (HT.out.on HB4.out hB)).mono ?_
    rintro e w5 ⟨rfl, hb5⟩
    have HB5 := hide (HB4.out.trans (hb5.mono HB4.out.size))
    clear hb5
    go_wp2_with fail
    refine (R1.out _ (Nat.le_trans hB HB5.out.size) (HT.out.on HB5.out hB)).mono ?_
    rintro e w6 ⟨rfl, hb6⟩
    have HB6 := hide (HB5.out.trans (hb6.mono HB5.out.size))
    clear hb6
    go_wp2_with fail
    refine (R2.out _ (Nat.le_trans hB HB6.out.size) (HT.out.on HB6.out hB)).mono ?_
    rintro e w7 ⟨rfl, hb7⟩
    have HB7 := hide (HB6.out.trans (hb7.mono HB6.out.size))
    clear hb7
    go_wp2_with fail
    refine (HAW.out _ (Nat.le_trans hB HB7.out.size) (HT.out.on HB7.out hB)).mono ?_
    rintro e w99 ⟨rfl, hb99⟩
    have HB99 := hide (HB7.out.trans (hb99.mono HB7.out.size))
    clear hb99
    go_wp2_with fail
    go_ret
    exact ⟨rfl, HB99.out⟩
end Go.Proofs.YtgddookioipjiaaGreatDoor
