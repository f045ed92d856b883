/-
  Texts laid together.
-/
import Derived.Test.YtpmnhipffkhcpaaGreatDoorP20
import Derived.Test.YtpmnhipffkhcpaaGreatDoorP19
import Derived.Laws.StructEq
set_option maxRecDepth 100000
set_option maxHeartbeats 16000000
namespace Go.Proofs.YtpmnhipffkhcpaaGreatDoor
open Go.RowKit Go.KP Go.KI Go.Shelf
attribute [local go_sem] Oper.semAt_some

theorem rooms {l : List Rat} (h : ∀ x ∈ l, roomy x) : (∀ s ∈ l.map T, s.size ≤ 9223372036854775807) ∧ firstE (l.map T) = 0 := by
  refine ⟨fun s hs => ?_, firstE_zero (fun s hs => ?_)⟩
  · obtain ⟨x, hx, rfl⟩ := List.mem_map.1 hs
    exact size_T (h x hx)
  · obtain ⟨x, hx, rfl⟩ := List.mem_map.1 hs
    exact roomy_chk90 (h x hx)
theorem strs4 {w : World} {b : Nat} {p q r s : ByteArray} (h : w.heap[b]? = some (.cells #[.string p, .string q, .string r, .string s] 22 (0, 0))) : StrsAt w b [p, q, r, s] := by
  refine ⟨lt_blk h, fun i x hx => ?_⟩
  match i with
  | 0 => simp at hx; rw [← hx]; exact cell_blk h 0
  | 1 => simp at hx; rw [← hx]; exact cell_blk h 1
  | 2 => simp at hx; rw [← hx]; exact cell_blk h 2
  | 3 => simp at hx; rw [← hx]; exact cell_blk h 3
  | i + 4 => simp at hx
theorem s3Compare_T {a p b q : Rat} (ra : roomy a) (rp : roomy p) (rb : roomy b) (rq : roomy q) (hp : 0 ≤ p.num) (hq : 0 ≤ q.num) (B : Nat) (w : World) (hB : B ≤ w.heap.size) (hT : PQ B w) :
    Calls Tryz.prog 66 #[.string (T a), .string (T p), .string (T b), .string (T q)] w (Ret w (.tuple #[.int .i64 (rcmp a p b q), .int .i64 0])) := by
  have HT := hide hT
  have X0 := hide (heap1 w (.cells #[.string (T a), .string (T p), .string (T b), .string (T q)] 22))
  obtain ⟨c1, c2⟩ := rooms (l := [a, p, b, q]) (fun x hx => by simp at hx; rcases hx with rfl | rfl | rfl | rfl; exact ra; exact rp; exact rb; exact rq)
  have HC := hide (s3check_any w.heap.size [T a, T p, T b, T q] (by simp) c1 B _ (strs4 X0.out.1) (Nat.le_trans hB X0.out.2.2.size) (hT.on X0.out.2.2 hB))
  rw [show firstE [T a, T p, T b, T q] = 0 from c2] at HC
  have S1 := hide (fun w => s3sign_T a w)
  have S2 := hide (fun w => s3sign_T p w)
  have S3 := hide (fun w => s3sign_T b w)
  have S4 := hide (fun w => s3sign_T q w)
  have z2 : (sgnR p < 0) = False := eq_false (by have := sgn_ge (Rat.num_nonneg.1 hp); omega)
  have z4 : (sgnR q < 0) = False := eq_false (by have := sgn_ge (Rat.num_nonneg.1 hq); omega)
  have sa := roomy_sz ra
  have sp := roomy_sz rp
  have sb := roomy_sz rb
  have sq := roomy_sz rq
  have saa := sz_mul sa sa
  have sbb := sz_mul sb sb
  have sA := sz_mul saa sp
  have sC := sz_mul sbb sq
  have P1 := hide (fun w hB hT => s3product_T ra.1 ra.1 (mulC_of sa sa (by rw [most_eq]; omega)) B w hB hT)
  have P2 := hide (fun w hB hT => s3product_T (sz_fits saa (by rw [most_eq]; omega)) rp.1 (mulC_of saa sp (by rw [most_eq]; omega)) B w hB hT)
  have P3 := hide (fun w hB hT => s3product_T rb.1 rb.1 (mulC_of sb sb (by rw [most_eq]; omega)) B w hB hT)
  have P4 := hide (fun w hB hT => s3product_T (sz_fits sbb (by rw [most_eq]; omega)) rq.1 (mulC_of sbb sq (by rw [most_eq]; omega)) B w hB hT)
  have fA := sz_fits sA (by rw [most_eq]; omega)
  have fC := sz_fits sC (by rw [most_eq]; omega)
  have R1 := hide (fun w hB hT => r2Parts_T fA B w hB hT)
  have R2 := hide (fun w hB hT => r2Parts_T fC B w hB hT)
  have hsq : ∀ x : Rat, 0 ≤ x * x := fun x => by
    rcases cmpT_cases x 0 with ⟨h, _⟩ | ⟨h, _⟩ | ⟨h, _⟩
    · have := Rat.mul_pos (show 0 < -x by grind) (show 0 < -x by grind)
      grind
    · rw [h, Rat.mul_zero]; exact Rat.le_refl
    · exact Rat.le_of_lt (Rat.mul_pos h h)
  have nA : 0 ≤ (a * a * p).num := Rat.num_nonneg.2 (Rat.mul_nonneg (hsq a) (Rat.num_nonneg.1 hp))
  have nC' : 0 ≤ (b * b * q).num := Rat.num_nonneg.2 (Rat.mul_nonneg (hsq b) (Rat.num_nonneg.1 hq))
  obtain ⟨E, hE⟩ : ∃ E, E = 90 + 90 + 90 := ⟨_, rfl⟩
  rw [← hE] at sA sC
  have hE3 : E < 300 := by omega
  clear hE
  obtain ⟨NB, fN, l3, l4, m3, m4⟩ := bound4 hE3 sA.1 (nat_abs_lt sA.2) sC.1 (nat_abs_lt sC.2)
  have HK := hide (fun w hB hT => s3fractions_I (N := NB) nA (show 0 < ((a * a * p).den : Int) by have := (a * a * p).den_pos; omega) nC' (show 0 < ((b * b * q).den : Int) by have := (b * b * q).den_pos; omega) l3 l4 m3 m4 fN B w hB hT)
  rw [show cmpP (a * a * p).num ((a * a * p).den : Int) (b * b * q).num ((b * b * q).den : Int) = cmpR (a * a * p) (b * b * q) from cmpQ _ _] at HK
  have hxb := sgnR_bound (a * p)
  have hyb := sgnR_bound (b * q)
  rw [sgnR_mul] at hxb hyb
  have hkb : -1 ≤ cmpR (a * a * p) (b * b * q) ∧ cmpR (a * a * p) (b * b * q) ≤ 1 := by
    rcases cmpT_cases (a * a * p) (b * b * q) with ⟨_, h⟩ | ⟨_, h⟩ | ⟨_, h⟩ <;> rw [h] <;> decide
  show Calls _ _ _ _ (Ret w (.tuple #[.int .i64 (rcmpS (sgnR a * sgnR p) (sgnR b * sgnR q) (cmpR (a * a * p) (b * b * q))), .int .i64 0]))
  generalize cmpR (a * a * p) (b * b * q) = k at HK hkb ⊢
  obtain ⟨x, hx⟩ : ∃ x, x = sgnR a * sgnR p := ⟨_, rfl⟩
  obtain ⟨y, hy⟩ : ∃ x, x = sgnR b * sgnR q := ⟨_, rfl⟩
  rw [← hx] at hxb ⊢
  rw [← hy] at hyb ⊢
  have v1 : IntKind.i64.wrap (sgnR a * sgnR p) = x := by rw [← hx]; exact IntWalk.i64_in _ (by omega)
  have v2 : IntKind.i64.wrap (sgnR b * sgnR q) = y := by rw [← hy]; exact IntWalk.i64_in _ (by omega)
  have v3 : sgnR a * sgnR p = x := hx.symm
  have v4 : sgnR b * sgnR q = y := hy.symm
  generalize sgnR a = ga at *
  generalize sgnR p = gp at *
  generalize sgnR b = gb at *
  generalize sgnR q = gq at *
  have v5 : x = -1 ∨ x = 0 ∨ x = 1 := by omega
  have v6 : y = -1 ∨ y = 0 ∨ y = 1 := by omega
  generalize iB (a * a * p).num = AN at *
  generalize iB ((a * a * p).den : Int) = AD at *
  generalize iB (b * b * q).num = CN at *
  generalize iB ((b * b * q).den : Int) = CD at *
  generalize T (a * a * p) = TA at *
  generalize T (b * b * q) = TC at *
  generalize T (a * a) = AA at *
  generalize T (b * b) = BB at *
  generalize T a = XA at *
  generalize T p = XP at *
  generalize T b = XB at *
  generalize T q = XQ at *
  clear ra rp rb rq hp hq hT c1 c2 sa sp sb sq saa sbb sA sC hE3 fA fC hsq nA nC' fN l3 l4 m3 m4 hxb hyb hx hy
  go_enter Tryz.func66, Tryz.ntmps66
  go_wp2_with fail
  refine HC.out.mono ?_
  rintro e w1 ⟨rfl, hb1⟩
  have HB1 := hide (X0.out.2.2.trans (hb1.mono X0.out.2.2.size))
  clear hb1
  go_wp2_with fail
  refine (S2.out _).mono ?_
  rintro e w2 ⟨rfl, rfl⟩
  go_wp2_with fail
  refine (S4.out _).mono ?_
  rintro e w2 ⟨rfl, rfl⟩
  go_wp2_with fail
  refine (S1.out _).mono ?_
  rintro e w2 ⟨rfl, rfl⟩
  go_wp2_with fail
  refine (S2.out _).mono ?_
  rintro e w2 ⟨rfl, rfl⟩
  go_wp2_with fail
  refine (S3.out _).mono ?_
  rintro e w2 ⟨rfl, rfl⟩
  go_wp2_with fail
  refine (S4.out _).mono ?_
  rintro e w2 ⟨rfl, rfl⟩
  have HV5 := hide v5
  have HV6 := hide v6
  clear v5 v6
  rcases HV5.out with rfl | rfl | rfl <;> rcases HV6.out with rfl | rfl | rfl
  all_goals
    go_wp2_with fail
    first
      | (refine bodyPost_ret (results_tmp2 rfl _ _ _) rfl ?_
         exact ⟨rfl, HB1.out⟩)
      | skip
  all_goals
    refine (P1.out _ (Nat.le_trans hB HB1.out.size) (HT.out.on HB1.out hB)).mono ?_
    rintro e w2 ⟨rfl, hb2⟩
    have HB2 := hide (HB1.out.trans (hb2.mono HB1.out.size))
    clear hb2
    go_wp2_with fail
    refine (P2.out _ (Nat.le_trans hB HB2.out.size) (HT.out.on HB2.out hB)).mono ?_
    rintro e w3 ⟨rfl, hb3⟩
    have HB3 := hide (HB2.out.trans (hb3.mono HB2.out.size))
    clear hb3
    go_wp2_with fail
    refine (R1.out _ (Nat.le_trans hB HB3.out.size) (HT.out.on HB3.out hB)).mono ?_
    rintro e w4 ⟨rfl, hb4⟩
    have HB4 := hide (HB3.out.trans (hb4.mono HB3.out.size))
    clear hb4
    go_wp2_with fail
    refine (P3.out _ (Nat.le_trans hB HB4.out.size) (HT.out.on HB4.out hB)).mono ?_
    rintro e w5 ⟨rfl, hb5⟩
    have HB5 := hide (HB4.out.trans (hb5.mono HB4.out.size))
    clear hb5
    go_wp2_with fail
    refine (P4.out _ (Nat.le_trans hB HB5.out.size) (HT.out.on HB5.out hB)).mono ?_
    rintro e w6 ⟨rfl, hb6⟩
    have HB6 := hide (HB5.out.trans (hb6.mono HB5.out.size))
    clear hb6
    go_wp2_with fail
    refine (R2.out _ (Nat.le_trans hB HB6.out.size) (HT.out.on HB6.out hB)).mono ?_
    rintro e w7 ⟨rfl, hb7⟩
    have HB7 := hide (HB6.out.trans (hb7.mono HB6.out.size))
    clear hb7
    go_wp2_with fail
    refine (HK.out _ (Nat.le_trans hB HB7.out.size) (HT.out.p10.on HB7.out hB)).mono ?_
    rintro e w8 ⟨rfl, hb8⟩
    have HB8 := hide (HB7.out.trans (hb8.mono HB7.out.size))
    clear hb8
    go_wp2_with fail
    refine bodyPost_ret (results_tmp2 rfl _ _ _) rfl ?_
    exact ⟨by first | (rw [show rcmpS (-1) (-1) k = -k by unfold rcmpS; simp]; rfl) | (rw [show rcmpS 1 1 k = k by unfold rcmpS; simp]; rfl) | (rw [show rcmpS 0 0 k = 0 by unfold rcmpS; simp]; rfl), HB8.out⟩
open Go.RowKit Go.KP Go.KI Go.Shelf
attribute [local go_sem] Oper.semAt_some

theorem firstE_all : ∀ {l : List ByteArray}, firstE l = 0 → ∀ s ∈ l, chk90 s.data.toList = 0 := by
  intro l
  induction l with
  | nil => intro _ s hs; simp at hs
  | cons x r ih =>
    intro h
    by_cases hx : chk90 x.data.toList = 0
    · have h2 : firstE r = 0 := by
        have e : firstE (x :: r) = firstE r := if_neg (by simp [hx])
        rw [e] at h
        exact h
      intro s hs
      rcases List.mem_cons.1 hs with rfl | hs
      · exact hx
      · exact ih h2 s hs
    · have e : firstE (x :: r) = chk90 x.data.toList := if_pos hx
      rw [e] at h
      exact absurd h hx
theorem check_split (l1 l2 : List ByteArray) : (firstE l1 ≠ 0 ∧ checkE l1 l2 = firstE l1) ∨ (firstE l1 = 0 ∧ (∀ s ∈ l1, ∃ x, roomy x ∧ s = T x) ∧ checkE l1 l2 = if l2.any negS then 2 else 0) := by
  by_cases h : firstE l1 = 0
  · refine .inr ⟨h, fun s hs => chk90_roomy (firstE_all h s hs), ?_⟩
    unfold checkE
    rw [h, if_neg (by simp)]
  · exact .inl ⟨h, if_pos h⟩
theorem runitErr_bad {q u : ByteArray} (hq : q.size ≤ 1000000) (hu : u.size ≤ 1000000) (h : checkE [q, u] [q] ≠ 0) (B : Nat) (w : World) (hB : B ≤ w.heap.size) (hT : PQ B w) :
    Calls Tryz.prog 173 #[.string q, .string u] w (Ret w (.int .i64 (checkE [q, u] [q]))) := by
  have X0 := hide (heap2 w (.cells #[.string q, .string u] 22) (.cells #[.string q] 22))
  have HC := hide (rCheck_any w.heap.size (w.heap.size + 1) [q, u] [q] (by simp) (by simp) (fun x hx => by simp at hx; rcases hx with rfl | rfl; exact hq; exact hu) B _ (strs2 X0.out.1) (strs1 X0.out.2.1) (Nat.le_trans hB X0.out.2.2.2.size) (hT.on X0.out.2.2.2 hB))
  have hE : (checkE [q, u] [q] == 0) = false := by simpa using h
  generalize checkE [q, u] [q] = E at *
  clear h hq hu hT
  go_enter Tryz.func173, Tryz.ntmps173
  go_wp2_with fail
  refine HC.out.mono ?_
  rintro e w1 ⟨rfl, hb1⟩
  have HB1 := hide (X0.out.2.2.2.trans (hb1.mono X0.out.2.2.2.size))
  clear hb1
  go_wp2_with fail
  go_ret
  exact ⟨rfl, HB1.out⟩
theorem sgn_nonpos {u : Rat} (h : u.num ≤ 0) : sgnR u ≤ 0 := by
  rcases cmpT_cases u 0 with ⟨_, h2⟩ | ⟨_, h2⟩ | ⟨h2, _⟩
  · rw [show sgnR u = -1 from h2]; decide
  · rw [show sgnR u = 0 from h2]; decide
  · have := num_gt h2
    omega
theorem runitErr_unit {q u : Rat} (rq : roomy q) (ru : roomy u) (hq : 0 ≤ q.num) (hu : u.num ≤ 0) (B : Nat) (w : World) (hB : B ≤ w.heap.size) (hT : PQ B w) :
    Calls Tryz.prog 173 #[.string (T q), .string (T u)] w (Ret w (.int .i64 12)) := by
  have X0 := hide (heap2 w (.cells #[.string (T q), .string (T u)] 22) (.cells #[.string (T q)] 22))
  have HC := hide (rCheck_ok w.heap.size (w.heap.size + 1) [q, u] [q] (by simp) (by simp) (fun x hx => by simp at hx; rcases hx with rfl | rfl; exact rq; exact ru) (fun x hx => by simp at hx; subst hx; omega) B _ (nums2 X0.out.1) (nums1 X0.out.2.1) (Nat.le_trans hB X0.out.2.2.2.size) (hT.on X0.out.2.2.2 hB))
  have HS := hide (fun w => rSign_T u w)
  have hz : sgnR u ≤ 0 := sgn_nonpos hu
  generalize sgnR u = z at *
  generalize T q = X at *
  generalize T u = Y at *
  clear rq ru hq hu hT
  go_enter Tryz.func173, Tryz.ntmps173
  go_wp2_with fail
  refine HC.out.mono ?_
  rintro e w1 ⟨rfl, hb1⟩
  have HB1 := hide (X0.out.2.2.2.trans (hb1.mono X0.out.2.2.2.size))
  clear hb1
  go_wp2_with fail
  refine (HS.out _).mono ?_
  rintro e w2 ⟨rfl, rfl⟩
  go_wp2_with fail
  go_ret
  exact ⟨rfl, HB1.out⟩
theorem rFloor_bad {q u : ByteArray} {E : Int} (hE : E ≠ 0) {B : Nat} (H : ∀ w, B ≤ w.heap.size → PQ B w → Calls Tryz.prog 173 #[.string q, .string u] w (Ret w (.int .i64 E))) (w : World) (hB : B ≤ w.heap.size) (hT : PQ B w) :
    Calls Tryz.prog 67 #[.string q, .string u] w (Ret w (.tuple #[.string ⟨#[]⟩, .int .i64 E])) := by
  have HT := hide hT
  have H1 := hide H
  have h1 : (E == 0) = false := by simpa using hE
  clear H hE hT
  go_enter Tryz.func67, Tryz.ntmps67
  go_wp2_with fail
  refine (H1.out _ hB HT.out).mono ?_
  rintro e w1 ⟨rfl, hb1⟩
  have HB1 := hide hb1
  clear hb1
  go_wp2_with fail
  refine bodyPost_ret (results_tmp2 rfl _ _ _) rfl ?_
  exact ⟨rfl, HB1.out⟩
theorem s3Floor_first {q u : ByteArray} (hq : q.size ≤ 1000000) (hu : u.size ≤ 1000000) (h : firstE [q, u] ≠ 0) (B : Nat) (w : World) (hB : B ≤ w.heap.size) (hT : PQ B w) :
    Calls Tryz.prog 68 #[.string q, .string u] w (Ret w (.tuple #[.string ⟨#[]⟩, .int .i64 (firstE [q, u])])) := by
  have X0 := hide (heap1 w (.cells #[.string q, .string u] 22))
  have HC := hide (s3check_any w.heap.size [q, u] (by simp) (fun x hx => by simp at hx; rcases hx with rfl | rfl <;> omega) B _ (strs2 X0.out.1) (Nat.le_trans hB X0.out.2.2.size) (hT.on X0.out.2.2 hB))
  have hE : (firstE [q, u] == 0) = false := by simpa using h
  generalize firstE [q, u] = E at *
  clear h hq hu hT
  go_enter Tryz.func68, Tryz.ntmps68
  go_wp2_with fail
  refine HC.out.mono ?_
  rintro e w1 ⟨rfl, hb1⟩
  have HB1 := hide (X0.out.2.2.trans (hb1.mono X0.out.2.2.size))
  clear hb1
  go_wp2_with fail
  refine bodyPost_ret (results_tmp2 rfl _ _ _) rfl ?_
  exact ⟨rfl, HB1.out⟩
theorem s3Floor_neg {q u : Rat} (rq : roomy q) (ru : roomy u) (hq : q.num < 0) (B : Nat) (w : World) (hB : B ≤ w.heap.size) (hT : PQ B w) :
    Calls Tryz.prog 68 #[.string (T q), .string (T u)] w (Ret w (.tuple #[.string ⟨#[]⟩, .int .i64 2])) := by
  have X0 := hide (heap1 w (.cells #[.string (T q), .string (T u)] 22))
  obtain ⟨c1, c2⟩ := check2_T rq ru
  have HC := hide (s3check_any w.heap.size [T q, T u] (by simp) c1 B _ (strs2 X0.out.1) (Nat.le_trans hB X0.out.2.2.size) (hT.on X0.out.2.2 hB))
  rw [c2] at HC
  have S1 := hide (fun w => s3sign_T q w)
  rw [sgn_of_neg hq] at S1
  generalize T q = X at *
  generalize T u = Y at *
  clear rq ru hq hT c1 c2
  go_enter Tryz.func68, Tryz.ntmps68
  go_wp2_with fail
  refine HC.out.mono ?_
  rintro e w1 ⟨rfl, hb1⟩
  have HB1 := hide (X0.out.2.2.trans (hb1.mono X0.out.2.2.size))
  clear hb1
  go_wp2_with fail
  refine (S1.out _).mono ?_
  rintro e w2 ⟨rfl, rfl⟩
  go_wp2_with fail
  refine bodyPost_ret (results_tmp2 rfl _ _ _) rfl ?_
  exact ⟨rfl, HB1.out⟩
theorem s3Floor_unit {q u : Rat} (rq : roomy q) (ru : roomy u) (hq : 0 ≤ q.num) (hu : u.num ≤ 0) (B : Nat) (w : World) (hB : B ≤ w.heap.size) (hT : PQ B w) :
    Calls Tryz.prog 68 #[.string (T q), .string (T u)] w (Ret w (.tuple #[.string ⟨#[]⟩, .int .i64 12])) := by
  have X0 := hide (heap1 w (.cells #[.string (T q), .string (T u)] 22))
  obtain ⟨c1, c2⟩ := check2_T rq ru
  have HC := hide (s3check_any w.heap.size [T q, T u] (by simp) c1 B _ (strs2 X0.out.1) (Nat.le_trans hB X0.out.2.2.size) (hT.on X0.out.2.2 hB))
  rw [c2] at HC
  have S1 := hide (fun w => s3sign_T q w)
  have S2 := hide (fun w => s3sign_T u w)
  have z1 : (sgnR q < 0) = False := eq_false (by have := sgn_ge (Rat.num_nonneg.1 hq); omega)
  have z2 : sgnR u ≤ 0 := sgn_nonpos hu
  generalize sgnR q = zq at *
  generalize sgnR u = zu at *
  generalize T q = X at *
  generalize T u = Y at *
  clear rq ru hq hu hT c1 c2
  go_enter Tryz.func68, Tryz.ntmps68
  go_wp2_with fail
  refine HC.out.mono ?_
  rintro e w1 ⟨rfl, hb1⟩
  have HB1 := hide (X0.out.2.2.trans (hb1.mono X0.out.2.2.size))
  clear hb1
  go_wp2_with fail
  refine (S1.out _).mono ?_
  rintro e w2 ⟨rfl, rfl⟩
  go_wp2_with fail
  refine (S2.out _).mono ?_
  rintro e w2 ⟨rfl, rfl⟩
  go_wp2_with fail
  refine bodyPost_ret (results_tmp2 rfl _ _ _) rfl ?_
  exact ⟨rfl, HB1.out⟩
theorem rNearest_bad {q u : ByteArray} {E : Int} (hE : E ≠ 0) {B : Nat} (H : ∀ w, B ≤ w.heap.size → PQ B w → Calls Tryz.prog 173 #[.string q, .string u] w (Ret w (.int .i64 E))) (w : World) (hB : B ≤ w.heap.size) (hT : PQ B w) :
    Calls Tryz.prog 71 #[.string q, .string u] w (Ret w (.tuple #[.string ⟨#[]⟩, .int .i64 E])) := by
  have HT := hide hT
  have H1 := hide H
  have h1 : (E == 0) = false := by simpa using hE
  clear H hE hT
  go_enter Tryz.func71, Tryz.ntmps71
  go_wp2_with fail
  refine (H1.out _ hB HT.out).mono ?_
  rintro e w1 ⟨rfl, hb1⟩
  have HB1 := hide hb1
  clear hb1
  go_wp2_with fail
  refine bodyPost_ret (results_tmp2 rfl _ _ _) rfl ?_
  exact ⟨rfl, HB1.out⟩
theorem s3Nearest_first {q u : ByteArray} (hq : q.size ≤ 1000000) (hu : u.size ≤ 1000000) (h : firstE [q, u] ≠ 0) (B : Nat) (w : World) (hB : B ≤ w.heap.size) (hT : PQ B w) :
    Calls Tryz.prog 72 #[.string q, .string u] w (Ret w (.tuple #[.string ⟨#[]⟩, .int .i64 (firstE [q, u])])) := by
  have X0 := hide (heap1 w (.cells #[.string q, .string u] 22))
  have HC := hide (s3check_any w.heap.size [q, u] (by simp) (fun x hx => by simp at hx; rcases hx with rfl | rfl <;> omega) B _ (strs2 X0.out.1) (Nat.le_trans hB X0.out.2.2.size) (hT.on X0.out.2.2 hB))
  have hE : (firstE [q, u] == 0) = false := by simpa using h
  generalize firstE [q, u] = E at *
  clear h hq hu hT
  go_enter Tryz.func72, Tryz.ntmps72
  go_wp2_with fail
  refine HC.out.mono ?_
  rintro e w1 ⟨rfl, hb1⟩
  have HB1 := hide (X0.out.2.2.trans (hb1.mono X0.out.2.2.size))
  clear hb1
  go_wp2_with fail
  refine bodyPost_ret (results_tmp2 rfl _ _ _) rfl ?_
  exact ⟨rfl, HB1.out⟩
theorem s3Nearest_neg {q u : Rat} (rq : roomy q) (ru : roomy u) (hq : q.num < 0) (B : Nat) (w : World) (hB : B ≤ w.heap.size) (hT : PQ B w) :
    Calls Tryz.prog 72 #[.string (T q), .string (T u)] w (Ret w (.tuple #[.string ⟨#[]⟩, .int .i64 2])) := by
  have X0 := hide (heap1 w (.cells #[.string (T q), .string (T u)] 22))
  obtain ⟨c1, c2⟩ := check2_T rq ru
  have HC := hide (s3check_any w.heap.size [T q, T u] (by simp) c1 B _ (strs2 X0.out.1) (Nat.le_trans hB X0.out.2.2.size) (hT.on X0.out.2.2 hB))
  rw [c2] at HC
  have S1 := hide (fun w => s3sign_T q w)
  rw [sgn_of_neg hq] at S1
  generalize T q = X at *
  generalize T u = Y at *
  clear rq ru hq hT c1 c2
  go_enter Tryz.func72, Tryz.ntmps72
  go_wp2_with fail
  refine HC.out.mono ?_
  rintro e w1 ⟨rfl, hb1⟩
  have HB1 := hide (X0.out.2.2.trans (hb1.mono X0.out.2.2.size))
  clear hb1
  go_wp2_with fail
  refine (S1.out _).mono ?_
  rintro e w2 ⟨rfl, rfl⟩
  go_wp2_with fail
  refine bodyPost_ret (results_tmp2 rfl _ _ _) rfl ?_
  exact ⟨rfl, HB1.out⟩
theorem s3Nearest_unit {q u : Rat} (rq : roomy q) (ru : roomy u) (hq : 0 ≤ q.num) (hu : u.num ≤ 0) (B : Nat) (w : World) (hB : B ≤ w.heap.size) (hT : PQ B w) :
    Calls Tryz.prog 72 #[.string (T q), .string (T u)] w (Ret w (.tuple #[.string ⟨#[]⟩, .int .i64 12])) := by
  have X0 := hide (heap1 w (.cells #[.string (T q), .string (T u)] 22))
  obtain ⟨c1, c2⟩ := check2_T rq ru
  have HC := hide (s3check_any w.heap.size [T q, T u] (by simp) c1 B _ (strs2 X0.out.1) (Nat.le_trans hB X0.out.2.2.size) (hT.on X0.out.2.2 hB))
  rw [c2] at HC
  have S1 := hide (fun w => s3sign_T q w)
  have S2 := hide (fun w => s3sign_T u w)
  have z1 : (sgnR q < 0) = False := eq_false (by have := sgn_ge (Rat.num_nonneg.1 hq); omega)
  have z2 : sgnR u ≤ 0 := sgn_nonpos hu
  generalize sgnR q = zq at *
  generalize sgnR u = zu at *
  generalize T q = X at *
  generalize T u = Y at *
  clear rq ru hq hu hT c1 c2
  go_enter Tryz.func72, Tryz.ntmps72
  go_wp2_with fail
  refine HC.out.mono ?_
  rintro e w1 ⟨rfl, hb1⟩
  have HB1 := hide (X0.out.2.2.trans (hb1.mono X0.out.2.2.size))
  clear hb1
  go_wp2_with fail
  refine (S1.out _).mono ?_
  rintro e w2 ⟨rfl, rfl⟩
  go_wp2_with fail
  refine (S2.out _).mono ?_
  rintro e w2 ⟨rfl, rfl⟩
  go_wp2_with fail
  refine bodyPost_ret (results_tmp2 rfl _ _ _) rfl ?_
  exact ⟨rfl, HB1.out⟩
theorem ex4 : T 4 = ⟨#[52]⟩ := txn (n := 4) rfl (a := [52]) (by decide +kernel)
theorem floor_half (n : Nat) : (((n : Nat) : Rat) / 2).floor = ((n / 2 : Nat) : Int) := by
  have two : ((2 : Nat) : Rat) = 2 := rfl
  have one : ((1 : Nat) : Rat) = 1 := rfl
  have h1 : 2 * (n / 2) ≤ n := by omega
  have h2 : n < 2 * (n / 2) + 2 := by omega
  have g1 := Rat.natCast_le_natCast.2 h1
  have g2 := Rat.natCast_lt_natCast.2 h2
  simp only [Rat.natCast_mul, Rat.natCast_add, two] at g1 g2
  have hf : (((n / 2 : Nat) : Int) : Rat) = ((n / 2 : Nat) : Rat) := rfl
  refine Int.le_antisymm ?_ ?_
  · refine Int.le_of_lt_add_one (Rat.floor_lt_iff.2 ?_)
    rw [Rat.intCast_add, hf, show ((1 : Int) : Rat) = 1 from rfl]
    generalize ((n / 2 : Nat) : Rat) = h at *
    generalize ((n : Nat) : Rat) = m at *
    grind
  · refine Rat.le_floor_iff.2 ?_
    rw [hf]
    generalize ((n / 2 : Nat) : Rat) = h at *
    generalize ((n : Nat) : Rat) = m at *
    grind
theorem s3Floor_T {q u : Rat} (rq : roomy q) (ru : roomy u) (hq : 0 ≤ q.num) (hu : 0 < u.num) (B : Nat) (w : World) (hB : B ≤ w.heap.size) (hT : PQ B w) :
    Calls Tryz.prog 68 #[.string (T q), .string (T u)] w (Ret w (.tuple #[.string (T (floorR q u)), .int .i64 0])) := by
  have HT := hide hT
  have X0 := hide (heap1 w (.cells #[.string (T q), .string (T u)] 22))
  obtain ⟨c1, c2⟩ := check2_T rq ru
  have HC := hide (s3check_any w.heap.size [T q, T u] (by simp) c1 B _ (strs2 X0.out.1) (Nat.le_trans hB X0.out.2.2.size) (hT.on X0.out.2.2 hB))
  rw [c2] at HC
  have S1 := hide (fun w => s3sign_T q w)
  have S2 := hide (fun w => s3sign_T u w)
  have z1 : (sgnR q < 0) = False := eq_false (by have := sgn_ge (Rat.num_nonneg.1 hq); omega)
  rw [sgnR_pos hu] at S2
  have sq := roomy_sz rq
  have su := roomy_sz ru
  have HF := hide (fun w hB hT => s3floor_T sq su hq hu (by omega) (by omega) (by omega) B w hB hT)
  generalize T (floorR q u) = R at *
  generalize sgnR q = zq at *
  generalize T q = X at *
  generalize T u = Y at *
  clear rq ru hq hu hT c1 c2 sq su
  go_enter Tryz.func68, Tryz.ntmps68
  go_wp2_with fail
  refine HC.out.mono ?_
  rintro e w1 ⟨rfl, hb1⟩
  have HB1 := hide (X0.out.2.2.trans (hb1.mono X0.out.2.2.size))
  clear hb1
  go_wp2_with fail
  refine (S1.out _).mono ?_
  rintro e w2 ⟨rfl, rfl⟩
  go_wp2_with fail
  refine (S2.out _).mono ?_
  rintro e w2 ⟨rfl, rfl⟩
  go_wp2_with fail
  refine (HF.out _ (Nat.le_trans hB HB1.out.size) (HT.out.on HB1.out hB)).mono ?_
  rintro e w2 ⟨rfl, hb2⟩
  have HB2 := hide (HB1.out.trans (hb2.mono HB1.out.size))
  clear hb2
  go_wp2_with fail
  refine bodyPost_ret (results_tmp2 rfl _ _ _) rfl ?_
  exact ⟨rfl, HB2.out⟩
theorem s3Nearest_T {q u : Rat} (rq : roomy q) (ru : roomy u) (hq : 0 ≤ q.num) (hu : 0 < u.num) (B : Nat) (w : World) (hB : B ≤ w.heap.size) (hT : PQ B w) :
    Calls Tryz.prog 72 #[.string (T q), .string (T u)] w (Ret w (.tuple #[.string (T (nearR q u)), .int .i64 0])) := by
  have HT := hide hT
  have X0 := hide (heap1 w (.cells #[.string (T q), .string (T u)] 22))
  obtain ⟨c1, c2⟩ := check2_T rq ru
  have HC := hide (s3check_any w.heap.size [T q, T u] (by simp) c1 B _ (strs2 X0.out.1) (Nat.le_trans hB X0.out.2.2.size) (hT.on X0.out.2.2 hB))
  rw [c2] at HC
  have S1 := hide (fun w => s3sign_T q w)
  have S2 := hide (fun w => s3sign_T u w)
  have z1 : (sgnR q < 0) = False := eq_false (by have := sgn_ge (Rat.num_nonneg.1 hq); omega)
  rw [sgnR_pos hu] at S2
  have sq := roomy_sz rq
  have su := roomy_sz ru
  have up := pos_num hu
  have uu := Rat.mul_pos up up
  have suu := sz_mul su su
  have H1 := hide (fun w hB hT => s3product_T ru.1 ru.1 (mulC_of su su (by rw [most_eq]; omega)) B w hB hT)
  have hun : 0 < (u * u).num := num_gt uu
  have H2 := hide (fun w hB hT => s3quotient_T rq.1 (sz_fits suu (by rw [most_eq]; omega)) hun (cmpC_of sq suu (by rw [most_eq]; omega)) B w hB hT)
  have sQ := sz_div (by omega) sq suu
  have s4 : sz 1 (4 : Rat) := ⟨by decide, by decide⟩
  have hQ : 0 ≤ q / (u * u) := by
    rw [Rat.div_def]
    exact Rat.mul_nonneg (Rat.num_nonneg.1 hq) (Rat.le_of_lt (Rat.inv_pos.2 uu))
  have s4Q := sz_mul s4 sQ
  have H3 := hide (fun w hB hT => s3product_T (sz_fits s4 (by rw [most_eq]; omega)) (sz_fits sQ (by rw [most_eq]; omega)) (mulC_of s4 sQ (by rw [most_eq]; omega)) B w hB hT)
  rw [ex4] at H3
  have H4 := hide (fun w hB hT => s3whole_T (sz_fits s4Q (by rw [most_eq]; omega)) (Rat.num_nonneg.2 (Rat.mul_nonneg (by decide) hQ)) B w hB hT)
  rw [show wholeN (4 * (q / (u * u))) = unitsN q u 4 from whole_units 4 hq hu] at H4
  have hn := units_fits (f := 4) rq ru (by omega)
  have h7 : (10 : Nat) ^ 137 = 10 ^ 136 * 10 := Nat.pow_succ ..
  obtain ⟨k, hk⟩ : ∃ k, k = unitsN q u 4 := ⟨_, rfl⟩
  have sK : sz 136 (((k : Nat) : Rat)) := sz_natc (by rw [hk]; exact hn) (by omega)
  have sK1 : sz 137 (((k + 1 : Nat) : Rat)) := sz_natc (by rw [hk]; omega) (by omega)
  have sK2 : sz 137 ((((k + 1) / 2 : Nat) : Rat)) := sz_natc (by rw [hk]; omega) (by omega)
  have s1 := sz_one
  have s2 : sz 1 (2 : Rat) := ⟨by decide, by decide⟩
  have one : ((1 : Nat) : Rat) = 1 := rfl
  have ek : ((k : Nat) : Rat) + 1 = ((k + 1 : Nat) : Rat) := by rw [Rat.natCast_add, one]
  have H5 := hide (fun w hB hT => r2Add_T (x := ((k : Nat) : Rat)) (y := 1) (sz_fits sK (by rw [most_eq]; omega)) (sz_fits s1 (by rw [most_eq]; omega)) B w hB hT)
  rw [addO_sz sK s1 (by rw [most_eq]; omega), ek, T1] at H5
  unfold opV at H5
  dsimp only at H5
  have H6 := hide (fun w hB hT => s3quotient_T (x := ((k + 1 : Nat) : Rat)) (y := 2) (sz_fits sK1 (by rw [most_eq]; omega)) (sz_fits s2 (by rw [most_eq]; omega)) (by decide) (cmpC_of sK1 s2 (by rw [most_eq]; omega)) B w hB hT)
  rw [ex2] at H6
  have sH := sz_div (by omega) sK1 s2
  have ed : ((k + 1 : Nat) : Rat) / 2 = Rat.divInt ((k + 1 : Nat) : Int) ((2 : Nat) : Int) := by rw [Rat.divInt_eq_div]; rfl
  have hfl : (((k + 1 : Nat) : Rat) / 2).floor = (((k + 1) / 2 : Nat) : Int) := floor_half (k + 1)
  have H7 := hide (fun w hB hT => r2Floor_T (x := ((k + 1 : Nat) : Rat) / 2) (sz_fits sH (by rw [most_eq]; omega)) (Rat.num_nonneg.2 (by rw [Rat.div_def]; exact Rat.mul_nonneg Rat.natCast_nonneg (Rat.le_of_lt (Rat.inv_pos.2 (by decide))))) B w hB hT)
  rw [hfl, iB_T] at H7
  have H8 := hide (fun w hB hT => s3product_T (x := u) (y := ((((k + 1) / 2 : Nat) : Int) : Rat)) ru.1 (sz_fits (show sz 137 ((((k + 1) / 2 : Nat) : Int) : Rat) from sK2) (by rw [most_eq]; omega)) (mulC_of su (show sz 137 ((((k + 1) / 2 : Nat) : Int) : Rat) from sK2) (by rw [most_eq]; omega)) B w hB hT)
  rw [show u * ((((k + 1) / 2 : Nat) : Int) : Rat) = nearR q u by unfold nearR; rw [Rat.mul_comm, ← hk]; rfl] at H8
  rw [← hk, show iB ((k : Nat) : Int) = T ((k : Nat) : Rat) from iB_T _] at H4
  generalize T (nearR q u) = R at *
  generalize T ((((k + 1) / 2 : Nat) : Int) : Rat) = V8 at *
  generalize T (((k + 1 : Nat) : Rat) / 2) = V7 at *
  generalize T ((k + 1 : Nat) : Rat) = V6 at *
  generalize T ((k : Nat) : Rat) = V5 at *
  generalize T (4 * (q / (u * u))) = V4 at *
  generalize T (q / (u * u)) = V3 at *
  generalize T (u * u) = V2 at *
  generalize sgnR q = zq at *
  generalize T q = X at *
  generalize T u = Y at *
  clear rq ru hq hu hT c1 c2 sq su up uu suu hun sQ s4 hQ s4Q hn h7 hk sK sK1 sK2 s1 s2 one ek sH ed hfl
  go_enter Tryz.func72, Tryz.ntmps72
  go_wp2_with fail
  refine HC.out.mono ?_
  rintro e w1 ⟨rfl, hb1⟩
  have HB1 := hide (X0.out.2.2.trans (hb1.mono X0.out.2.2.size))
  clear hb1
  go_wp2_with fail
  refine (S1.out _).mono ?_
  rintro e w2 ⟨rfl, rfl⟩
  go_wp2_with fail
  refine (S2.out _).mono ?_
  rintro e w2 ⟨rfl, rfl⟩
  go_wp2_with fail
  refine (H1.out _ (Nat.le_trans hB HB1.out.size) (HT.out.on HB1.out hB)).mono ?_
  rintro e w2 ⟨rfl, hb2⟩
  have HB2 := hide (HB1.out.trans (hb2.mono HB1.out.size))
  clear hb2
  go_wp2_with fail
  refine (H2.out _ (Nat.le_trans hB HB2.out.size) (HT.out.on HB2.out hB)).mono ?_
  rintro e w3 ⟨rfl, hb3⟩
  have HB3 := hide (HB2.out.trans (hb3.mono HB2.out.size))
  clear hb3
  go_wp2_with fail
  refine (H3.out _ (Nat.le_trans hB HB3.out.size) (HT.out.on HB3.out hB)).mono ?_
  rintro e w4 ⟨rfl, hb4⟩
  have HB4 := hide (HB3.out.trans (hb4.mono HB3.out.size))
  clear hb4
  go_wp2_with fail
  refine (H4.out _ (Nat.le_trans hB HB4.out.size) (HT.out.on HB4.out hB)).mono ?_
  rintro e w5 ⟨rfl, hb5⟩
  have HB5 := hide (HB4.out.trans (hb5.mono HB4.out.size))
  clear hb5
  go_wp2_with fail
  refine (H5.out _ (Nat.le_trans hB HB5.out.size) (HT.out.on HB5.out hB)).mono ?_
  rintro e w6 ⟨rfl, hb6⟩
  have HB6 := hide (HB5.out.trans (hb6.mono HB5.out.size))
  clear hb6
  go_wp2_with fail
  refine (H6.out _ (Nat.le_trans hB HB6.out.size) (HT.out.on HB6.out hB)).mono ?_
  rintro e w7 ⟨rfl, hb7⟩
  have HB7 := hide (HB6.out.trans (hb7.mono HB6.out.size))
  clear hb7
  go_wp2_with fail
  refine (H7.out _ (Nat.le_trans hB HB7.out.size) (HT.out.on HB7.out hB)).mono ?_
  rintro e w8 ⟨rfl, hb8⟩
  have HB8 := hide (HB7.out.trans (hb8.mono HB7.out.size))
  clear hb8
  go_wp2_with fail
  refine (H8.out _ (Nat.le_trans hB HB8.out.size) (HT.out.on HB8.out hB)).mono ?_
  rintro e w9 ⟨rfl, hb9⟩
  have HB9 := hide (HB8.out.trans (hb9.mono HB8.out.size))
  clear hb9
  go_wp2_with fail
  refine bodyPost_ret (results_tmp2 rfl _ _ _) rfl ?_
  exact ⟨rfl, HB9.out⟩
theorem unit_same (q u : ByteArray) (hq : q.size ≤ 1000000) (hu : u.size ≤ 1000000) (B : Nat) :
    (∃ (a : ByteArray) (e : Int), Hid (∀ w, B ≤ w.heap.size → PR B w → Calls Tryz.prog 67 #[.string q, .string u] w (Ret w (.tuple #[.string a, .int .i64 e]))) ∧ Hid (∀ w, B ≤ w.heap.size → PR B w → Calls Tryz.prog 68 #[.string q, .string u] w (Ret w (.tuple #[.string a, .int .i64 e])))) ∧
    (∃ (a : ByteArray) (e : Int), Hid (∀ w, B ≤ w.heap.size → PR B w → Calls Tryz.prog 71 #[.string q, .string u] w (Ret w (.tuple #[.string a, .int .i64 e]))) ∧ Hid (∀ w, B ≤ w.heap.size → PR B w → Calls Tryz.prog 72 #[.string q, .string u] w (Ret w (.tuple #[.string a, .int .i64 e])))) := by
  rcases check_split [q, u] [q] with ⟨h1, h2⟩ | ⟨h1, h2, h3⟩
  · have H : ∀ w, B ≤ w.heap.size → PQ B w → Calls Tryz.prog 173 #[.string q, .string u] w (Ret w (.int .i64 (firstE [q, u]))) := fun w hB hT => by
      have := runitErr_bad hq hu (by rw [h2]; exact h1) B w hB hT
      rw [h2] at this
      exact this
    exact ⟨⟨_, _, hide (fun w hB hT => rFloor_bad h1 H w hB hT.pq), hide (fun w hB hT => s3Floor_first hq hu h1 B w hB hT.pq)⟩, ⟨_, _, hide (fun w hB hT => rNearest_bad h1 H w hB hT.pq), hide (fun w hB hT => s3Nearest_first hq hu h1 B w hB hT.pq)⟩⟩
  · obtain ⟨x, rx, rfl⟩ := h2 q (by simp)
    obtain ⟨y, ry, rfl⟩ := h2 u (by simp)
    by_cases hx : x.num < 0
    · have h4 : checkE [T x, T y] [T x] = 2 := by
        rw [h3, if_pos]
        rw [List.any_cons, negS_T, decide_eq_true hx]
        rfl
      have H : ∀ w, B ≤ w.heap.size → PQ B w → Calls Tryz.prog 173 #[.string (T x), .string (T y)] w (Ret w (.int .i64 2)) := fun w hB hT => by
        have := runitErr_bad hq hu (by rw [h4]; decide) B w hB hT
        rw [h4] at this
        exact this
      exact ⟨⟨_, _, hide (fun w hB hT => rFloor_bad (by decide) H w hB hT.pq), hide (fun w hB hT => s3Floor_neg rx ry hx B w hB hT.pq)⟩, ⟨_, _, hide (fun w hB hT => rNearest_bad (by decide) H w hB hT.pq), hide (fun w hB hT => s3Nearest_neg rx ry hx B w hB hT.pq)⟩⟩
    · by_cases hy : y.num ≤ 0
      · have H := fun w hB hT => runitErr_unit rx ry (by omega) hy B w hB hT
        exact ⟨⟨_, _, hide (fun w hB hT => rFloor_bad (by decide) H w hB hT.pq), hide (fun w hB hT => s3Floor_unit rx ry (by omega) hy B w hB hT.pq)⟩, ⟨_, _, hide (fun w hB hT => rNearest_bad (by decide) H w hB hT.pq), hide (fun w hB hT => s3Nearest_unit rx ry (by omega) hy B w hB hT.pq)⟩⟩
      · exact ⟨⟨_, _, hide (fun w hB hT => rFloor_T rx ry (by omega) (by omega) B w hB hT.pq), hide (fun w hB hT => s3Floor_T rx ry (by omega) (by omega) B w hB hT.pq)⟩, ⟨_, _, hide (fun w hB hT => rNearest_T rx ry (by omega) (by omega) B w hB hT.pq), hide (fun w hB hT => s3Nearest_T rx ry (by omega) (by omega) B w hB hT.pq)⟩⟩
open Go.RowKit Go.KP Go.KI Go.Shelf
attribute [local go_sem] Oper.semAt_some

theorem rBetween_bad {q : ByteArray} {z : Int} (hq : q.size ≤ 1000000) (h : checkE [q] [q] ≠ 0) (B : Nat) (w : World) (hB : B ≤ w.heap.size) (hT : PQ B w) :
    Calls Tryz.prog 69 #[.string q, .int .i64 z] w (Ret w (.tuple #[rangeV ⟨#[]⟩ ⟨#[]⟩, .int .i64 (checkE [q] [q])])) := by
  have X0 := hide (heap3 w (rangeO ⟨#[]⟩ ⟨#[]⟩) (.cells #[.string q] 22) (.cells #[.string q] 22))
  have HC := hide (rCheck_any (w.heap.size + 1) (w.heap.size + 2) [q] [q] (by simp) (by simp) (fun x hx => by simp at hx; subst hx; exact hq) B _ (strs1 X0.out.2.1) (strs1 X0.out.2.2.1) (Nat.le_trans hB X0.out.2.2.2.2.size) (hT.on X0.out.2.2.2.2 hB))
  have hE : (checkE [q] [q] == 0) = false := by simpa using h
  generalize checkE [q] [q] = E at *
  clear h hq hT
  go_enter Tryz.func69, Tryz.ntmps69
  go_wp2_with fail
  refine HC.out.mono ?_
  rintro e w1 ⟨rfl, hb1⟩
  have HB1 := hide (X0.out.2.2.2.2.trans (hb1.mono X0.out.2.2.2.2.size))
  have E0 := hide (below_blk hb1 X0.out.1 (lt_blk X0.out.1))
  clear hb1 X0
  have k0 := cell_blk E0.out 0
  have k1 := cell_blk E0.out 1
  have f0 := froz_blk E0.out 0
  have f1 := froz_blk E0.out 1
  have kl := lt_blk E0.out
  go_wp2_with fail
  exact exit_range rfl (set2 E0.out _ _).1 rfl rfl rfl ⟨rfl, (HB1.out.setCell (p := ⟨w.heap.size, 0, none⟩) (Nat.le_refl _) _).setCell (p := ⟨w.heap.size, 1, none⟩) (Nat.le_refl _) _⟩
theorem rBetween_range {q : Rat} {z : Int} (rq : roomy q) (hq : 0 ≤ q.num) (hz : z < 0 ∨ 100 < z) (B : Nat) (w : World) (hB : B ≤ w.heap.size) (hT : PQ B w) :
    Calls Tryz.prog 69 #[.string (T q), .int .i64 z] w (Ret w (.tuple #[rangeV ⟨#[]⟩ ⟨#[]⟩, .int .i64 2])) := by
  have X0 := hide (heap3 w (rangeO ⟨#[]⟩ ⟨#[]⟩) (.cells #[.string (T q)] 22) (.cells #[.string (T q)] 22))
  have HC := hide (rCheck_ok (w.heap.size + 1) (w.heap.size + 2) [q] [q] (by simp) (by simp) (fun x hx => by simp at hx; subst hx; exact rq) (fun x hx => by simp at hx; subst hx; omega) B _ (nums1 X0.out.2.1) (nums1 X0.out.2.2.1) (Nat.le_trans hB X0.out.2.2.2.2.size) (hT.on X0.out.2.2.2.2 hB))
  generalize T q = X at *
  clear rq hq hT
  rcases hz with hz | hz
  · skip
    go_enter Tryz.func69, Tryz.ntmps69
    go_wp2_with fail
    refine HC.out.mono ?_
    rintro e w1 ⟨rfl, hb1⟩
    have HB1 := hide (X0.out.2.2.2.2.trans (hb1.mono X0.out.2.2.2.2.size))
    have E0 := hide (below_blk hb1 X0.out.1 (lt_blk X0.out.1))
    clear hb1 X0
    have k0 := cell_blk E0.out 0
    have k1 := cell_blk E0.out 1
    have f0 := froz_blk E0.out 0
    have f1 := froz_blk E0.out 1
    have kl := lt_blk E0.out
    go_wp2_with fail
    exact exit_range rfl (set2 E0.out _ _).1 rfl rfl rfl ⟨rfl, (HB1.out.setCell (p := ⟨w.heap.size, 0, none⟩) (Nat.le_refl _) _).setCell (p := ⟨w.heap.size, 1, none⟩) (Nat.le_refl _) _⟩
  · have hz2 : (z < 0) = False := eq_false (by omega)
    go_enter Tryz.func69, Tryz.ntmps69
    go_wp2_with fail
    refine HC.out.mono ?_
    rintro e w1 ⟨rfl, hb1⟩
    have HB1 := hide (X0.out.2.2.2.2.trans (hb1.mono X0.out.2.2.2.2.size))
    have E0 := hide (below_blk hb1 X0.out.1 (lt_blk X0.out.1))
    clear hb1 X0
    have k0 := cell_blk E0.out 0
    have k1 := cell_blk E0.out 1
    have f0 := froz_blk E0.out 0
    have f1 := froz_blk E0.out 1
    have kl := lt_blk E0.out
    go_wp2_with fail
    exact exit_range rfl (set2 E0.out _ _).1 rfl rfl rfl ⟨rfl, (HB1.out.setCell (p := ⟨w.heap.size, 0, none⟩) (Nat.le_refl _) _).setCell (p := ⟨w.heap.size, 1, none⟩) (Nat.le_refl _) _⟩
theorem s3Between_first {q : ByteArray} {z : Int} (hq : q.size ≤ 1000000) (h : firstE [q] ≠ 0) (B : Nat) (w : World) (hB : B ≤ w.heap.size) (hT : PQ B w) :
    Calls Tryz.prog 70 #[.string q, .int .i64 z] w (Ret w (.tuple #[rangeV ⟨#[]⟩ ⟨#[]⟩, .int .i64 (firstE [q])])) := by
  have X0 := hide (heap2 w (rangeO ⟨#[]⟩ ⟨#[]⟩) (.cells #[.string q] 22))
  have HC := hide (s3check_any (w.heap.size + 1) [q] (by simp) (fun x hx => by simp at hx; subst hx; omega) B _ (strs1 X0.out.2.1) (Nat.le_trans hB X0.out.2.2.2.size) (hT.on X0.out.2.2.2 hB))
  have hE : (firstE [q] == 0) = false := by simpa using h
  generalize firstE [q] = E at *
  clear h hq hT
  go_enter Tryz.func70, Tryz.ntmps70
  go_wp2_with fail
  refine HC.out.mono ?_
  rintro e w1 ⟨rfl, hb1⟩
  have HB1 := hide (X0.out.2.2.2.trans (hb1.mono X0.out.2.2.2.size))
  have E0 := hide (below_blk hb1 X0.out.1 (lt_blk X0.out.1))
  clear hb1 X0
  have k0 := cell_blk E0.out 0
  have k1 := cell_blk E0.out 1
  have f0 := froz_blk E0.out 0
  have f1 := froz_blk E0.out 1
  have kl := lt_blk E0.out
  go_wp2_with fail
  exact exit_range rfl (set2 E0.out _ _).1 rfl rfl rfl ⟨rfl, (HB1.out.setCell (p := ⟨w.heap.size, 0, none⟩) (Nat.le_refl _) _).setCell (p := ⟨w.heap.size, 1, none⟩) (Nat.le_refl _) _⟩
theorem s3Between_no {q : Rat} {z : Int} (rq : roomy q) (h : q.num < 0 ∨ (0 ≤ q.num ∧ (z < 0 ∨ 100 < z))) (B : Nat) (w : World) (hB : B ≤ w.heap.size) (hT : PQ B w) :
    Calls Tryz.prog 70 #[.string (T q), .int .i64 z] w (Ret w (.tuple #[rangeV ⟨#[]⟩ ⟨#[]⟩, .int .i64 2])) := by
  have X0 := hide (heap2 w (rangeO ⟨#[]⟩ ⟨#[]⟩) (.cells #[.string (T q)] 22))
  obtain ⟨c1, c2⟩ := rooms (l := [q]) (fun x hx => by simp at hx; subst hx; exact rq)
  have HC := hide (s3check_any (w.heap.size + 1) [T q] (by simp) c1 B _ (strs1 X0.out.2.1) (Nat.le_trans hB X0.out.2.2.2.size) (hT.on X0.out.2.2.2 hB))
  rw [show firstE [T q] = 0 from c2] at HC
  have S1 := hide (fun w => s3sign_T q w)
  have hk : Hid ((sgnR q < 0) ∨ ((sgnR q < 0) = False ∧ z < 0) ∨ ((sgnR q < 0) = False ∧ (z < 0) = False ∧ 100 < z)) := hide (by
    rcases h with h | ⟨h, h2⟩
    · left
      rw [sgn_of_neg h]
      decide
    · have g : (sgnR q < 0) = False := eq_false (by have := sgn_ge (Rat.num_nonneg.1 h); omega)
      rcases h2 with h2 | h2
      · exact .inr (.inl ⟨g, h2⟩)
      · exact .inr (.inr ⟨g, eq_false (by omega), h2⟩))
  generalize sgnR q = zq at *
  generalize T q = X at *
  clear rq h hT c1 c2
  rcases hk.out with g1 | ⟨g1, g2⟩ | ⟨g1, g2, g3⟩
  all_goals
    go_enter Tryz.func70, Tryz.ntmps70
    go_wp2_with fail
    refine HC.out.mono ?_
    rintro e w1 ⟨rfl, hb1⟩
    have HB1 := hide (X0.out.2.2.2.trans (hb1.mono X0.out.2.2.2.size))
    have E0 := hide (below_blk hb1 X0.out.1 (lt_blk X0.out.1))
    clear hb1
    go_wp2_with fail
    refine (S1.out _).mono ?_
    rintro e w2 ⟨rfl, rfl⟩
    have k0 := cell_blk E0.out 0
    have k1 := cell_blk E0.out 1
    have f0 := froz_blk E0.out 0
    have f1 := froz_blk E0.out 1
    have kl := lt_blk E0.out
    go_wp2_with fail
    exact exit_range rfl (set2 E0.out _ _).1 rfl rfl rfl ⟨rfl, (HB1.out.setCell (p := ⟨w.heap.size, 0, none⟩) (Nat.le_refl _) _).setCell (p := ⟨w.heap.size, 1, none⟩) (Nat.le_refl _) _⟩
theorem lit10 : iB ((10 : Nat) : Int) = ⟨#[49, 48]⟩ := iB_lit 10 [49, 48] (by decide +kernel)
theorem s3Between_T {q : Rat} {n : Nat} (rq : roomy q) (hq : 0 ≤ q.num) (hn : n ≤ 100) (B : Nat) (w : World) (hB : B ≤ w.heap.size) (hT : PQ B w) :
    Calls Tryz.prog 70 #[.string (T q), .int .i64 n] w (Ret w (.tuple #[rangeV (T (lowR q (10 ^ n))) (T (highR q (10 ^ n))), .int .i64 0])) := by
  have HT := hide hT
  have X0 := hide (heap2 w (rangeO ⟨#[]⟩ ⟨#[]⟩) (.cells #[.string (T q)] 22))
  obtain ⟨c1, c2⟩ := rooms (l := [q]) (fun x hx => by simp at hx; subst hx; exact rq)
  have HC := hide (s3check_any (w.heap.size + 1) [T q] (by simp) c1 B _ (strs1 X0.out.2.1) (Nat.le_trans hB X0.out.2.2.2.size) (hT.on X0.out.2.2.2 hB))
  rw [show firstE [T q] = 0 from c2] at HC
  have S1 := hide (fun w => s3sign_T q w)
  have z1 : (sgnR q < 0) = False := eq_false (by have := sgn_ge (Rat.num_nonneg.1 hq); omega)
  have sq := roomy_sz rq
  have HPW := hide (fun w => rPower_good (iB ((10 : Nat) : Int)) n w (by rw [iB_list]; exact chk_fits (fits_small (n := 2) (by rw [most_eq]; omega) (by decide))) (by omega))
  rw [val_iB] at HPW
  obtain ⟨S, hS⟩ : ∃ S, S = 10 ^ n := ⟨_, rfl⟩
  have hS0 : 0 < S := by rw [hS]; exact Nat.pow_pos (by omega)
  have hS1 : S < 10 ^ 101 := by rw [hS]; exact (Nat.pow_lt_pow_iff_right (by omega)).2 (by omega)
  have ep : ((10 : Nat) : Int) ^ n = (S : Int) := by rw [hS, Int.natCast_pow]
  have fS : fits (S : Int) := fits_small (n := 101) (by rw [most_eq]; omega) (nat_abs_lt hS1)
  rw [ep, resI_yes fS, lit10] at HPW
  have sS := sz_natc hS1 (by omega)
  have sp := Rat.natCast_pos.2 hS0
  have hun : 0 < (((S : Nat) : Rat)).num := num_gt sp
  have HQ := hide (fun w hB hT => s3quotient_T (x := 1) (y := ((S : Nat) : Rat)) fitsQ_one (sz_fits sS (by rw [most_eq]; omega)) hun (cmpC_of sz_one sS (by rw [most_eq]; omega)) B w hB hT)
  rw [T1, show T ((S : Nat) : Rat) = iB (S : Int) from (iB_T _).symm] at HQ
  have su : sz 101 (1 / ((S : Nat) : Rat)) := divNat_sz (k := 1) hS0 (by decide) hS1
  have hu : 0 < (1 / ((S : Nat) : Rat)).num := num_gt (by rw [Rat.div_def, Rat.one_mul]; exact Rat.inv_pos.2 sp)
  have HF := hide (fun w hB hT => s3floor_T sq su hq hu (by omega) (by omega) (by omega) B w hB hT)
  rw [low_units hq hS0 hu] at HF
  have sL := (lowR_sz (k := 146) sq hS0 hS1 (by omega) (by omega)).1
  have fL := sz_fits sL (by rw [most_eq]; omega)
  have HP := hide (fun w hB hT => s3product_T fL fL (mulC_of sL sL (by rw [most_eq]; omega)) B w hB hT)
  have HA := hide (fun w hB hT => r2Add_T fL (sz_fits su (by rw [most_eq]; omega)) B w hB hT)
  rw [addO_sz sL su (by rw [most_eq]; omega)] at HA
  unfold opV at HA
  dsimp only at HA
  have hh := high_of hq hS0
  have ht := T_beq (lowR q S * lowR q S) q
  rw [← hS]
  have hn0 : ((n : Int) < 0) = False := eq_false (by omega)
  have hn1 : ((100 : Int) < (n : Int)) = False := eq_false (by omega)
  have hcase : (((T (lowR q S * lowR q S)).toList == (T q).toList) = true ∧ T (highR q S) = T (lowR q S)) ∨ (((T (lowR q S * lowR q S)).toList == (T q).toList) = false ∧ T (highR q S) = T (lowR q S + 1 / ((S : Nat) : Rat))) := by
    by_cases h : lowR q S * lowR q S = q
    · rw [if_pos h] at hh
      exact .inl ⟨by rw [ht, decide_eq_true h], by rw [hh]⟩
    · rw [if_neg h] at hh
      exact .inr ⟨by rw [ht, decide_eq_false h], by rw [hh]⟩
  clear ht hh
  generalize T (highR q S) = HI at *
  generalize T (lowR q S + 1 / ((S : Nat) : Rat)) = NX at *
  generalize T (lowR q S * lowR q S) = LL at *
  generalize T (lowR q S) = L at *
  generalize T (1 / ((S : Nat) : Rat)) = U at *
  generalize iB (S : Int) = SC at *
  generalize sgnR q = zq at *
  generalize T q = X at *
  have HCA := hide hcase
  clear rq hq hn hT c1 c2 sq hS hS0 hS1 ep fS sS sp hun su hu sL fL hcase
  go_enter Tryz.func70, Tryz.ntmps70
  go_wp2_with fail
  refine HC.out.mono ?_
  rintro e w1 ⟨rfl, hb1⟩
  have HB1 := hide (X0.out.2.2.2.trans (hb1.mono X0.out.2.2.2.size))
  have E0 := hide (below_blk hb1 X0.out.1 (lt_blk X0.out.1))
  clear hb1 X0
  go_wp2_with fail
  refine (S1.out _).mono ?_
  rintro e w2 ⟨rfl, rfl⟩
  go_wp2_with fail
  refine (HPW.out _).mono ?_
  rintro e w2 ⟨rfl, hb2⟩
  have E0 := hide (below_blk hb2 E0.out (lt_blk E0.out))
  have HB2 := hide (HB1.out.trans (hb2.mono HB1.out.size))
  clear hb2
  go_wp2_with fail
  refine (HQ.out _ (Nat.le_trans hB HB2.out.size) (HT.out.on HB2.out hB)).mono ?_
  rintro e w3 ⟨rfl, hb3⟩
  have E0 := hide (below_blk hb3 E0.out (lt_blk E0.out))
  have HB3 := hide (HB2.out.trans (hb3.mono HB2.out.size))
  clear hb3
  go_wp2_with fail
  refine (HF.out _ (Nat.le_trans hB HB3.out.size) (HT.out.on HB3.out hB)).mono ?_
  rintro e w4 ⟨rfl, hb4⟩
  have E0 := hide (below_blk hb4 E0.out (lt_blk E0.out))
  have HB4 := hide (HB3.out.trans (hb4.mono HB3.out.size))
  clear hb4
  go_wp2_with fail
  refine (HP.out _ (Nat.le_trans hB HB4.out.size) (HT.out.on HB4.out hB)).mono ?_
  rintro e w5 ⟨rfl, hb5⟩
  have E0 := hide (below_blk hb5 E0.out (lt_blk E0.out))
  have HB5 := hide (HB4.out.trans (hb5.mono HB4.out.size))
  clear hb5
  rcases HCA.out with ⟨he, rfl⟩ | ⟨he, rfl⟩
  · have he2 : (LL.toList != X.toList) = false := by simp only [bne, he]; rfl
    have k0 := cell_blk E0.out 0
    have k1 := cell_blk E0.out 1
    have f0 := froz_blk E0.out 0
    have f1 := froz_blk E0.out 1
    have kl := lt_blk E0.out
    go_wp2_with fail
    exact exit_range rfl (set2 E0.out _ _).1 rfl rfl rfl ⟨rfl, (HB5.out.setCell (p := ⟨w.heap.size, 0, none⟩) (Nat.le_refl _) _).setCell (p := ⟨w.heap.size, 1, none⟩) (Nat.le_refl _) _⟩
  · have he2 : (LL.toList != X.toList) = true := by simp only [bne, he]; rfl
    go_wp2_with fail
    refine (HA.out _ (Nat.le_trans hB HB5.out.size) (HT.out.on HB5.out hB)).mono ?_
    rintro e w6 ⟨rfl, hb6⟩
    have E0 := hide (below_blk hb6 E0.out (lt_blk E0.out))
    have HB6 := hide (HB5.out.trans (hb6.mono HB5.out.size))
    clear hb6
    have k0 := cell_blk E0.out 0
    have k1 := cell_blk E0.out 1
    have f0 := froz_blk E0.out 0
    have f1 := froz_blk E0.out 1
    have kl := lt_blk E0.out
    go_wp2_with fail
    exact exit_range rfl (set2 E0.out _ _).1 rfl rfl rfl ⟨rfl, (HB6.out.setCell (p := ⟨w.heap.size, 0, none⟩) (Nat.le_refl _) _).setCell (p := ⟨w.heap.size, 1, none⟩) (Nat.le_refl _) _⟩
theorem between_same (q : ByteArray) (z : Int) (hq : q.size ≤ 1000000) (B : Nat) :
    ∃ (a b : ByteArray) (e : Int), Hid (∀ w, B ≤ w.heap.size → PR B w → Calls Tryz.prog 69 #[.string q, .int .i64 z] w (Ret w (.tuple #[rangeV a b, .int .i64 e]))) ∧ Hid (∀ w, B ≤ w.heap.size → PR B w → Calls Tryz.prog 70 #[.string q, .int .i64 z] w (Ret w (.tuple #[rangeV a b, .int .i64 e]))) := by
  rcases check_split1 q with ⟨h1, h2⟩ | ⟨x, rx, rfl, hx, h1, h2⟩ | ⟨x, rx, rfl, hx, h1⟩
  · refine ⟨_, _, _, hide (fun w hB hT => rBetween_bad hq (by rw [h2]; exact h1) B w hB hT.pq), hide (fun w hB hT => ?_)⟩
    rw [h2]
    exact s3Between_first hq h1 B w hB hT.pq
  · refine ⟨_, _, _, hide (fun w hB hT => rBetween_bad hq (by rw [h2]; decide) B w hB hT.pq), hide (fun w hB hT => ?_)⟩
    rw [h2]
    exact s3Between_no rx (.inl hx) B w hB hT.pq
  · by_cases hz : z < 0 ∨ 100 < z
    · exact ⟨_, _, _, hide (fun w hB hT => rBetween_range rx hx hz B w hB hT.pq), hide (fun w hB hT => s3Between_no rx (.inr ⟨hx, hz⟩) B w hB hT.pq)⟩
    · obtain ⟨n, rfl⟩ : ∃ n : Nat, z = (n : Int) := ⟨z.toNat, by omega⟩
      exact ⟨_, _, _, hide (fun w hB hT => rBetween_T rx hx (by omega) B w hB hT.pq), hide (fun w hB hT => s3Between_T rx hx (by omega) B w hB hT.pq)⟩
open Go.RowKit Go.KP Go.KI Go.Shelf
attribute [local go_sem] Oper.semAt_some

theorem rCompare_bad {a p b q : ByteArray} (ha : a.size ≤ 1000000) (hp : p.size ≤ 1000000) (hb : b.size ≤ 1000000) (hq : q.size ≤ 1000000) (h : checkE [a, p, b, q] [p, q] ≠ 0) (B : Nat) (w : World) (hB : B ≤ w.heap.size) (hT : PQ B w) :
    Calls Tryz.prog 65 #[.string a, .string p, .string b, .string q] w (Ret w (.tuple #[.int .i64 0, .int .i64 (checkE [a, p, b, q] [p, q])])) := by
  have X0 := hide (heap2 w (.cells #[.string a, .string p, .string b, .string q] 22) (.cells #[.string p, .string q] 22))
  have HC := hide (rCheck_any w.heap.size (w.heap.size + 1) [a, p, b, q] [p, q] (by simp) (by simp) (fun x hx => by simp at hx; rcases hx with rfl | rfl | rfl | rfl; exact ha; exact hp; exact hb; exact hq) B _ (strs4 X0.out.1) (strs2 X0.out.2.1) (Nat.le_trans hB X0.out.2.2.2.size) (hT.on X0.out.2.2.2 hB))
  have hE : (checkE [a, p, b, q] [p, q] == 0) = false := by simpa using h
  generalize checkE [a, p, b, q] [p, q] = E at *
  clear h ha hp hb hq hT
  go_enter Tryz.func65, Tryz.ntmps65
  go_wp2_with fail
  refine HC.out.mono ?_
  rintro e w1 ⟨rfl, hb1⟩
  have HB1 := hide (X0.out.2.2.2.trans (hb1.mono X0.out.2.2.2.size))
  clear hb1
  go_wp2_with fail
  refine bodyPost_ret (results_tmp2 rfl _ _ _) rfl ?_
  exact ⟨rfl, HB1.out⟩
theorem s3Compare_first {a p b q : ByteArray} (ha : a.size ≤ 1000000) (hp : p.size ≤ 1000000) (hb : b.size ≤ 1000000) (hq : q.size ≤ 1000000) (h : firstE [a, p, b, q] ≠ 0) (B : Nat) (w : World) (hB : B ≤ w.heap.size) (hT : PQ B w) :
    Calls Tryz.prog 66 #[.string a, .string p, .string b, .string q] w (Ret w (.tuple #[.int .i64 0, .int .i64 (firstE [a, p, b, q])])) := by
  have X0 := hide (heap1 w (.cells #[.string a, .string p, .string b, .string q] 22))
  have HC := hide (s3check_any w.heap.size [a, p, b, q] (by simp) (fun x hx => by simp at hx; rcases hx with rfl | rfl | rfl | rfl <;> omega) B _ (strs4 X0.out.1) (Nat.le_trans hB X0.out.2.2.size) (hT.on X0.out.2.2 hB))
  have hE : (firstE [a, p, b, q] == 0) = false := by simpa using h
  generalize firstE [a, p, b, q] = E at *
  clear h ha hp hb hq hT
  go_enter Tryz.func66, Tryz.ntmps66
  go_wp2_with fail
  refine HC.out.mono ?_
  rintro e w1 ⟨rfl, hb1⟩
  have HB1 := hide (X0.out.2.2.trans (hb1.mono X0.out.2.2.size))
  clear hb1
  go_wp2_with fail
  refine bodyPost_ret (results_tmp2 rfl _ _ _) rfl ?_
  exact ⟨rfl, HB1.out⟩
theorem s3Compare_neg {a p b q : Rat} (ra : roomy a) (rp : roomy p) (rb : roomy b) (rq : roomy q) (h : p.num < 0 ∨ (0 ≤ p.num ∧ q.num < 0)) (B : Nat) (w : World) (hB : B ≤ w.heap.size) (hT : PQ B w) :
    Calls Tryz.prog 66 #[.string (T a), .string (T p), .string (T b), .string (T q)] w (Ret w (.tuple #[.int .i64 0, .int .i64 2])) := by
  have X0 := hide (heap1 w (.cells #[.string (T a), .string (T p), .string (T b), .string (T q)] 22))
  obtain ⟨c1, c2⟩ := rooms (l := [a, p, b, q]) (fun x hx => by simp at hx; rcases hx with rfl | rfl | rfl | rfl; exact ra; exact rp; exact rb; exact rq)
  have HC := hide (s3check_any w.heap.size [T a, T p, T b, T q] (by simp) c1 B _ (strs4 X0.out.1) (Nat.le_trans hB X0.out.2.2.size) (hT.on X0.out.2.2 hB))
  rw [show firstE [T a, T p, T b, T q] = 0 from c2] at HC
  have S2 := hide (fun w => s3sign_T p w)
  have S4 := hide (fun w => s3sign_T q w)
  rcases h with h | ⟨h, h2⟩
  · rw [sgn_of_neg h] at S2
    generalize T a = XA at *
    generalize T p = XP at *
    generalize T b = XB at *
    generalize T q = XQ at *
    clear ra rp rb rq h hT c1 c2 S4
    go_enter Tryz.func66, Tryz.ntmps66
    go_wp2_with fail
    refine HC.out.mono ?_
    rintro e w1 ⟨rfl, hb1⟩
    have HB1 := hide (X0.out.2.2.trans (hb1.mono X0.out.2.2.size))
    clear hb1
    go_wp2_with fail
    refine (S2.out _).mono ?_
    rintro e w2 ⟨rfl, rfl⟩
    go_wp2_with fail
    refine bodyPost_ret (results_tmp2 rfl _ _ _) rfl ?_
    exact ⟨rfl, HB1.out⟩
  · rw [sgn_of_neg h2] at S4
    have z1 : (sgnR p < 0) = False := eq_false (by have := sgn_ge (Rat.num_nonneg.1 h); omega)
    generalize sgnR p = z at *
    generalize T a = XA at *
    generalize T p = XP at *
    generalize T b = XB at *
    generalize T q = XQ at *
    clear ra rp rb rq h h2 hT c1 c2
    go_enter Tryz.func66, Tryz.ntmps66
    go_wp2_with fail
    refine HC.out.mono ?_
    rintro e w1 ⟨rfl, hb1⟩
    have HB1 := hide (X0.out.2.2.trans (hb1.mono X0.out.2.2.size))
    clear hb1
    go_wp2_with fail
    refine (S2.out _).mono ?_
    rintro e w2 ⟨rfl, rfl⟩
    go_wp2_with fail
    refine (S4.out _).mono ?_
    rintro e w2 ⟨rfl, rfl⟩
    go_wp2_with fail
    refine bodyPost_ret (results_tmp2 rfl _ _ _) rfl ?_
    exact ⟨rfl, HB1.out⟩
theorem compare_same (a p b q : ByteArray) (ha : a.size ≤ 1000000) (hp : p.size ≤ 1000000) (hb : b.size ≤ 1000000) (hq : q.size ≤ 1000000) (B : Nat) :
    ∃ (k e : Int), Hid (∀ w, B ≤ w.heap.size → PR B w → Calls Tryz.prog 65 #[.string a, .string p, .string b, .string q] w (Ret w (.tuple #[.int .i64 k, .int .i64 e]))) ∧ Hid (∀ w, B ≤ w.heap.size → PR B w → Calls Tryz.prog 66 #[.string a, .string p, .string b, .string q] w (Ret w (.tuple #[.int .i64 k, .int .i64 e]))) := by
  rcases check_split [a, p, b, q] [p, q] with ⟨h1, h2⟩ | ⟨h1, h2, h3⟩
  · refine ⟨_, _, hide (fun w hB hT => rCompare_bad ha hp hb hq (by rw [h2]; exact h1) B w hB hT.pq), hide (fun w hB hT => ?_)⟩
    rw [h2]
    exact s3Compare_first ha hp hb hq h1 B w hB hT.pq
  · obtain ⟨x, rx, rfl⟩ := h2 a (by simp)
    obtain ⟨y, ry, rfl⟩ := h2 p (by simp)
    obtain ⟨z, rz, rfl⟩ := h2 b (by simp)
    obtain ⟨v, rv, rfl⟩ := h2 q (by simp)
    by_cases hn : y.num < 0 ∨ v.num < 0
    · have h4 : checkE [T x, T y, T z, T v] [T y, T v] = 2 := by
        rw [h3, if_pos]
        rw [List.any_cons, List.any_cons, negS_T, negS_T]
        rcases hn with hn | hn
        · rw [decide_eq_true hn]; rfl
        · rw [decide_eq_true hn]; simp
      refine ⟨_, _, hide (fun w hB hT => rCompare_bad ha hp hb hq (by rw [h4]; decide) B w hB hT.pq), hide (fun w hB hT => ?_)⟩
      rw [h4]
      exact s3Compare_neg rx ry rz rv (by omega) B w hB hT.pq
    · exact ⟨_, _, hide (fun w hB hT => rCompare_T rx ry rz rv (by omega) (by omega) B w hB hT.pq), hide (fun w hB hT => s3Compare_T rx ry rz rv (by omega) (by omega) B w hB hT.pq)⟩
theorem eqRange (a b : ByteArray) (w : World) : (Op.equalIn 10000 111 (rangeV a b) (rangeV a b)).run Tryz.prog w = .ok true w := by
  have hS : Tryz.prog.underlying 111 = some (.struct (Tryz.prog.fieldsOf 111)) := by kernel_rfl
  have hp : Tryz.prog.stoodInHeld 111 = false := by kernel_rfl
  rw [show (10000 : Nat) = 9999 + 1 from rfl, run_equalIn_agg w 9999 111 _ _ hS hp]
  simp only [Program.fieldsOf, Tryz.underlying111]
  go_simp
theorem lawRounds_any (a p b q : ByteArray) (z : Int) (ha : a.size ≤ 9223372036854775807) (hp : p.size ≤ 9223372036854775807) (hb : b.size ≤ 9223372036854775807) (hq : q.size ≤ 9223372036854775807) (n0 : Nat) (w : World) (hB : n0 ≤ w.heap.size) (hT : PR n0 w) :
    Calls Tryz.prog 11 #[.string a, .string p, .string b, .string q, .int .i64 z] w (Ret w (.bool true)) := by
  have HT := hide hT
  have HAW := hide (fun w hB hT => l3awake_any n0 w hB hT)
  have X0 := hide (heap1 w (.cells #[.string a, .string p, .string b, .string q] 22))
  have HG := hide (s3Great_any w.heap.size [a, p, b, q] (by simp) (fun s hs => by simp at hs; rcases hs with rfl | rfl | rfl | rfl; exact ha; exact hp; exact hb; exact hq) n0 _ (strs4 X0.out.1) (Nat.le_trans hB X0.out.2.2.size) (hT.on X0.out.2.2 hB).pq)
  clear hT ha hp hb hq
  go_enter Tryz.func11, Tryz.ntmps11
  go_wp2_with fail
  refine HG.out.mono ?_
  rintro e w1 (⟨rfl, hb1⟩ | ⟨⟨rfl, hb1⟩, hsz⟩)
  · have HB1 := hide (X0.out.2.2.trans (hb1.mono X0.out.2.2.size))
    clear hb1 X0 HG
    go_wp2_with fail
    refine (HAW.out _ (Nat.le_trans hB HB1.out.size) (HT.out.on HB1.out hB)).mono ?_
    rintro e w99 ⟨rfl, hb99⟩
    have HB99 := hide (HB1.out.trans (hb99.mono HB1.out.size))
    clear hb99
    go_wp2_with fail
    go_ret
    exact ⟨rfl, HB99.out⟩
  · have HB1 := hide (X0.out.2.2.trans (hb1.mono X0.out.2.2.size))
    have sa := hsz a (by simp)
    have sp := hsz p (by simp)
    have sb := hsz b (by simp)
    have sq := hsz q (by simp)
    obtain ⟨k, E1, N1, N2⟩ := compare_same a p b q (by omega) (by omega) (by omega) (by omega) n0
    obtain ⟨⟨X, E2, M1, M2⟩, _⟩ := unit_same q a (by omega) (by omega) n0
    obtain ⟨U, V, E3, R1, R2⟩ := between_same q z (by omega) n0
    obtain ⟨_, ⟨Y, E4, O1, O2⟩⟩ := unit_same p b (by omega) (by omega) n0
    obtain ⟨x1, x2⟩ := beqs X
    obtain ⟨y1, y2⟩ := beqs Y
    have he := fun w => eqRange U V w
    clear hb1 X0 HG hsz sa sp sb sq
    go_wp2_with fail
    refine (N1.out _ (Nat.le_trans hB HB1.out.size) (HT.out.on HB1.out hB)).mono ?_
    rintro e w2 ⟨rfl, hb2⟩
    have HB2 := hide (HB1.out.trans (hb2.mono HB1.out.size))
    clear hb2
    go_wp2_with fail
    refine (N2.out _ (Nat.le_trans hB HB2.out.size) (HT.out.on HB2.out hB)).mono ?_
    rintro e w3 ⟨rfl, hb3⟩
    have HB3 := hide (HB2.out.trans (hb3.mono HB2.out.size))
    clear hb3
    go_wp2_with fail
    refine (M1.out _ (Nat.le_trans hB HB3.out.size) (HT.out.on HB3.out hB)).mono ?_
    rintro e w4 ⟨rfl, hb4⟩
    have HB4 := hide (HB3.out.trans (hb4.mono HB3.out.size))
    clear hb4
    go_wp2_with fail
    refine (M2.out _ (Nat.le_trans hB HB4.out.size) (HT.out.on HB4.out hB)).mono ?_
    rintro e w5 ⟨rfl, hb5⟩
    have HB5 := hide (HB4.out.trans (hb5.mono HB4.out.size))
    clear hb5
    go_wp2_with fail
    refine (R1.out _ (Nat.le_trans hB HB5.out.size) (HT.out.on HB5.out hB)).mono ?_
    rintro e w6 ⟨rfl, hb6⟩
    have X := hide (heap1 w6 (rangeO U V))
    have hb6 := hb6.trans (X.out.2.2.mono hb6.size)
    have G1 := hide X.out.1
    have HB6 := hide (HB5.out.trans (hb6.mono HB5.out.size))
    clear hb6 X
    go_wp2_with fail
    refine (R2.out _ (Nat.le_trans hB HB6.out.size) (HT.out.on HB6.out hB)).mono ?_
    rintro e w7 ⟨rfl, hb7⟩
    have X := hide (heap1 w7 (rangeO U V))
    have hb7 := hb7.trans (X.out.2.2.mono hb7.size)
    have G1 := hide (below_blk hb7 G1.out (lt_blk G1.out))
    have G2 := hide X.out.1
    have HB7 := hide (HB6.out.trans (hb7.mono HB6.out.size))
    clear hb7 X
    go_wp2_with fail
    refine (O1.out _ (Nat.le_trans hB HB7.out.size) (HT.out.on HB7.out hB)).mono ?_
    rintro e w8 ⟨rfl, hb8⟩
    have G1 := hide (below_blk hb8 G1.out (lt_blk G1.out))
    have G2 := hide (below_blk hb8 G2.out (lt_blk G2.out))
    have HB8 := hide (HB7.out.trans (hb8.mono HB7.out.size))
    clear hb8
    go_wp2_with fail
    refine (O2.out _ (Nat.le_trans hB HB8.out.size) (HT.out.on HB8.out hB)).mono ?_
    rintro e w9 ⟨rfl, hb9⟩
    have G1 := hide (below_blk hb9 G1.out (lt_blk G1.out))
    have G2 := hide (below_blk hb9 G2.out (lt_blk G2.out))
    have HB9 := hide (HB8.out.trans (hb9.mono HB8.out.size))
    clear hb9
    have k0 := cell_blk G1.out 0
    have k1 := cell_blk G1.out 1
    have kl := lt_blk G1.out
    have m0 := cell_blk G2.out 0
    have m1 := cell_blk G2.out 1
    have ml := lt_blk G2.out
    go_wp2_with fail
    refine (HAW.out _ (Nat.le_trans hB HB9.out.size) (HT.out.on HB9.out hB)).mono ?_
    rintro e w99 ⟨rfl, hb99⟩
    have HB99 := hide (HB9.out.trans (hb99.mono HB9.out.size))
    clear hb99
    go_wp2_with fail
    go_ret
    exact ⟨rfl, HB99.out⟩
end Go.Proofs.YtpmnhipffkhcpaaGreatDoor
