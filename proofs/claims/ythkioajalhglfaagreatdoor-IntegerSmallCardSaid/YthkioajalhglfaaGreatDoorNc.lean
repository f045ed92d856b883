/-
  Long division of limbs: plain facts. No program in sight.
-/
import Derived.Test.YthkioajalhglfaaGreatDoorNb
namespace Go.KI
open Go

theorem lv_cut (b : Nat) (l : List Nat) (k : Nat) (h : k ≤ l.length) : lv b l = lvT b l k + b ^ k * lv b (l.drop k) := by
  unfold lvT
  conv => lhs; rw [← List.take_append_drop k l]
  rw [lv_append, List.length_take, Nat.min_eq_left h]
theorem lat_drop (l : List Nat) (j i : Nat) : lat (l.drop j) i = lat l (j + i) := by
  unfold lat
  rw [List.getElem?_drop]
theorem lt_drop {b : Nat} {l : List Nat} (h : Lt b l) (j : Nat) : Lt b (l.drop j) := fun x hx => h x (List.mem_of_mem_drop hx)
theorem lt_take {b : Nat} {l : List Nat} (h : Lt b l) (j : Nat) : Lt b (l.take j) := fun x hx => h x (List.mem_of_mem_take hx)
/-- Limbs of one length and one value are the same. -/
theorem lv_inj {b : Nat} (hb : 0 < b) : ∀ {x y : List Nat}, Lt b x → Lt b y → x.length = y.length → lv b x = lv b y → x = y := by
  intro x
  induction x with
  | nil => intro y _ _ hl _; exact (List.eq_nil_of_length_eq_zero hl.symm).symm
  | cons a r ih =>
    intro y hx hy hl hv
    cases y with
    | nil => simp at hl
    | cons c s =>
      simp only [lv] at hv
      have ha := hx a (by simp)
      have hc := hy c (by simp)
      have h1 : a = c := by
        have e1 : (a + b * lv b r) % b = a := by rw [Nat.add_mul_mod_self_left, Nat.mod_eq_of_lt ha]
        have e2 : (c + b * lv b s) % b = c := by rw [Nat.add_mul_mod_self_left, Nat.mod_eq_of_lt hc]
        rw [← e1, hv, e2]
      subst h1
      have h2 : lv b r = lv b s := Nat.eq_of_mul_eq_mul_left hb (Nat.add_left_cancel hv)
      rw [ih (fun z hz => hx z (List.mem_cons_of_mem _ hz)) (fun z hz => hy z (List.mem_cons_of_mem _ hz)) (by simpa using hl) h2]
/-- Zeros above. -/
theorem high_zero {b : Nat} {l : List Nat} {n V : Nat} (hn : n ≤ l.length) (h : lv b l < V) (hV : V ≤ b ^ n) : lv b (l.drop n) = 0 ∧ lv b l = lvT b l n := by
  have h1 := lv_cut b l n hn
  have h2 : lv b (l.drop n) = 0 := by
    rcases Nat.eq_zero_or_pos (lv b (l.drop n)) with h3 | h3
    · exact h3
    · have : b ^ n * 1 ≤ b ^ n * lv b (l.drop n) := Nat.mul_le_mul_left _ h3
      omega
  rw [h2] at h1
  exact ⟨h2, by omega⟩
/-- The two lists agree ahead of the window and behind it. -/
structure WinEq (j n : Nat) (L M : List Nat) : Prop where
  len : M.length = L.length
  low : M.take j = L.take j
  high : M.drop (j + n) = L.drop (j + n)
theorem WinEq.refl (j n : Nat) (L : List Nat) : WinEq j n L L := ⟨rfl, rfl, rfl⟩
theorem WinEq.trans {j n : Nat} {a c d : List Nat} (h : WinEq j n a c) (k : WinEq j n c d) : WinEq j n a d := ⟨k.len.trans h.len, k.low.trans h.low, k.high.trans h.high⟩
theorem WinEq.set {j n : Nat} {L M : List Nat} (h : WinEq j n L M) {i : Nat} (hi : i < n) (v : Nat) : WinEq j n L (M.set (j + i) v) := by
  refine ⟨by rw [List.length_set]; exact h.len, ?_, ?_⟩
  · rw [← h.low, List.take_set_of_le (by omega)]
  · rw [← h.high, List.drop_set_of_lt (by omega)]
theorem drop_set_add (L : List Nat) (j i v : Nat) : (L.set (j + i) v).drop j = (L.drop j).set i v := by
  rw [List.drop_set, if_neg (by omega)]
  congr 1
  omega
theorem lvT_set_past {b : Nat} {L : List Nat} {i v : Nat} : lvT b (L.set i v) i = lvT b L i := by
  unfold lvT
  rw [List.take_set_of_le (Nat.le_refl _)]
/-- A window of limbs, i of them turned: the value of the turned ones. -/
theorem win_set {b : Nat} {M : List Nat} {j i v : Nat} (hi : j + i < M.length) : lvT b ((M.set (j + i) v).drop j) (i + 1) = lvT b (M.drop j) i + b ^ i * v := by
  rw [drop_set_add, lvT_succ, lvT_set_past, lat_set (by rw [List.length_drop]; omega), if_pos rfl]
theorem win_keep {L M : List Nat} {j i : Nat} (h : M.drop (j + i) = L.drop (j + i)) : lat M (j + i) = lat L (j + i) := by
  have h1 := lat_drop M (j + i) 0
  have h2 := lat_drop L (j + i) 0
  rw [Nat.add_zero] at h1 h2
  rw [← h1, ← h2, h]
theorem drop_set_next {L M : List Nat} {j i v : Nat} (h : M.drop (j + i) = L.drop (j + i)) : (M.set (j + i) v).drop (j + (i + 1)) = L.drop (j + (i + 1)) := by
  rw [List.drop_set_of_lt (by omega), show j + (i + 1) = (j + i) + 1 by omega]
  have h1 := congrArg (List.drop 1) h
  simpa only [List.drop_drop] using h1

/-- One limb taken: n + c + q y = x + b c2. -/
theorem take_step {b i q o c c2 n x y X Y : Nat} (h : o + q * Y = X + b ^ i * c) (h2 : n + c + q * y = x + b * c2) : (o + b ^ i * n) + q * (Y + b ^ i * y) = (X + b ^ i * x) + b ^ (i + 1) * c2 := by
  rw [Nat.pow_succ]
  have h3 : b ^ i * (n + c + q * y) = b ^ i * (x + b * c2) := by rw [h2]
  grind
/-- One limb put back: x + q y + c = n + b c2. -/
theorem rest_step {b i q o c c2 n x y X Y : Nat} (h : o + b ^ i * c = X + q * Y) (h2 : x + q * y + c = n + b * c2) : (o + b ^ i * n) + b ^ (i + 1) * c2 = (X + b ^ i * x) + q * (Y + b ^ i * y) := by
  rw [Nat.pow_succ]
  have h3 : b ^ i * (x + q * y + c) = b ^ i * (n + b * c2) := by rw [h2]
  grind
/-- Taken and put back: as it was. -/
theorem win_back {b j n q V : Nat} (hb : 0 < b) {L M R : List Nat} {c c2 : Nat} (hL : Lt b L) (hR : Lt b R) (h1 : WinEq j n L M) (h2 : WinEq j n M R)
    (e1 : lvT b (M.drop j) n + q * V = lvT b (L.drop j) n + b ^ n * c) (e2 : lvT b (R.drop j) n + b ^ n * c2 = lvT b (M.drop j) n + q * V) : R = L := by
  have h3 := h1.trans h2
  have b1 := lvT_lt hb (lt_drop hL j) n
  have b2 := lvT_lt hb (lt_drop hR j) n
  have e3 : lvT b (R.drop j) n + b ^ n * c2 = lvT b (L.drop j) n + b ^ n * c := by rw [e2, e1]
  have e4 : lvT b (R.drop j) n = lvT b (L.drop j) n := by
    have f1 : (lvT b (R.drop j) n + b ^ n * c2) % b ^ n = lvT b (R.drop j) n := by rw [Nat.add_mul_mod_self_left, Nat.mod_eq_of_lt b2]
    have f2 : (lvT b (L.drop j) n + b ^ n * c) % b ^ n = lvT b (L.drop j) n := by rw [Nat.add_mul_mod_self_left, Nat.mod_eq_of_lt b1]
    rw [← f1, e3, f2]
  have e5 : (R.drop j).take n = (L.drop j).take n := by
    refine lv_inj hb (lt_take (lt_drop hR j) n) (lt_take (lt_drop hL j) n) ?_ e4
    rw [List.length_take, List.length_take, List.length_drop, List.length_drop, h3.len]
  have k1 : R = R.take j ++ ((R.drop j).take n ++ R.drop (j + n)) := by rw [← List.drop_drop, List.take_append_drop, List.take_append_drop]
  have k2 : L = L.take j ++ ((L.drop j).take n ++ L.drop (j + n)) := by rw [← List.drop_drop, List.take_append_drop, List.take_append_drop]
  rw [k1, k2, h3.low, h3.high, e5]
/-- Three upper limbs bound the value from above. -/
theorem top3_lt {b : Nat} (hb : 0 < b) {l : List Nat} (h : Lt b l) (n : Nat) : lvT b l (n + 3) < b ^ n * (lat l n + b * lat l (n + 1) + b * (b * lat l (n + 2)) + 1) := by
  have h0 := lvT_lt hb h n
  have h1 : lvT b l (n + 3) = lvT b l n + b ^ n * (lat l n + b * lat l (n + 1) + b * (b * lat l (n + 2))) := by
    have p1 : b ^ (n + 1) = b ^ n * b := Nat.pow_succ ..
    have p2 : b ^ (n + 2) = b ^ n * b * b := by rw [show n + 2 = n + 1 + 1 from rfl, Nat.pow_succ, Nat.pow_succ]
    rw [lvT_succ, lvT_succ, lvT_succ, p1, p2]
    generalize b ^ n = P
    have e1 : P * (b * (b * lat l (n + 2))) = P * b * b * lat l (n + 2) := by rw [← Nat.mul_assoc, ← Nat.mul_assoc]
    have e2 : P * (b * lat l (n + 1)) = P * b * lat l (n + 1) := by rw [← Nat.mul_assoc]
    rw [Nat.mul_add, Nat.mul_add, e1, e2]
    omega
  rw [h1, Nat.mul_add _ _ 1, Nat.mul_one]
  omega
theorem top2_le {b : Nat} (l : List Nat) (n : Nat) : b ^ n * (lat l n + b * lat l (n + 1)) ≤ lvT b l (n + 2) := by
  rw [lvT_succ, lvT_succ, Nat.pow_succ]
  generalize b ^ n = P
  have : P * (lat l n + b * lat l (n + 1)) = P * lat l n + P * b * lat l (n + 1) := by grind
  omega
theorem top2_lt {b : Nat} (hb : 0 < b) {l : List Nat} (h : Lt b l) (n : Nat) : lvT b l (n + 1) < b ^ n * (lat l n + 1) := by
  rw [lvT_succ, Nat.mul_add, Nat.mul_one]
  have := lvT_lt hb h n
  omega
/-- The guess is not less than the quotient: it stays so when it is lowered because of the second limb. -/
theorem est_lower {P b q r t v1 v2 u0 U V : Nat} (hU : U < P * (t * b + u0 + 1)) (hV : P * (v2 + b * v1) ≤ V) (hqr : q * v1 + r = t) (hgt : r * b + u0 < q * v2) : U < q * V := by
  have h1 : t * b + u0 + 1 ≤ q * (v2 + b * v1) := by
    have : t * b = q * v1 * b + r * b := by rw [← hqr, Nat.add_mul]
    have : q * (v2 + b * v1) = q * v2 + q * v1 * b := by grind
    omega
  have h2 : P * (t * b + u0 + 1) ≤ P * (q * (v2 + b * v1)) := Nat.mul_le_mul_left _ h1
  have h3 : P * (q * (v2 + b * v1)) = q * (P * (v2 + b * v1)) := by grind
  have h4 : q * (P * (v2 + b * v1)) ≤ q * V := Nat.mul_le_mul_left _ hV
  omega
/-- The first guess. -/
theorem est_start {P b t v1 u0 U V : Nat} (hv : 0 < v1) (hu : u0 < b) (hU : U < P * (t * b + u0 + 1)) (hV : P * (b * v1) ≤ V) : U < (t / v1 + 1) * V := by
  have h1 := Nat.div_add_mod t v1
  have h2 := Nat.mod_lt t hv
  have h3 : t * b + u0 + 1 ≤ (t / v1 + 1) * (b * v1) := by
    have e : (t / v1 + 1) * (b * v1) = (v1 * (t / v1) + v1) * b := by grind
    have : (t + 1) * b ≤ (v1 * (t / v1) + v1) * b := Nat.mul_le_mul_right _ (by omega)
    have : (t + 1) * b = t * b + b := by grind
    omega
  have h4 : P * (t * b + u0 + 1) ≤ P * ((t / v1 + 1) * (b * v1)) := Nat.mul_le_mul_left _ h3
  have h5 : P * ((t / v1 + 1) * (b * v1)) = (t / v1 + 1) * (P * (b * v1)) := by grind
  have h6 : (t / v1 + 1) * (P * (b * v1)) ≤ (t / v1 + 1) * V := Nat.mul_le_mul_left _ hV
  omega
/-- One round of the long division. -/
theorem round_div {b j V U S S2 q Q : Nat} {T : Nat} (h : T + b ^ (j + 1) * (S + V * Q) = U) (x : Nat) (h2 : x + b * S = S2 + V * q) : ∀ T2, T = T2 + b ^ j * x → T2 + b ^ j * (S2 + V * (q + b * Q)) = U := by
  intro T2 hT
  rw [← h, hT, Nat.pow_succ]
  have : b ^ j * (x + b * S) = b ^ j * (S2 + V * q) := by rw [h2]
  grind
/-- The floor's quotient and remainder, from those of the sizes. -/
theorem floor_long (m1 m2 : Bool) {a b : Nat} (hb : 0 < b) :
    ((m1 = m2 ∨ a % b = 0) → valS (!(m1 == m2)) (a / b) = (valS m1 a).fdiv (valS m2 b) ∧ valS m2 (a % b) = (valS m1 a).fmod (valS m2 b)) ∧
    (m1 ≠ m2 → a % b ≠ 0 → valS (!(m1 == m2)) (a / b + 1) = (valS m1 a).fdiv (valS m2 b) ∧ valS m2 (b - a % b) = (valS m1 a).fmod (valS m2 b)) := by
  have h1 := Nat.div_add_mod a b
  have h2 := Nat.mod_lt a hb
  obtain ⟨q, hq⟩ : ∃ q, q = a / b := ⟨_, rfl⟩
  obtain ⟨r, hr⟩ : ∃ r, r = a % b := ⟨_, rfl⟩
  rw [← hq, ← hr] at h1 ⊢
  rw [← hr] at h2
  clear hq hr
  have h3 : (b : Int) * (q : Int) + (r : Int) = (a : Int) := by rw [← h1]; simp
  have h4 : -(b : Int) * (q : Int) = -((b : Int) * q) := Int.neg_mul ..
  have h5 : (b : Int) * -(q : Int) = -((b : Int) * q) := Int.mul_neg ..
  have h6 : -(b : Int) * -(q : Int) = (b : Int) * q := Int.neg_mul_neg ..
  have h7 : (b : Int) * -((q + 1 : Nat) : Int) = -((b : Int) * q) - b := by rw [Int.mul_neg, Int.natCast_add, Int.mul_add, Int.natCast_one, Int.mul_one]; omega
  have h8 : -(b : Int) * ((q + 1 : Nat) : Int) = -((b : Int) * q) - b := by rw [Int.neg_mul, Int.natCast_add, Int.mul_add, Int.natCast_one, Int.mul_one]; omega
  have hbp : (0 : Int) < (b : Int) := by omega
  have hbn : -(b : Int) < 0 := by omega
  constructor
  · intro h
    cases m1 <;> cases m2 <;> simp only [valS, Bool.false_eq_true, if_false, if_true, beq_self_eq_true, Bool.not_true, show (false == true) = false from rfl, show (true == false) = false from rfl, Bool.not_false]
    · have := (Int.fdiv_fmod_unique (a := (a : Int)) (r := (r : Int)) (q := (q : Int)) hbp).2 ⟨by omega, by omega, by omega⟩
      exact ⟨this.1.symm, this.2.symm⟩
    · have h0 : r = 0 := by simpa using h
      have := (Int.fdiv_fmod_unique' (a := (a : Int)) (r := -(r : Int)) (q := -(q : Int)) hbn).2 ⟨by omega, by omega, by omega⟩
      exact ⟨this.1.symm, this.2.symm⟩
    · have h0 : r = 0 := by simpa using h
      have := (Int.fdiv_fmod_unique (a := -(a : Int)) (r := (r : Int)) (q := -(q : Int)) hbp).2 ⟨by omega, by omega, by omega⟩
      exact ⟨this.1.symm, this.2.symm⟩
    · have := (Int.fdiv_fmod_unique' (a := -(a : Int)) (r := -(r : Int)) (q := (q : Int)) hbn).2 ⟨by omega, by omega, by omega⟩
      exact ⟨this.1.symm, this.2.symm⟩
  · intro hm h0
    cases m1 <;> cases m2 <;> simp only [valS, Bool.false_eq_true, if_false, if_true, beq_self_eq_true, Bool.not_true, show (false == true) = false from rfl, show (true == false) = false from rfl, Bool.not_false]
    · exact absurd rfl hm
    · have := (Int.fdiv_fmod_unique' (a := (a : Int)) (r := -((b - r : Nat) : Int)) (q := -((q + 1 : Nat) : Int)) hbn).2 ⟨by rw [Int.neg_mul_neg, Int.natCast_add, Int.mul_add, Int.natCast_one, Int.mul_one]; omega, by omega, by omega⟩
      exact ⟨this.1.symm, this.2.symm⟩
    · have := (Int.fdiv_fmod_unique (a := -(a : Int)) (r := ((b - r : Nat) : Int)) (q := -((q + 1 : Nat) : Int)) hbp).2 ⟨by omega, by omega, by omega⟩
      exact ⟨this.1.symm, this.2.symm⟩
    · exact absurd rfl hm
theorem fdiv_natAbs_le {x y : Int} (hy : y ≠ 0) : (x.fdiv y).natAbs ≤ x.natAbs := by
  have h := Int.mul_fdiv_add_fmod x y
  have hr : (y < 0 → y < x.fmod y ∧ x.fmod y ≤ 0) ∧ (0 < y → 0 ≤ x.fmod y ∧ x.fmod y < y) := by
    constructor
    · intro hn
      exact ((Int.fdiv_fmod_unique' (a := x) (r := x.fmod y) (q := x.fdiv y) hn).1 ⟨rfl, rfl⟩).2
    · intro hp
      exact ((Int.fdiv_fmod_unique (a := x) (r := x.fmod y) (q := x.fdiv y) hp).1 ⟨rfl, rfl⟩).2
  obtain ⟨q, hq⟩ : ∃ q, q = x.fdiv y := ⟨_, rfl⟩
  obtain ⟨r, hr2⟩ : ∃ r, r = x.fmod y := ⟨_, rfl⟩
  rw [← hq, ← hr2] at h
  rw [← hr2] at hr
  rw [← hq]
  clear hq hr2
  rcases Nat.eq_zero_or_pos q.natAbs with h0 | h0
  · omega
  have e : (y * q).natAbs = y.natAbs * q.natAbs := Int.natAbs_mul ..
  have e2 : y.natAbs + q.natAbs ≤ y.natAbs * q.natAbs + 1 := by
    obtain ⟨s, hs⟩ : ∃ s, y.natAbs = s + 1 := ⟨y.natAbs - 1, by omega⟩
    obtain ⟨t, ht⟩ : ∃ t, q.natAbs = t + 1 := ⟨q.natAbs - 1, by omega⟩
    rw [hs, ht]
    have : (s + 1) * (t + 1) = s * t + s + t + 1 := by grind
    omega
  omega
theorem fmod_natAbs_lt {x y : Int} (hy : y ≠ 0) : (x.fmod y).natAbs < y.natAbs := by
  rcases Int.lt_or_gt_of_ne hy with hn | hp
  · have := ((Int.fdiv_fmod_unique' (a := x) (r := x.fmod y) (q := x.fdiv y) hn).1 ⟨rfl, rfl⟩).2
    omega
  · have := ((Int.fdiv_fmod_unique (a := x) (r := x.fmod y) (q := x.fdiv y) hp).1 ⟨rfl, rfl⟩).2
    omega
/-- What the guess of a limb of the quotient keeps: q, the rest r of the upper two limbs T; S is the window's value, W the divisor's. -/
def EstAt (v1 T S W q r : Nat) : Prop := q * v1 + r = T ∧ S < (q + 1) * W
/-- What the guess starts from. -/
structure EstIn (b v1 v2 x0 x1 u0 S W : Nat) : Prop where
  pos : 0 < v1
  x0le : x0 ≤ v1
  x1lt : x1 < b
  u0lt : u0 < b
  small : S < b * W
  high : ∃ P, S < P * ((x0 * b + x1) * b + u0 + 1) ∧ P * (v2 + b * v1) ≤ W
theorem EstIn.of {b : Nat} (hb : 0 < b) {L V : List Nat} (hL : Lt b L) (hV : Norm b V) {j m : Nat} (hm : V.length = m + 2) (hn : j + (m + 2) < L.length) (h : lv b (L.drop (j + 1)) < lv b V) :
    EstIn b (lat V (m + 1)) (lat V m) (lat L (j + (m + 2))) (lat L (j + (m + 1))) (lat L (j + m)) (lvT b (L.drop j) (m + 3)) (lv b V) ∧ lv b (L.drop j) = lvT b (L.drop j) (m + 3) := by
  have hVl : lv b V < b ^ (m + 2) := by rw [← hm]; exact lv_lt hV.lt
  have hz := high_zero (b := b) (l := L.drop (j + 1)) (n := m + 2) (by rw [List.length_drop]; omega) h (Nat.le_of_lt hVl)
  have hdd : (L.drop j).drop (m + 3) = (L.drop (j + 1)).drop (m + 2) := by
    rw [List.drop_drop, List.drop_drop]
    congr 1
    omega
  have hcut := lv_cut b (L.drop j) (m + 3) (by rw [List.length_drop]; omega)
  rw [hdd, hz.1, Nat.mul_zero, Nat.add_zero] at hcut
  have hne : V ≠ [] := fun e => by rw [e] at hm; simp at hm
  have ht := hV.top.resolve_left hne
  rw [hm, show m + 2 - 1 = m + 1 by omega] at ht
  have hVt : lvT b V (m + 2) = lv b V := lvT_all (by omega)
  have hS : lvT b (L.drop j) (m + 3) < b * lv b V := by
    have h1 : lv b (L.drop j) = lat L j + b * lv b (L.drop (j + 1)) := by
      rw [List.drop_eq_getElem_cons (show j < L.length by omega)]
      show L[j] + b * lv b (L.drop (j + 1)) = _
      rw [lat_at (show j < L.length by omega)]
    have h2 := lat_lt hb hL j
    have h3 : b * (lv b (L.drop (j + 1)) + 1) ≤ b * lv b V := Nat.mul_le_mul_left b h
    rw [Nat.mul_add, Nat.mul_one] at h3
    omega
  refine ⟨⟨by omega, ?_, lat_lt hb hL _, lat_lt hb hL _, hS, b ^ m, ?_, ?_⟩, hcut⟩
  · have h1 := top2_lt hb hV.lt (m + 1)
    rw [hVt] at h1
    have h2 : b ^ (m + 1) * lat (L.drop (j + 1)) (m + 1) ≤ lvT b (L.drop (j + 1)) (m + 2) := by
      rw [lvT_succ]
      omega
    rw [lat_drop, show j + 1 + (m + 1) = j + (m + 2) by omega] at h2
    have h3 : b ^ (m + 1) * lat L (j + (m + 2)) < b ^ (m + 1) * (lat V (m + 1) + 1) := by
      rw [← hz.2] at h2
      omega
    have h4 := Nat.lt_of_mul_lt_mul_left h3
    omega
  · have h1 := top3_lt hb (lt_drop hL j) m
    rw [lat_drop, lat_drop, lat_drop] at h1
    have e : (lat L (j + (m + 2)) * b + lat L (j + (m + 1))) * b + lat L (j + m) + 1 = lat L (j + m) + b * lat L (j + (m + 1)) + b * (b * lat L (j + (m + 2))) + 1 := by grind
    rw [e]
    exact h1
  · have h1 := top2_le (b := b) V m
    rw [hVt] at h1
    exact h1
theorem EstIn.start {b v1 v2 x0 x1 u0 S W : Nat} (h : EstIn b v1 v2 x0 x1 u0 S W) : EstAt v1 (x0 * b + x1) S W ((x0 * b + x1) / v1) ((x0 * b + x1) % v1) ∧ (x0 * b + x1) / v1 < 2 * b := by
  obtain ⟨P, h1, h2⟩ := h.high
  refine ⟨⟨?_, ?_⟩, ?_⟩
  · rw [Nat.mul_comm]
    exact Nat.div_add_mod _ _
  · refine est_start h.pos h.u0lt h1 (Nat.le_trans (Nat.mul_le_mul_left P ?_) h2)
    omega
  · rw [Nat.div_lt_iff_lt_mul h.pos]
    have h3 : x0 * b ≤ v1 * b := Nat.mul_le_mul_right b h.x0le
    have h4 : 1 * b ≤ v1 * b := Nat.mul_le_mul_right b h.pos
    have h5 : 2 * b * v1 = v1 * b + v1 * b := by grind
    have := h.x1lt
    omega
theorem EstIn.down {b v1 v2 x0 x1 u0 S W q r : Nat} (h : EstIn b v1 v2 x0 x1 u0 S W) (ha : EstAt v1 (x0 * b + x1) S W q r) (hq : b ≤ q ∨ r * b + u0 < q * v2) (h1 : 1 ≤ q) : EstAt v1 (x0 * b + x1) S W (q - 1) (r + v1) := by
  obtain ⟨k, rfl⟩ : ∃ k, q = k + 1 := ⟨q - 1, by omega⟩
  rw [Nat.add_sub_cancel]
  have e : (k + 1) * v1 = k * v1 + v1 := by rw [Nat.add_mul, Nat.one_mul]
  refine ⟨by have := ha.1; omega, ?_⟩
  rcases hq with hq | hq
  · exact Nat.lt_of_lt_of_le h.small (Nat.mul_le_mul_right W hq)
  · obtain ⟨P, g1, g2⟩ := h.high
    exact est_lower g1 g2 ha.1 hq
theorem EstIn.stop {b v1 v2 x0 x1 u0 S W q r : Nat} (h : EstIn b v1 v2 x0 x1 u0 S W) (ha : EstAt v1 (x0 * b + x1) S W q r) (hr : b ≤ r) : q < b := by
  rcases Nat.lt_or_ge q b with h1 | h1
  · exact h1
  · have h2 : b * v1 ≤ q * v1 := Nat.mul_le_mul_right v1 h1
    have h3 : x0 * b ≤ v1 * b := Nat.mul_le_mul_right b h.x0le
    have h4 : v1 * b = b * v1 := Nat.mul_comm ..
    have := ha.1
    have := h.x1lt
    omega
end Go.KI
