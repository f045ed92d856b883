/-
  Texts laid together.
-/
import Derived.Test.YtklgpilgalfckaaGreatDoorMN1
import Derived.Test.YtklgpilgalfckaaGreatDoorMN2
import Derived.Test.YtklgpilgalfckaaGreatDoorMN3
import Derived.BigQuiet
import Derived.OrdersHeld
import Derived.BigRegionIn
import Derived.Deep.RegionHeld3
set_option maxRecDepth 100000
set_option maxHeartbeats 4000000
namespace Go.KI
open Go

theorem lv_cut (b : Nat) (l : List Nat) (k : Nat) (h : k ≤ l.length) : lv b l = lvT b l k + b ^ k * lv b (l.drop k) := by
  unfold lvT
  conv => lhs; rw [← List.take_append_drop k l]
  rw [lv_append, List.length_take, Nat.min_eq_left h]
theorem lat_drop (l : List Nat) (j i : Nat) : lat (l.drop j) i = lat l (j + i) := by
  unfold lat
  rw [List.getElem?_drop]
theorem lt_drop {b : Nat} {l : List Nat} (h : Lt b l) (j : Nat) : Lt b (l.drop j) := fun x hx => h x (List.mem_of_mem_drop hx)
theorem lt_take {b : Nat} {l : List Nat} (h : Lt b l) (j : Nat) : Lt b (l.take j) := fun x hx => h x (List.mem_of_mem_take hx)
theorem lv_inj {b : Nat} (hb : 0 < b) : ∀ {x y : List Nat}, Lt b x → Lt b y → x.length = y.length → lv b x = lv b y → x = y := by
  intro x
  induction x with
  | nil => intro y _ _ hl _; exact (List.eq_nil_of_length_eq_zero hl.symm).symm
  | cons a r ih =>
    intro y hx hy hl hv
    cases y with
    | nil => simp at hl
    | cons c s =>
      simp only [lv] at hv
      have ha := hx a (by simp)
      have hc := hy c (by simp)
      have h1 : a = c := by
        have e1 : (a + b * lv b r) % b = a := by rw [Nat.add_mul_mod_self_left, Nat.mod_eq_of_lt ha]
        have e2 : (c + b * lv b s) % b = c := by rw [Nat.add_mul_mod_self_left, Nat.mod_eq_of_lt hc]
        rw [← e1, hv, e2]
      subst h1
      have h2 : lv b r = lv b s := Nat.eq_of_mul_eq_mul_left hb (Nat.add_left_cancel hv)
      rw [ih (fun z hz => hx z (List.mem_cons_of_mem _ hz)) (fun z hz => hy z (List.mem_cons_of_mem _ hz)) (by simpa using hl) h2]
theorem high_zero {b : Nat} {l : List Nat} {n V : Nat} (hn : n ≤ l.length) (h : lv b l < V) (hV : V ≤ b ^ n) : lv b (l.drop n) = 0 ∧ lv b l = lvT b l n := by
  have h1 := lv_cut b l n hn
  have h2 : lv b (l.drop n) = 0 := by
    rcases Nat.eq_zero_or_pos (lv b (l.drop n)) with h3 | h3
    · exact h3
    · have : b ^ n * 1 ≤ b ^ n * lv b (l.drop n) := Nat.mul_le_mul_left _ h3
      omega
  rw [h2] at h1
  exact ⟨h2, by omega⟩
structure WinEq (j n : Nat) (L M : List Nat) : Prop where
  len : M.length = L.length
  low : M.take j = L.take j
  high : M.drop (j + n) = L.drop (j + n)
theorem WinEq.refl (j n : Nat) (L : List Nat) : WinEq j n L L := ⟨rfl, rfl, rfl⟩
theorem WinEq.trans {j n : Nat} {a c d : List Nat} (h : WinEq j n a c) (k : WinEq j n c d) : WinEq j n a d := ⟨k.len.trans h.len, k.low.trans h.low, k.high.trans h.high⟩
theorem WinEq.set {j n : Nat} {L M : List Nat} (h : WinEq j n L M) {i : Nat} (hi : i < n) (v : Nat) : WinEq j n L (M.set (j + i) v) := by
  refine ⟨by rw [List.length_set]; exact h.len, ?_, ?_⟩
  · rw [← h.low, List.take_set_of_le (by omega)]
  · rw [← h.high, List.drop_set_of_lt (by omega)]
theorem drop_set_add (L : List Nat) (j i v : Nat) : (L.set (j + i) v).drop j = (L.drop j).set i v := by
  rw [List.drop_set, if_neg (by omega)]
  congr 1
  omega
theorem lvT_set_past {b : Nat} {L : List Nat} {i v : Nat} : lvT b (L.set i v) i = lvT b L i := by
  unfold lvT
  rw [List.take_set_of_le (Nat.le_refl _)]
theorem win_set {b : Nat} {M : List Nat} {j i v : Nat} (hi : j + i < M.length) : lvT b ((M.set (j + i) v).drop j) (i + 1) = lvT b (M.drop j) i + b ^ i * v := by
  rw [drop_set_add, lvT_succ, lvT_set_past, lat_set (by rw [List.length_drop]; omega), if_pos rfl]
theorem win_keep {L M : List Nat} {j i : Nat} (h : M.drop (j + i) = L.drop (j + i)) : lat M (j + i) = lat L (j + i) := by
  have h1 := lat_drop M (j + i) 0
  have h2 := lat_drop L (j + i) 0
  rw [Nat.add_zero] at h1 h2
  rw [← h1, ← h2, h]
theorem drop_set_next {L M : List Nat} {j i v : Nat} (h : M.drop (j + i) = L.drop (j + i)) : (M.set (j + i) v).drop (j + (i + 1)) = L.drop (j + (i + 1)) := by
  rw [List.drop_set_of_lt (by omega), show j + (i + 1) = (j + i) + 1 by omega]
  have h1 := congrArg (List.drop 1) h
  simpa only [List.drop_drop] using h1

theorem take_step {b i q o c c2 n x y X Y : Nat} (h : o + q * Y = X + b ^ i * c) (h2 : n + c + q * y = x + b * c2) : (o + b ^ i * n) + q * (Y + b ^ i * y) = (X + b ^ i * x) + b ^ (i + 1) * c2 := by
  rw [Nat.pow_succ]
  have h3 : b ^ i * (n + c + q * y) = b ^ i * (x + b * c2) := by rw [h2]
  grind
theorem rest_step {b i q o c c2 n x y X Y : Nat} (h : o + b ^ i * c = X + q * Y) (h2 : x + q * y + c = n + b * c2) : (o + b ^ i * n) + b ^ (i + 1) * c2 = (X + b ^ i * x) + q * (Y + b ^ i * y) := by
  rw [Nat.pow_succ]
  have h3 : b ^ i * (x + q * y + c) = b ^ i * (n + b * c2) := by rw [h2]
  grind
theorem win_back {b j n q V : Nat} (hb : 0 < b) {L M R : List Nat} {c c2 : Nat} (hL : Lt b L) (hR : Lt b R) (h1 : WinEq j n L M) (h2 : WinEq j n M R)
    (e1 : lvT b (M.drop j) n + q * V = lvT b (L.drop j) n + b ^ n * c) (e2 : lvT b (R.drop j) n + b ^ n * c2 = lvT b (M.drop j) n + q * V) : R = L := by
  have h3 := h1.trans h2
  have b1 := lvT_lt hb (lt_drop hL j) n
  have b2 := lvT_lt hb (lt_drop hR j) n
  have e3 : lvT b (R.drop j) n + b ^ n * c2 = lvT b (L.drop j) n + b ^ n * c := by rw [e2, e1]
  have e4 : lvT b (R.drop j) n = lvT b (L.drop j) n := by
    have f1 : (lvT b (R.drop j) n + b ^ n * c2) % b ^ n = lvT b (R.drop j) n := by rw [Nat.add_mul_mod_self_left, Nat.mod_eq_of_lt b2]
    have f2 : (lvT b (L.drop j) n + b ^ n * c) % b ^ n = lvT b (L.drop j) n := by rw [Nat.add_mul_mod_self_left, Nat.mod_eq_of_lt b1]
    rw [← f1, e3, f2]
  have e5 : (R.drop j).take n = (L.drop j).take n := by
    refine lv_inj hb (lt_take (lt_drop hR j) n) (lt_take (lt_drop hL j) n) ?_ e4
    rw [List.length_take, List.length_take, List.length_drop, List.length_drop, h3.len]
  have k1 : R = R.take j ++ ((R.drop j).take n ++ R.drop (j + n)) := by rw [← List.drop_drop, List.take_append_drop, List.take_append_drop]
  have k2 : L = L.take j ++ ((L.drop j).take n ++ L.drop (j + n)) := by rw [← List.drop_drop, List.take_append_drop, List.take_append_drop]
  rw [k1, k2, h3.low, h3.high, e5]
theorem top3_lt {b : Nat} (hb : 0 < b) {l : List Nat} (h : Lt b l) (n : Nat) : lvT b l (n + 3) < b ^ n * (lat l n + b * lat l (n + 1) + b * (b * lat l (n + 2)) + 1) := by
  have h0 := lvT_lt hb h n
  have h1 : lvT b l (n + 3) = lvT b l n + b ^ n * (lat l n + b * lat l (n + 1) + b * (b * lat l (n + 2))) := by
    have p1 : b ^ (n + 1) = b ^ n * b := Nat.pow_succ ..
    have p2 : b ^ (n + 2) = b ^ n * b * b := by rw [show n + 2 = n + 1 + 1 from rfl, Nat.pow_succ, Nat.pow_succ]
    rw [lvT_succ, lvT_succ, lvT_succ, p1, p2]
    generalize b ^ n = P
    have e1 : P * (b * (b * lat l (n + 2))) = P * b * b * lat l (n + 2) := by rw [← Nat.mul_assoc, ← Nat.mul_assoc]
    have e2 : P * (b * lat l (n + 1)) = P * b * lat l (n + 1) := by rw [← Nat.mul_assoc]
    rw [Nat.mul_add, Nat.mul_add, e1, e2]
    omega
  rw [h1, Nat.mul_add _ _ 1, Nat.mul_one]
  omega
theorem top2_le {b : Nat} (l : List Nat) (n : Nat) : b ^ n * (lat l n + b * lat l (n + 1)) ≤ lvT b l (n + 2) := by
  rw [lvT_succ, lvT_succ, Nat.pow_succ]
  generalize b ^ n = P
  have : P * (lat l n + b * lat l (n + 1)) = P * lat l n + P * b * lat l (n + 1) := by grind
  omega
theorem top2_lt {b : Nat} (hb : 0 < b) {l : List Nat} (h : Lt b l) (n : Nat) : lvT b l (n + 1) < b ^ n * (lat l n + 1) := by
  rw [lvT_succ, Nat.mul_add, Nat.mul_one]
  have := lvT_lt hb h n
  omega
theorem est_lower {P b q r t v1 v2 u0 U V : Nat} (hU : U < P * (t * b + u0 + 1)) (hV : P * (v2 + b * v1) ≤ V) (hqr : q * v1 + r = t) (hgt : r * b + u0 < q * v2) : U < q * V := by
  have h1 : t * b + u0 + 1 ≤ q * (v2 + b * v1) := by
    have : t * b = q * v1 * b + r * b := by rw [← hqr, Nat.add_mul]
    have : q * (v2 + b * v1) = q * v2 + q * v1 * b := by grind
    omega
  have h2 : P * (t * b + u0 + 1) ≤ P * (q * (v2 + b * v1)) := Nat.mul_le_mul_left _ h1
  have h3 : P * (q * (v2 + b * v1)) = q * (P * (v2 + b * v1)) := by grind
  have h4 : q * (P * (v2 + b * v1)) ≤ q * V := Nat.mul_le_mul_left _ hV
  omega
theorem est_start {P b t v1 u0 U V : Nat} (hv : 0 < v1) (hu : u0 < b) (hU : U < P * (t * b + u0 + 1)) (hV : P * (b * v1) ≤ V) : U < (t / v1 + 1) * V := by
  have h1 := Nat.div_add_mod t v1
  have h2 := Nat.mod_lt t hv
  have h3 : t * b + u0 + 1 ≤ (t / v1 + 1) * (b * v1) := by
    have e : (t / v1 + 1) * (b * v1) = (v1 * (t / v1) + v1) * b := by grind
    have : (t + 1) * b ≤ (v1 * (t / v1) + v1) * b := Nat.mul_le_mul_right _ (by omega)
    have : (t + 1) * b = t * b + b := by grind
    omega
  have h4 : P * (t * b + u0 + 1) ≤ P * ((t / v1 + 1) * (b * v1)) := Nat.mul_le_mul_left _ h3
  have h5 : P * ((t / v1 + 1) * (b * v1)) = (t / v1 + 1) * (P * (b * v1)) := by grind
  have h6 : (t / v1 + 1) * (P * (b * v1)) ≤ (t / v1 + 1) * V := Nat.mul_le_mul_left _ hV
  omega
theorem round_div {b j V U S S2 q Q : Nat} {T : Nat} (h : T + b ^ (j + 1) * (S + V * Q) = U) (x : Nat) (h2 : x + b * S = S2 + V * q) : ∀ T2, T = T2 + b ^ j * x → T2 + b ^ j * (S2 + V * (q + b * Q)) = U := by
  intro T2 hT
  rw [← h, hT, Nat.pow_succ]
  have : b ^ j * (x + b * S) = b ^ j * (S2 + V * q) := by rw [h2]
  grind
theorem floor_long (m1 m2 : Bool) {a b : Nat} (hb : 0 < b) :
    ((m1 = m2 ∨ a % b = 0) → valS (!(m1 == m2)) (a / b) = (valS m1 a).fdiv (valS m2 b) ∧ valS m2 (a % b) = (valS m1 a).fmod (valS m2 b)) ∧
    (m1 ≠ m2 → a % b ≠ 0 → valS (!(m1 == m2)) (a / b + 1) = (valS m1 a).fdiv (valS m2 b) ∧ valS m2 (b - a % b) = (valS m1 a).fmod (valS m2 b)) := by
  have h1 := Nat.div_add_mod a b
  have h2 := Nat.mod_lt a hb
  obtain ⟨q, hq⟩ : ∃ q, q = a / b := ⟨_, rfl⟩
  obtain ⟨r, hr⟩ : ∃ r, r = a % b := ⟨_, rfl⟩
  rw [← hq, ← hr] at h1 ⊢
  rw [← hr] at h2
  clear hq hr
  have h3 : (b : Int) * (q : Int) + (r : Int) = (a : Int) := by rw [← h1]; simp
  have h4 : -(b : Int) * (q : Int) = -((b : Int) * q) := Int.neg_mul ..
  have h5 : (b : Int) * -(q : Int) = -((b : Int) * q) := Int.mul_neg ..
  have h6 : -(b : Int) * -(q : Int) = (b : Int) * q := Int.neg_mul_neg ..
  have h7 : (b : Int) * -((q + 1 : Nat) : Int) = -((b : Int) * q) - b := by rw [Int.mul_neg, Int.natCast_add, Int.mul_add, Int.natCast_one, Int.mul_one]; omega
  have h8 : -(b : Int) * ((q + 1 : Nat) : Int) = -((b : Int) * q) - b := by rw [Int.neg_mul, Int.natCast_add, Int.mul_add, Int.natCast_one, Int.mul_one]; omega
  have hbp : (0 : Int) < (b : Int) := by omega
  have hbn : -(b : Int) < 0 := by omega
  constructor
  · intro h
    cases m1 <;> cases m2 <;> simp only [valS, Bool.false_eq_true, if_false, if_true, beq_self_eq_true, Bool.not_true, show (false == true) = false from rfl, show (true == false) = false from rfl, Bool.not_false]
    · have := (Int.fdiv_fmod_unique (a := (a : Int)) (r := (r : Int)) (q := (q : Int)) hbp).2 ⟨by omega, by omega, by omega⟩
      exact ⟨this.1.symm, this.2.symm⟩
    · have h0 : r = 0 := by simpa using h
      have := (Int.fdiv_fmod_unique' (a := (a : Int)) (r := -(r : Int)) (q := -(q : Int)) hbn).2 ⟨by omega, by omega, by omega⟩
      exact ⟨this.1.symm, this.2.symm⟩
    · have h0 : r = 0 := by simpa using h
      have := (Int.fdiv_fmod_unique (a := -(a : Int)) (r := (r : Int)) (q := -(q : Int)) hbp).2 ⟨by omega, by omega, by omega⟩
      exact ⟨this.1.symm, this.2.symm⟩
    · have := (Int.fdiv_fmod_unique' (a := -(a : Int)) (r := -(r : Int)) (q := (q : Int)) hbn).2 ⟨by omega, by omega, by omega⟩
      exact ⟨this.1.symm, this.2.symm⟩
  · intro hm h0
    cases m1 <;> cases m2 <;> simp only [valS, Bool.false_eq_true, if_false, if_true, beq_self_eq_true, Bool.not_true, show (false == true) = false from rfl, show (true == false) = false from rfl, Bool.not_false]
    · exact absurd rfl hm
    · have := (Int.fdiv_fmod_unique' (a := (a : Int)) (r := -((b - r : Nat) : Int)) (q := -((q + 1 : Nat) : Int)) hbn).2 ⟨by rw [Int.neg_mul_neg, Int.natCast_add, Int.mul_add, Int.natCast_one, Int.mul_one]; omega, by omega, by omega⟩
      exact ⟨this.1.symm, this.2.symm⟩
    · have := (Int.fdiv_fmod_unique (a := -(a : Int)) (r := ((b - r : Nat) : Int)) (q := -((q + 1 : Nat) : Int)) hbp).2 ⟨by omega, by omega, by omega⟩
      exact ⟨this.1.symm, this.2.symm⟩
    · exact absurd rfl hm
theorem fdiv_natAbs_le {x y : Int} (hy : y ≠ 0) : (x.fdiv y).natAbs ≤ x.natAbs := by
  have h := Int.mul_fdiv_add_fmod x y
  have hr : (y < 0 → y < x.fmod y ∧ x.fmod y ≤ 0) ∧ (0 < y → 0 ≤ x.fmod y ∧ x.fmod y < y) := by
    constructor
    · intro hn
      exact ((Int.fdiv_fmod_unique' (a := x) (r := x.fmod y) (q := x.fdiv y) hn).1 ⟨rfl, rfl⟩).2
    · intro hp
      exact ((Int.fdiv_fmod_unique (a := x) (r := x.fmod y) (q := x.fdiv y) hp).1 ⟨rfl, rfl⟩).2
  obtain ⟨q, hq⟩ : ∃ q, q = x.fdiv y := ⟨_, rfl⟩
  obtain ⟨r, hr2⟩ : ∃ r, r = x.fmod y := ⟨_, rfl⟩
  rw [← hq, ← hr2] at h
  rw [← hr2] at hr
  rw [← hq]
  clear hq hr2
  rcases Nat.eq_zero_or_pos q.natAbs with h0 | h0
  · omega
  have e : (y * q).natAbs = y.natAbs * q.natAbs := Int.natAbs_mul ..
  have e2 : y.natAbs + q.natAbs ≤ y.natAbs * q.natAbs + 1 := by
    obtain ⟨s, hs⟩ : ∃ s, y.natAbs = s + 1 := ⟨y.natAbs - 1, by omega⟩
    obtain ⟨t, ht⟩ : ∃ t, q.natAbs = t + 1 := ⟨q.natAbs - 1, by omega⟩
    rw [hs, ht]
    have : (s + 1) * (t + 1) = s * t + s + t + 1 := by grind
    omega
  omega
theorem fmod_natAbs_lt {x y : Int} (hy : y ≠ 0) : (x.fmod y).natAbs < y.natAbs := by
  rcases Int.lt_or_gt_of_ne hy with hn | hp
  · have := ((Int.fdiv_fmod_unique' (a := x) (r := x.fmod y) (q := x.fdiv y) hn).1 ⟨rfl, rfl⟩).2
    omega
  · have := ((Int.fdiv_fmod_unique (a := x) (r := x.fmod y) (q := x.fdiv y) hp).1 ⟨rfl, rfl⟩).2
    omega
def EstAt (v1 T S W q r : Nat) : Prop := q * v1 + r = T ∧ S < (q + 1) * W
structure EstIn (b v1 v2 x0 x1 u0 S W : Nat) : Prop where
  pos : 0 < v1
  x0le : x0 ≤ v1
  x1lt : x1 < b
  u0lt : u0 < b
  small : S < b * W
  high : ∃ P, S < P * ((x0 * b + x1) * b + u0 + 1) ∧ P * (v2 + b * v1) ≤ W
theorem EstIn.of {b : Nat} (hb : 0 < b) {L V : List Nat} (hL : Lt b L) (hV : Norm b V) {j m : Nat} (hm : V.length = m + 2) (hn : j + (m + 2) < L.length) (h : lv b (L.drop (j + 1)) < lv b V) :
    EstIn b (lat V (m + 1)) (lat V m) (lat L (j + (m + 2))) (lat L (j + (m + 1))) (lat L (j + m)) (lvT b (L.drop j) (m + 3)) (lv b V) ∧ lv b (L.drop j) = lvT b (L.drop j) (m + 3) := by
  have hVl : lv b V < b ^ (m + 2) := by rw [← hm]; exact lv_lt hV.lt
  have hz := high_zero (b := b) (l := L.drop (j + 1)) (n := m + 2) (by rw [List.length_drop]; omega) h (Nat.le_of_lt hVl)
  have hdd : (L.drop j).drop (m + 3) = (L.drop (j + 1)).drop (m + 2) := by
    rw [List.drop_drop, List.drop_drop]
    congr 1
    omega
  have hcut := lv_cut b (L.drop j) (m + 3) (by rw [List.length_drop]; omega)
  rw [hdd, hz.1, Nat.mul_zero, Nat.add_zero] at hcut
  have hne : V ≠ [] := fun e => by rw [e] at hm; simp at hm
  have ht := hV.top.resolve_left hne
  rw [hm, show m + 2 - 1 = m + 1 by omega] at ht
  have hVt : lvT b V (m + 2) = lv b V := lvT_all (by omega)
  have hS : lvT b (L.drop j) (m + 3) < b * lv b V := by
    have h1 : lv b (L.drop j) = lat L j + b * lv b (L.drop (j + 1)) := by
      rw [List.drop_eq_getElem_cons (show j < L.length by omega)]
      show L[j] + b * lv b (L.drop (j + 1)) = _
      rw [lat_at (show j < L.length by omega)]
    have h2 := lat_lt hb hL j
    have h3 : b * (lv b (L.drop (j + 1)) + 1) ≤ b * lv b V := Nat.mul_le_mul_left b h
    rw [Nat.mul_add, Nat.mul_one] at h3
    omega
  refine ⟨⟨by omega, ?_, lat_lt hb hL _, lat_lt hb hL _, hS, b ^ m, ?_, ?_⟩, hcut⟩
  · have h1 := top2_lt hb hV.lt (m + 1)
    rw [hVt] at h1
    have h2 : b ^ (m + 1) * lat (L.drop (j + 1)) (m + 1) ≤ lvT b (L.drop (j + 1)) (m + 2) := by
      rw [lvT_succ]
      omega
    rw [lat_drop, show j + 1 + (m + 1) = j + (m + 2) by omega] at h2
    have h3 : b ^ (m + 1) * lat L (j + (m + 2)) < b ^ (m + 1) * (lat V (m + 1) + 1) := by
      rw [← hz.2] at h2
      omega
    have h4 := Nat.lt_of_mul_lt_mul_left h3
    omega
  · have h1 := top3_lt hb (lt_drop hL j) m
    rw [lat_drop, lat_drop, lat_drop] at h1
    have e : (lat L (j + (m + 2)) * b + lat L (j + (m + 1))) * b + lat L (j + m) + 1 = lat L (j + m) + b * lat L (j + (m + 1)) + b * (b * lat L (j + (m + 2))) + 1 := by grind
    rw [e]
    exact h1
  · have h1 := top2_le (b := b) V m
    rw [hVt] at h1
    exact h1
theorem EstIn.start {b v1 v2 x0 x1 u0 S W : Nat} (h : EstIn b v1 v2 x0 x1 u0 S W) : EstAt v1 (x0 * b + x1) S W ((x0 * b + x1) / v1) ((x0 * b + x1) % v1) ∧ (x0 * b + x1) / v1 < 2 * b := by
  obtain ⟨P, h1, h2⟩ := h.high
  refine ⟨⟨?_, ?_⟩, ?_⟩
  · rw [Nat.mul_comm]
    exact Nat.div_add_mod _ _
  · refine est_start h.pos h.u0lt h1 (Nat.le_trans (Nat.mul_le_mul_left P ?_) h2)
    omega
  · rw [Nat.div_lt_iff_lt_mul h.pos]
    have h3 : x0 * b ≤ v1 * b := Nat.mul_le_mul_right b h.x0le
    have h4 : 1 * b ≤ v1 * b := Nat.mul_le_mul_right b h.pos
    have h5 : 2 * b * v1 = v1 * b + v1 * b := by grind
    have := h.x1lt
    omega
theorem EstIn.down {b v1 v2 x0 x1 u0 S W q r : Nat} (h : EstIn b v1 v2 x0 x1 u0 S W) (ha : EstAt v1 (x0 * b + x1) S W q r) (hq : b ≤ q ∨ r * b + u0 < q * v2) (h1 : 1 ≤ q) : EstAt v1 (x0 * b + x1) S W (q - 1) (r + v1) := by
  obtain ⟨k, rfl⟩ : ∃ k, q = k + 1 := ⟨q - 1, by omega⟩
  rw [Nat.add_sub_cancel]
  have e : (k + 1) * v1 = k * v1 + v1 := by rw [Nat.add_mul, Nat.one_mul]
  refine ⟨by have := ha.1; omega, ?_⟩
  rcases hq with hq | hq
  · exact Nat.lt_of_lt_of_le h.small (Nat.mul_le_mul_right W hq)
  · obtain ⟨P, g1, g2⟩ := h.high
    exact est_lower g1 g2 ha.1 hq
theorem EstIn.stop {b v1 v2 x0 x1 u0 S W q r : Nat} (h : EstIn b v1 v2 x0 x1 u0 S W) (ha : EstAt v1 (x0 * b + x1) S W q r) (hr : b ≤ r) : q < b := by
  rcases Nat.lt_or_ge q b with h1 | h1
  · exact h1
  · have h2 : b * v1 ≤ q * v1 := Nat.mul_le_mul_right v1 h1
    have h3 : x0 * b ≤ v1 * b := Nat.mul_le_mul_right b h.x0le
    have h4 : v1 * b = b * v1 := Nat.mul_comm ..
    have := ha.1
    have := h.x1lt
    omega
end Go.KI
namespace Go.Proofs.YtklgpilgalfckaaGreatDoor
open Go.RowKit Go.KP Go.KI Go.Shelf
attribute [local go_sem] Oper.semAt_some

structure Only (g : Nat) (w w2 : World) : Prop where
  os : w2.os = w.os
  tape : w2.tape = w.tape
  output : w2.output = w.output
  size : w.heap.size ≤ w2.heap.size
  block : ∀ b, b ≠ g → b < w.heap.size → w2.heap[b]? = w.heap[b]?
theorem Only.refl (g : Nat) (w : World) : Only g w w := ⟨rfl, rfl, rfl, Nat.le_refl _, fun _ _ _ => rfl⟩
theorem Only.trans {g : Nat} {a b c : World} (h : Only g a b) (k : Only g b c) : Only g a c :=
  ⟨k.os.trans h.os, k.tape.trans h.tape, k.output.trans h.output, Nat.le_trans h.size k.size, fun i hi hl => (k.block i hi (Nat.lt_of_lt_of_le hl h.size)).trans (h.block i hi hl)⟩
theorem Only.drewN {g : Nat} {a w : World} (h : Only g a w) (n : Nat) : Only g a (w.drewN n) := ⟨h.os, h.tape, h.output, h.size, h.block⟩
theorem Only.set {g : Nat} {a w : World} (h : Only g a w) (k : Nat) (v : Value) : Only g a (w.setCell ⟨g, k, none⟩ v) :=
  ⟨h.os, h.tape, h.output, by rw [setCell_size]; exact h.size, fun b hb hl => (setCell_other (Ne.symm hb)).trans (h.block b hb hl)⟩
theorem Only.below {g n : Nat} {a w w2 : World} (h : Below n a w) (k : Only g w w2) (hn : n ≤ g) (hs : n ≤ w.heap.size) : Below n a w2 :=
  h.trans ⟨k.os, k.tape, k.output, k.size, fun b hb => k.block b (by omega) (by omega)⟩
def RowAt (w : World) (g c : Nat) (L : List Nat) : Prop := ∃ cur : Array Value, w.heap[g]? = some (.cells cur 3 (0, 0)) ∧ L.length ≤ c ∧ c ≤ maxLen ∧ cur.size = c * 1 ∧ cur.toList.take (L.length * 1) = icells L
theorem RowAt.cell {w : World} {g c : Nat} {L : List Nat} (h : RowAt w g c L) {i : Nat} (hi : i < L.length) : w.cell? ⟨g, i, none⟩ = some (.int .i64 (lat L i)) := by
  obtain ⟨cur, h1, _, _, _, h2⟩ := h
  rw [cell_blk h1, ← Array.getElem?_toList]
  have h3 := icells_at hi
  rw [← h2, List.getElem?_take, if_pos (by omega)] at h3
  exact h3
theorem RowAt.froz {w : World} {g c : Nat} {L : List Nat} (h : RowAt w g c L) (i : Nat) : w.frozen? ⟨g, i, none⟩ = false := by
  obtain ⟨cur, h1, _⟩ := h
  exact froz_blk h1 i
theorem RowAt.set {w : World} {g c : Nat} {L : List Nat} (h : RowAt w g c L) (k v : Nat) : RowAt (w.setCell ⟨g, k, none⟩ (.int .i64 v)) g c (L.set k v) := by
  obtain ⟨cur, h1, h2, h3, h4, h5⟩ := h
  refine ⟨cur.setIfInBounds k (.int .i64 v), ?_, by rw [List.length_set]; exact h2, h3, by simpa using h4, ?_⟩
  · simp only [World.setCell, Array.getElem?_modify, h1]
    simp
  · rw [List.length_set, Array.toList_setIfInBounds, List.take_set, h5]
    simp [icells, List.map_set]
theorem RowAt.only {w w2 : World} {g g2 c : Nat} {L : List Nat} (h : RowAt w g c L) (k : Only g2 w w2) (hg : g ≠ g2) : RowAt w2 g c L := by
  obtain ⟨cur, h1, h2⟩ := h
  exact ⟨cur, (k.block g hg (lt_blk h1)).trans h1, h2⟩
theorem RowAt.below {w w2 : World} {n g c : Nat} {L : List Nat} (h : RowAt w g c L) (k : Below n w w2) (hg : g < n) : RowAt w2 g c L := by
  obtain ⟨cur, h1, h2⟩ := h
  exact ⟨cur, below_blk k h1 hg, h2⟩
theorem RowAt.lt {w : World} {g c : Nat} {L : List Nat} (h : RowAt w g c L) : g < w.heap.size := by
  obtain ⟨cur, h1, _⟩ := h
  exact lt_blk h1
theorem RowAt.own {w : World} {g c base : Nat} {L : List Nat} (h : RowAt w g c L) (hb : base ≤ g) : OwnL base w (.slice (some ⟨g, 0, none⟩) L.length c) L := by
  obtain ⟨cur, h1, h2, h3, h4, h5⟩ := h
  exact ⟨by rw [icells_len]; omega, .inr ⟨g, c, cur, rfl, hb, h1, h2, h3, h4, h5⟩⟩
theorem RowAt.limbs {w : World} {g c : Nat} {L : List Nat} (h : RowAt w g c L) : LimbAt w.heap.size w (.slice (some ⟨g, 0, none⟩) L.length c) L := (h.own (Nat.zero_le _)).at_
theorem OwnL.row {base : Nat} {w : World} {v : Value} {L : List Nat} (h : OwnL base w v L) (h0 : L ≠ []) : ∃ g c, v = .slice (some ⟨g, 0, none⟩) L.length c ∧ base ≤ g ∧ RowAt w g c L := by
  rcases h.2 with ⟨_, h2⟩ | ⟨g, cap, cur, hv, h1, h2, h3, h4, h5, h6⟩
  · exact absurd (List.eq_nil_of_length_eq_zero h2) h0
  · exact ⟨g, cap, hv, h1, cur, h2, h3, h4, h5, h6⟩

def TakeRes (g c : Nat) (L V : List Nat) (j q n : Nat) (w : World) (e : Ending) (w' : World) : Prop := ∃ (C : Nat) (M : List Nat), e = .returned (.bool (decide (0 < C))) ∧ Only g w w' ∧ RowAt w' g c M ∧ Lt 1000000000 M ∧ WinEq j (n + 1) L M ∧
  lvT 1000000000 (M.drop j) (n + 1) + q * lv 1000000000 V = lvT 1000000000 (L.drop j) (n + 1) + 1000000000 ^ (n + 1) * C
def RestRes (g c : Nat) (L V : List Nat) (j q n N : Nat) (w : World) (e : Ending) (w' : World) : Prop := ∃ (C : Nat) (M : List Nat), e = .returned (.slice (some ⟨g, 0, none⟩) N c) ∧ Only g w w' ∧ RowAt w' g c M ∧ Lt 1000000000 M ∧ WinEq j (n + 1) L M ∧
  lvT 1000000000 (M.drop j) (n + 1) + 1000000000 ^ (n + 1) * C = lvT 1000000000 (L.drop j) (n + 1) + q * lv 1000000000 V
theorem take_nums {X C p : Nat} (hX : X < 1000000000) (hC : C < 1000000000) (hp : p ≤ 999999998000000001) (h : X < C + p) :
    ∃ m C2 R : Nat, (X : Int) - (C : Int) - (p : Int) = -(m : Int) ∧ ((m : Int) + 1000000000 - 1) / 1000000000 = (C2 : Int) ∧ (0 : Int) < (m : Int) ∧ (m : Int) ≤ 999999999000000000 ∧ (C2 : Int) < 1000000000 ∧
      IntKind.i64.wrap (-(m : Int) + (C2 : Int) * 1000000000) = (R : Int) ∧ R < 1000000000 ∧ R + C + p = X + 1000000000 * C2 := by
  obtain ⟨m, hm⟩ : ∃ m, m = C + p - X := ⟨_, rfl⟩
  obtain ⟨C2, hC2⟩ : ∃ C2, C2 = (m + 999999999) / 1000000000 := ⟨_, rfl⟩
  have h1 := Nat.div_add_mod (m + 999999999) 1000000000
  have h2 := Nat.mod_lt (m + 999999999) (show 0 < 1000000000 by omega)
  rw [← hC2] at h1
  have e : ((m : Int) + 1000000000 - 1) / 1000000000 = (C2 : Int) := by
    omega
  clear hC2
  obtain ⟨s, hs⟩ : ∃ s, s = (m + 999999999) % 1000000000 := ⟨_, rfl⟩
  rw [← hs] at h1 h2
  clear hs
  exact ⟨m, C2, C2 * 1000000000 - m, by omega, e, by omega, by omega, by omega, by rw [IntWalk.i64_in _ (by omega)]; omega, by omega, by omega⟩
theorem take_any (g c : Nat) (L : List Nat) (gv cv : Nat) (V : List Nat) (j q : Nat) (w : World) (hL : RowAt w g c L) (hV : RowAt w gv cv V) (hne : gv ≠ g) (hl : Lt 1000000000 L) (hv : Lt 1000000000 V) (hj : j + V.length + 1 ≤ L.length) (hq : q < 1000000000) (lL : L.length ≤ 200000) :
    Calls Tryz.prog 241 #[.slice (some ⟨g, 0, none⟩) L.length c, .slice (some ⟨gv, 0, none⟩) V.length cv, .int .i64 j, .int .i64 q] w (TakeRes g c L V j q V.length w) := by
  obtain ⟨N, hN⟩ : ∃ N, N = L.length := ⟨_, rfl⟩
  obtain ⟨n, hn⟩ : ∃ n, n = V.length := ⟨_, rfl⟩
  have HV := hide hV; have HL := hide hL; have LV := hide hv; have LL := hide hl; have HN := hide hN; have HNV := hide hn
  rw [← hN] at hj lL ⊢
  rw [← hn] at hj ⊢
  have hne2 := hide hne
  clear hV hL hv hl hN hn hne
  go_enter Tryz.func241, Tryz.ntmps241
  go_wp2_with fail
  go_loopw [9, 15] (fun cc i wr => ∃ (k C : Nat), k ≤ n + 1 ∧ i = .int .i64 k ∧ cc = .int .i64 C ∧ C < 1000000000 ∧ Hid (∃ M : List Nat, Only g w wr ∧ RowAt wr g c M ∧ Lt 1000000000 M ∧ WinEq j (n + 1) L M ∧ M.drop (j + k) = L.drop (j + k) ∧ lvT 1000000000 (M.drop j) k + q * lvT 1000000000 V k = lvT 1000000000 (L.drop j) k + 1000000000 ^ k * C)) (fun _ i _ => n + 1 - (intOf i).toNat)
  case atStart =>
    refine ⟨0, 0, Nat.zero_le _, rfl, rfl, by omega, L, Only.refl _ _, HL.out, LL.out, WinEq.refl _ _ _, rfl, ?_⟩
    show 0 + q * 0 = 0 + 1000000000 ^ 0 * 0
    rw [Nat.mul_zero, Nat.mul_zero]
  case round =>
    obtain ⟨k, C, hk, rfl, rfl, hC, hin⟩ := hrel
    obtain ⟨M, hO, hR, hM, hW, hD, hval⟩ := hin.out
    by_cases hlt : k < n + 1
    · have e4 : (k : Int) < (n : Int) + 1 := by omega
      have hMl : M.length = N := hW.len.trans HN.out.symm
      have hjk : j + k < M.length := by omega
      have q1 := hR.cell hjk
      have q2 := hR.froz (j + k)
      have hlk := lat_lt (by omega) hM (j + k)
      have hyk := lat_lt (by omega) LV.out k
      have hlim := hide (fun m : Nat => limb_same (.slice (some ⟨gv, 0, none⟩) n cv) V k wr.heap.size (wr.drewN m) (by rw [HNV.out]; exact (RowAt.limbs (w := wr.drewN m) (HV.out.only (hO.drewN m) hne2.out))) (by omega))
      obtain ⟨Y, hY⟩ : ∃ Y, Y = lat V k := ⟨_, rfl⟩
      obtain ⟨X, hX⟩ : ∃ X, X = lat M (j + k) := ⟨_, rfl⟩
      rw [← hY] at hyk hlim
      rw [← hX] at hlk q1
      have hm := mul_lt_sq hq hyk
      obtain ⟨p, hp⟩ : ∃ p, p = q * Y := ⟨_, rfl⟩
      have hpi : (q : Int) * (Y : Int) = (p : Int) := by rw [hp, Int.natCast_mul]
      rw [← hp] at hm
      have w0 : IntKind.i64.wrap ((j : Int) + (k : Int)) = (j : Int) + (k : Int) := IntWalk.i64_in _ (by omega)
      have w1 : IntKind.i64.wrap ((X : Int) - (C : Int)) = (X : Int) - (C : Int) := IntWalk.i64_in _ (by omega)
      have w2 : IntKind.i64.wrap (p : Int) = (p : Int) := IntWalk.i64_in _ (by omega)
      have j0 : (0 : Int) ≤ (j : Int) + (k : Int) := by omega
      have j1 : (j : Int) + (k : Int) < (N : Int) := by omega
      have j2 : ((j : Int) + (k : Int)).toNat = j + k := by omega
      have HO := hide hO; have HR := hide hR; have HM := hide hM; have HW := hide hW; have HD := hide hD; have HVL := hide hval; have HY := hide hY; have HX := hide hX; have HP := hide hp; have HJK := hide hjk
      clear hO hR hM hW hD hval hY hX hp hjk hMl hin
      by_cases hneg : X < C + p
      · obtain ⟨m, C2, R, f1, d1, m1, m2, c1, hrr, hRl, hs⟩ := take_nums hlk hC hm hneg
        have w3 : IntKind.i64.wrap ((X : Int) - (C : Int) - (p : Int)) = -(m : Int) := by rw [f1]; exact IntWalk.i64_in _ (by omega)
        have HS := hide hs
        have t1 : 0 < m := by omega
        clear f1 hs hneg hm
        go_wp2_with fail
        go_quiet ((go_at_call 221; exact Calls.quiet_of_same (hlim.out _)))
        have D1 := hide d1; have CB := hide c1
        clear w1 w2 w3 hpi hlim
        go_wp2_with fail
        go_roundw
        case rel =>
          refine ⟨k + 1, C2, by omega, by go_num, by rw [D1.out], by have := CB.out; omega, M.set (j + k) R, (HO.out.drewN nq).set _ _, RowAt.set (w := wr.drewN nq) HR.out _ _, lt_set HM.out hRl, HW.out.set (by omega) _, drop_set_next HD.out, ?_⟩
          rw [win_set HJK.out, lvT_succ, lvT_succ, lat_drop, ← HY.out, ← win_keep HD.out, ← HX.out]
          exact take_step HVL.out (by rw [← HP.out]; exact HS.out)
        case measure => simp [intOf]; omega
      · obtain ⟨R, hR2⟩ : ∃ R, R = X - (C + p) := ⟨_, rfl⟩
        have w3 : IntKind.i64.wrap ((X : Int) - (C : Int) - (p : Int)) = (R : Int) := by rw [IntWalk.i64_in _ (by omega)]; omega
        have HS := hide (show R + C + p = X + 1000000000 * 0 by omega)
        have hRl : R < 1000000000 := by omega
        have t1 : ((R : Int) < 0) = False := eq_false (by omega)
        clear hR2 hneg hm
        go_wp2_with fail
        go_quiet ((go_at_call 221; exact Calls.quiet_of_same (hlim.out _)))
        clear w1 w2 w3 hpi hlim
        go_wp2_with fail
        go_roundw
        case rel =>
          refine ⟨k + 1, 0, by omega, by go_num, rfl, by omega, M.set (j + k) R, (HO.out.drewN nq).set _ _, RowAt.set (w := wr.drewN nq) HR.out _ _, lt_set HM.out hRl, HW.out.set (by omega) _, drop_set_next HD.out, ?_⟩
          rw [win_set HJK.out, lvT_succ, lvT_succ, lat_drop, ← HY.out, ← win_keep HD.out, ← HX.out]
          exact take_step HVL.out (by rw [← HP.out]; exact HS.out)
        case measure => simp [intOf]; omega
    · obtain rfl : k = n + 1 := by omega
      have e4 : ¬ (((n + 1 : Nat) : Int) < (n : Int) + 1) := by omega
      have HF := hide (show ∃ M : List Nat, Only g w wr ∧ RowAt wr g c M ∧ Lt 1000000000 M ∧ WinEq j (n + 1) L M ∧ lvT 1000000000 (M.drop j) (n + 1) + q * lv 1000000000 V = lvT 1000000000 (L.drop j) (n + 1) + 1000000000 ^ (n + 1) * C from ⟨M, hO, hR, hM, hW, by rw [lvT_all (l := V) (by have := HNV.out; omega)] at hval; exact hval⟩)
      clear hO hR hM hW hD hval hin
      go_wp2_with fail
      go_ret
      obtain ⟨M, f1, f2, f3, f4, f5⟩ := HF.out
      exact ⟨C, M, rfl, f1, f2, f3, f4, f5⟩
theorem rest_nums {X C p : Nat} (hX : X < 1000000000) (hC : C < 1000000000) (hp : p ≤ 999999998000000001) :
    ∃ t C2 R : Nat, (X : Int) + (p : Int) + (C : Int) = (t : Int) ∧ IntKind.i64.wrap ((X : Int) + (p : Int)) = (X : Int) + (p : Int) ∧ IntKind.i64.wrap ((X : Int) + (p : Int) + (C : Int)) = (t : Int) ∧ (t : Int) / 1000000000 = (C2 : Int) ∧ (t : Int) % 1000000000 = (R : Int) ∧ t ≤ 1000000000000000000 ∧ C2 < 1000000000 ∧ R < 1000000000 ∧ X + p + C = R + 1000000000 * C2 := by
  have h1 := Nat.div_add_mod (X + p + C) 1000000000
  have h2 := Nat.mod_lt (X + p + C) (show 0 < 1000000000 by omega)
  refine ⟨X + p + C, (X + p + C) / 1000000000, (X + p + C) % 1000000000, by omega, IntWalk.i64_in _ (by omega), ?_, by omega, by omega, by omega, by omega, h2, by omega⟩
  rw [IntWalk.i64_in _ (by omega)]
  omega
theorem restore_any (g c : Nat) (L : List Nat) (gv cv : Nat) (V : List Nat) (j q : Nat) (w : World) (hL : RowAt w g c L) (hV : RowAt w gv cv V) (hne : gv ≠ g) (hl : Lt 1000000000 L) (hv : Lt 1000000000 V) (hj : j + V.length + 1 ≤ L.length) (hq : q < 1000000000) (lL : L.length ≤ 200000) :
    Calls Tryz.prog 242 #[.slice (some ⟨g, 0, none⟩) L.length c, .slice (some ⟨gv, 0, none⟩) V.length cv, .int .i64 j, .int .i64 q] w (RestRes g c L V j q V.length L.length w) := by
  obtain ⟨N, hN⟩ : ∃ N, N = L.length := ⟨_, rfl⟩
  obtain ⟨n, hn⟩ : ∃ n, n = V.length := ⟨_, rfl⟩
  have HV := hide hV; have HL := hide hL; have LV := hide hv; have LL := hide hl; have HN := hide hN; have HNV := hide hn
  rw [← hN] at hj lL ⊢
  rw [← hn] at hj ⊢
  have hne2 := hide hne
  clear hV hL hv hl hN hn hne
  go_enter Tryz.func242, Tryz.ntmps242
  go_wp2_with fail
  go_loopw [9, 15] (fun cc i wr => ∃ (k C : Nat), k ≤ n + 1 ∧ i = .int .i64 k ∧ cc = .int .i64 C ∧ C < 1000000000 ∧ Hid (∃ M : List Nat, Only g w wr ∧ RowAt wr g c M ∧ Lt 1000000000 M ∧ WinEq j (n + 1) L M ∧ M.drop (j + k) = L.drop (j + k) ∧ lvT 1000000000 (M.drop j) k + 1000000000 ^ k * C = lvT 1000000000 (L.drop j) k + q * lvT 1000000000 V k)) (fun _ i _ => n + 1 - (intOf i).toNat)
  case atStart =>
    refine ⟨0, 0, Nat.zero_le _, rfl, rfl, by omega, L, Only.refl _ _, HL.out, LL.out, WinEq.refl _ _ _, rfl, ?_⟩
    show 0 + 1000000000 ^ 0 * 0 = 0 + q * 0
    rw [Nat.mul_zero, Nat.mul_zero]
  case round =>
    obtain ⟨k, C, hk, rfl, rfl, hC, hin⟩ := hrel
    obtain ⟨M, hO, hR, hM, hW, hD, hval⟩ := hin.out
    by_cases hlt : k < n + 1
    · have e4 : (k : Int) < (n : Int) + 1 := by omega
      have hMl : M.length = N := hW.len.trans HN.out.symm
      have hjk : j + k < M.length := by omega
      have q1 := hR.cell hjk
      have q2 := hR.froz (j + k)
      have hlk := lat_lt (by omega) hM (j + k)
      have hyk := lat_lt (by omega) LV.out k
      have hlim := hide (fun m : Nat => limb_same (.slice (some ⟨gv, 0, none⟩) n cv) V k wr.heap.size (wr.drewN m) (by rw [HNV.out]; exact (RowAt.limbs (w := wr.drewN m) (HV.out.only (hO.drewN m) hne2.out))) (by omega))
      obtain ⟨Y, hY⟩ : ∃ Y, Y = lat V k := ⟨_, rfl⟩
      obtain ⟨X, hX⟩ : ∃ X, X = lat M (j + k) := ⟨_, rfl⟩
      rw [← hY] at hyk hlim
      rw [← hX] at hlk q1
      have hm := mul_lt_sq hq hyk
      obtain ⟨p, hp⟩ : ∃ p, p = q * Y := ⟨_, rfl⟩
      have hpi : (q : Int) * (Y : Int) = (p : Int) := by rw [hp, Int.natCast_mul]
      rw [← hp] at hm
      have w0 : IntKind.i64.wrap ((j : Int) + (k : Int)) = (j : Int) + (k : Int) := IntWalk.i64_in _ (by omega)
      have w2 : IntKind.i64.wrap (p : Int) = (p : Int) := IntWalk.i64_in _ (by omega)
      obtain ⟨t, C2, R, -, w1, w3, d1, d2, ht, hC2, hRl, hs⟩ := rest_nums hlk hC hm
      have j0 : (0 : Int) ≤ (j : Int) + (k : Int) := by omega
      have j1 : (j : Int) + (k : Int) < (N : Int) := by omega
      have j2 : ((j : Int) + (k : Int)).toNat = j + k := by omega
      have HO := hide hO; have HR := hide hR; have HM := hide hM; have HW := hide hW; have HD := hide hD; have HVL := hide hval; have HY := hide hY; have HX := hide hX; have HP := hide hp; have HJK := hide hjk; have HS := hide hs
      clear hO hR hM hW hD hval hY hX hp hjk hMl hin hs hm
      go_wp2_with fail
      go_quiet ((go_at_call 221; exact Calls.quiet_of_same (hlim.out _)))
      clear w1 w2 w3 hpi hlim
      go_wp2_with fail
      go_roundw
      case rel =>
        refine ⟨k + 1, C2, by omega, by go_num, by first | rfl | rw [d1], hC2, M.set (j + k) R, (HO.out.drewN nq).set _ _, RowAt.set (w := wr.drewN nq) HR.out _ _, lt_set HM.out hRl, HW.out.set (by omega) _, drop_set_next HD.out, ?_⟩
        rw [win_set HJK.out, lvT_succ, lvT_succ, lat_drop, ← HY.out, ← win_keep HD.out, ← HX.out]
        exact rest_step HVL.out (by rw [← HP.out]; exact HS.out)
      case measure => simp [intOf]; omega
    · obtain rfl : k = n + 1 := by omega
      have e4 : ¬ (((n + 1 : Nat) : Int) < (n : Int) + 1) := by omega
      have HF := hide (show ∃ M : List Nat, Only g w wr ∧ RowAt wr g c M ∧ Lt 1000000000 M ∧ WinEq j (n + 1) L M ∧ lvT 1000000000 (M.drop j) (n + 1) + 1000000000 ^ (n + 1) * C = lvT 1000000000 (L.drop j) (n + 1) + q * lv 1000000000 V from ⟨M, hO, hR, hM, hW, by rw [lvT_all (l := V) (by have := HNV.out; omega)] at hval; exact hval⟩)
      clear hO hR hM hW hD hval hin
      go_wp2_with fail
      go_ret
      obtain ⟨M, f1, f2, f3, f4, f5⟩ := HF.out
      exact ⟨C, M, rfl, f1, f2, f3, f4, f5⟩
def EstRes (S W : Nat) (w : World) (e : Ending) (w' : World) : Prop := ∃ q : Nat, e = .returned (.int .i64 q) ∧ q < 1000000000 ∧ S < (q + 1) * W ∧ Below w.heap.size w w'
theorem est_nums {x0 x1 : Nat} (h0 : x0 < 1000000000) (h1 : x1 < 1000000000) : ((x0 : Int) * 1000000000 + (x1 : Int) = ((x0 * 1000000000 + x1 : Nat) : Int)) ∧ x0 * 1000000000 + x1 < 1000000000000000000 := by omega
theorem estimate_any (g c : Nat) (L : List Nat) (gv cv : Nat) (V : List Nat) (j m : Nat) (w : World) (hL : RowAt w g c L) (hV : RowAt w gv cv V) (hl : Lt 1000000000 L) (hv : Norm 1000000000 V) (hm : V.length = m + 2) (hj : j + (m + 2) < L.length) (lL : L.length ≤ 200000) (hs : lv 1000000000 (L.drop (j + 1)) < lv 1000000000 V) :
    Calls Tryz.prog 240 #[.slice (some ⟨g, 0, none⟩) L.length c, .slice (some ⟨gv, 0, none⟩) V.length cv, .int .i64 j] w (EstRes (lvT 1000000000 (L.drop j) (m + 3)) (lv 1000000000 V) w) := by
  have HI := hide (EstIn.of (by omega) hl hv hm hj hs).1
  have c0 := hide (fun w' (hb : Below w.heap.size w w') => (hL.below hb hL.lt).cell (i := j + (m + 2)) hj)
  have c1 := hide (fun w' (hb : Below w.heap.size w w') => (hL.below hb hL.lt).cell (i := j + (m + 1)) (by omega))
  have c2 := hide (fun w' (hb : Below w.heap.size w w') => (hL.below hb hL.lt).cell (i := j + m) (by omega))
  have d1 := hide (fun w' (hb : Below w.heap.size w w') => (hV.below hb hV.lt).cell (i := m + 1) (by omega))
  have d2 := hide (fun w' (hb : Below w.heap.size w w') => (hV.below hb hV.lt).cell (i := m) (by omega))
  obtain ⟨x0, hx0⟩ : ∃ x, x = lat L (j + (m + 2)) := ⟨_, rfl⟩
  obtain ⟨x1, hx1⟩ : ∃ x, x = lat L (j + (m + 1)) := ⟨_, rfl⟩
  obtain ⟨u0, hu0⟩ : ∃ x, x = lat L (j + m) := ⟨_, rfl⟩
  obtain ⟨v1, hv1⟩ : ∃ x, x = lat V (m + 1) := ⟨_, rfl⟩
  obtain ⟨v2, hv2⟩ : ∃ x, x = lat V m := ⟨_, rfl⟩
  have b0 : x0 < 1000000000 := by rw [hx0]; exact lat_lt (by omega) hl _
  have b1 : x1 < 1000000000 := by rw [hx1]; exact lat_lt (by omega) hl _
  have b2 : u0 < 1000000000 := by rw [hu0]; exact lat_lt (by omega) hl _
  have b3 : v1 < 1000000000 := by rw [hv1]; exact lat_lt (by omega) hv.lt _
  have b4 : v2 < 1000000000 := by rw [hv2]; exact lat_lt (by omega) hv.lt _
  rw [← hx0, ← hx1, ← hu0, ← hv1, ← hv2] at HI
  rw [← hx0] at c0
  rw [← hx1] at c1
  rw [← hu0] at c2
  rw [← hv1] at d1
  rw [← hv2] at d2
  obtain ⟨N, hN⟩ : ∃ N, N = L.length := ⟨_, rfl⟩
  rw [← hN] at hj lL ⊢
  rw [hm]
  obtain ⟨S, hS⟩ : ∃ S, S = lvT 1000000000 (L.drop j) (m + 3) := ⟨_, rfl⟩
  obtain ⟨W, hW⟩ : ∃ W, W = lv 1000000000 V := ⟨_, rfl⟩
  rw [← hS, ← hW] at HI ⊢
  have hvp : 0 < v1 := HI.out.pos
  have hst := HI.out.start
  obtain ⟨eT, hTl⟩ := est_nums b0 b1
  obtain ⟨T, hT⟩ : ∃ T, T = x0 * 1000000000 + x1 := ⟨_, rfl⟩
  have HDn := hide (fun q r => HI.out.down (q := q) (r := r))
  have HSt := hide (fun q r => HI.out.stop (q := q) (r := r))
  rw [← hT] at hst eT hTl HDn HSt
  obtain ⟨q0, hq0⟩ : ∃ q, q = T / v1 := ⟨_, rfl⟩
  obtain ⟨r0, hr0⟩ : ∃ r, r = T % v1 := ⟨_, rfl⟩
  have hrl : r0 < v1 := by rw [hr0]; exact Nat.mod_lt _ hvp
  have eq0 : (T : Int) / (v1 : Int) = (q0 : Int) := by rw [hq0, Int.natCast_ediv]
  have er0 : (T : Int) % (v1 : Int) = (r0 : Int) := by rw [hr0, Int.natCast_emod]
  rw [← hq0, ← hr0] at hst
  obtain ⟨hst, hq0l⟩ := hst
  have HS0 := hide hst
  have hv0 : ((v1 : Int) == 0) = false := by
    have : (v1 : Int) ≠ 0 := by omega
    simpa using this
  obtain ⟨a0, ha0⟩ : ∃ a : Nat, a = j + (m + 2) := ⟨_, rfl⟩
  obtain ⟨a1, ha1⟩ : ∃ a : Nat, a = j + (m + 1) := ⟨_, rfl⟩
  obtain ⟨a2, ha2⟩ : ∃ a : Nat, a = j + m := ⟨_, rfl⟩
  obtain ⟨n, hn⟩ : ∃ n : Nat, n = m + 2 := ⟨_, rfl⟩
  obtain ⟨b, hb⟩ : ∃ b : Nat, b = m + 1 := ⟨_, rfl⟩
  rw [← ha0] at c0 hj
  rw [← ha1] at c1
  rw [← ha2] at c2
  rw [← hb] at d1
  rw [← hn]
  have e0 : (j : Int) + (n : Int) = (a0 : Int) := by omega
  have e1 : (a0 : Int) - 1 = (a1 : Int) := by omega
  have e2 : (a0 : Int) - 2 = (a2 : Int) := by omega
  have e3 : (n : Int) - 1 = (b : Int) := by omega
  have e4 : (n : Int) - 2 = (m : Int) := by omega
  have f0 : (a0 : Int) < (N : Int) := by omega
  have f1 : (a1 : Int) < (N : Int) := by omega
  have f2 : (a2 : Int) < (N : Int) := by omega
  have f3 : (b : Int) < (n : Int) := by omega
  have f4 : (m : Int) < (n : Int) := by omega
  have f5 : (n : Int) ≤ 200000 := by omega
  have hvp2 : (0 : Int) < (v1 : Int) := by omega
  clear hL hV hl hv hm hs hx0 hx1 hu0 hv1 hv2 hN hS hW hT hq0 hr0 hst ha0 ha1 ha2 hn hb
  have q1 := c0.out w (Below.refl _ _)
  have q2 := c1.out w (Below.refl _ _)
  have q3 := d1.out w (Below.refl _ _)
  go_enter Tryz.func240, Tryz.ntmps240
  go_wp2_with fail
  go_quiet (fail)
  have HB1 := hide (below_drewN (Below.refl w.heap.size w) nq)
  go_wp2_with fail
  go_quiet (fail)
  have HB2 := hide (below_drewN HB1.out nq)
  clear HB1
  go_wp2_with fail
  go_loopw [9, 10] (fun qq rr wr => ∃ q r : Nat, qq = .int .i64 q ∧ rr = .int .i64 r ∧ r < 1000000000 ∧ q < 2000000000 ∧ Hid (EstAt v1 T S W q r ∧ Below w.heap.size w wr)) (fun qq _ _ => (intOf qq).toNat)
  case atStart => exact ⟨q0, r0, rfl, by rw [er0], by omega, by omega, HS0.out, HB2.out⟩
  case round =>
    obtain ⟨q, r, rfl, rfl, hr, hq, hin⟩ := hrel
    have HA := hide hin.out.1; have HB := hide hin.out.2
    clear hin
    have q3 := d1.out wr HB.out
    have q4 := d2.out wr HB.out
    have q5 := c2.out wr HB.out
    by_cases hge : 1000000000 ≤ q
    · have g1 : (1000000000 : Int) ≤ (q : Int) := by omega
      go_wp2_with fail
      go_quiet (fail)
      have HB := hide (below_drewN HB.out nq)
      go_wp2_with fail
      have hq1 : 1 ≤ q := by omega
      have HA2 := hide (HDn.out q r HA.out (.inl hge) hq1)
      have hqi : (1 : Int) ≤ (q : Int) := by omega
      have w5 : (q : Int) - 1 = ((q - 1 : Nat) : Int) := by omega
      obtain ⟨q2, hq2⟩ : ∃ q2, q2 = q - 1 := ⟨_, rfl⟩
      rw [← hq2] at HA2 w5
      have hql2 : q2 < q := by omega
      obtain ⟨r2, hr2⟩ : ∃ r2, r2 = r + v1 := ⟨_, rfl⟩
      rw [← hr2] at HA2
      have w6 : (r : Int) + (v1 : Int) = (r2 : Int) := by omega
      have hrl2 : r2 < 2000000000 := by omega
      clear hq2 hr2
      by_cases hb : 1000000000 ≤ r2
      · have g3 : (1000000000 : Int) ≤ (r2 : Int) := by omega
        have HX := hide (HSt.out q2 r2 HA2.out hb)
        clear hb
        go_wp2_with fail
        go_quiet (fail)
        have HB := hide (below_drewN HB.out nq)
        go_wp2_with fail
        go_ret
        exact ⟨q2, by first | rfl | rw [w5], HX.out, HA2.out.2, HB.out.os, HB.out.tape, HB.out.output, HB.out.size, HB.out.block⟩
      · have g3 : ((1000000000 : Int) ≤ (r2 : Int)) = False := eq_false (by omega)
        go_wp2_with fail
        go_quiet (fail)
        have HB := hide (below_drewN HB.out nq)
        go_wp2_with fail
        go_roundw
        case rel => exact ⟨q2, r2, by first | rfl | rw [w5], by first | rfl | rw [w6], by omega, by omega, HA2.out, HB.out.os, HB.out.tape, HB.out.output, HB.out.size, HB.out.block⟩
        case measure => simp [intOf]; omega
    · have g1 : ((1000000000 : Int) ≤ (q : Int)) = False := eq_false (by omega)
      have g2 : (r : Int) < 1000000000 := by omega
      have hpm := mul_lt_sq (x := q) (y := v2) (by omega) b4
      obtain ⟨p, hp⟩ : ∃ p, p = q * v2 := ⟨_, rfl⟩
      have hpi : (q : Int) * (v2 : Int) = (p : Int) := by rw [hp, Int.natCast_mul]
      have HP := hide hp
      rw [← hp] at hpm
      by_cases hc : r * 1000000000 + u0 < p
      · have g4 : (r : Int) * 1000000000 + (u0 : Int) < (p : Int) := by omega
        clear hp
        go_wp2_with fail
        go_quiet (fail)
        have HB := hide (below_drewN HB.out nq)
        go_wp2_with fail
        have hq1 : 1 ≤ q := by rcases Nat.eq_zero_or_pos q with h0 | h0; exact absurd hc (by rw [HP.out, h0, Nat.zero_mul]; omega); exact h0
        have HA2 := hide (HDn.out q r HA.out (.inr (by rw [← HP.out]; exact hc)) hq1)
        have hqi : (1 : Int) ≤ (q : Int) := by omega
        have w5 : (q : Int) - 1 = ((q - 1 : Nat) : Int) := by omega
        obtain ⟨q2, hq2⟩ : ∃ q2, q2 = q - 1 := ⟨_, rfl⟩
        rw [← hq2] at HA2 w5
        have hql2 : q2 < q := by omega
        obtain ⟨r2, hr2⟩ : ∃ r2, r2 = r + v1 := ⟨_, rfl⟩
        rw [← hr2] at HA2
        have w6 : (r : Int) + (v1 : Int) = (r2 : Int) := by omega
        have hrl2 : r2 < 2000000000 := by omega
        clear hq2 hr2
        by_cases hb : 1000000000 ≤ r2
        · have g3 : (1000000000 : Int) ≤ (r2 : Int) := by omega
          have HX := hide (HSt.out q2 r2 HA2.out hb)
          clear hb
          go_wp2_with fail
          go_quiet (fail)
          have HB := hide (below_drewN HB.out nq)
          go_wp2_with fail
          go_ret
          exact ⟨q2, by first | rfl | rw [w5], HX.out, HA2.out.2, HB.out.os, HB.out.tape, HB.out.output, HB.out.size, HB.out.block⟩
        · have g3 : ((1000000000 : Int) ≤ (r2 : Int)) = False := eq_false (by omega)
          go_wp2_with fail
          go_quiet (fail)
          have HB := hide (below_drewN HB.out nq)
          go_wp2_with fail
          go_roundw
          case rel => exact ⟨q2, r2, by first | rfl | rw [w5], by first | rfl | rw [w6], by omega, by omega, HA2.out, HB.out.os, HB.out.tape, HB.out.output, HB.out.size, HB.out.block⟩
          case measure => simp [intOf]; omega
      · have g4 : ((r : Int) * 1000000000 + (u0 : Int) < (p : Int)) = False := eq_false (by omega)
        clear hp
        go_wp2_with fail
        go_quiet (fail)
        have HB := hide (below_drewN HB.out nq)
        go_wp2_with fail
        go_ret
        exact ⟨q, rfl, by omega, HA.out.2, HB.out⟩
end Go.Proofs.YtklgpilgalfckaaGreatDoor
namespace Go.KP
open Go

section
variable {P : Program} {C : World → Prop}
def marksAt (n m : Nat) : Array Bool := padded (Array.replicate n true) m
theorem wp_only {o : Oper} {a : Act} {w : World} {K K' : Act → World → Prop} {Q Q' : Exit → Act → World → Prop} (hK : ∀ a w, K a w → K' a w) (hQ : ∀ e a w, e ≠ .normal → ¬ Q e a w) (hL : ¬ LetsOut Q) (h : o.wp P a w K Q) : o.wp P a w K' Q' := by
  unfold Oper.wp at *
  generalize (execOp a.eval o).run P w = r at *
  cases r with
  | ok n w' =>
    cases n <;> simp only [Oper.upon] at h ⊢ <;>
      first
        | exact hK _ _ h
        | (refine Calls.mono h (fun e w'' he => ?_)
           cases e
           · exact hK _ _ he
           · exact (hQ _ _ _ (by simp) he).elim
           · exact (hL he).elim)
        | exact Rows.mono h (fun _ _ he => hK _ _ he)
  | halt x w' => cases x <;> simp only [Oper.upon] at h ⊢ <;> exact (hQ _ _ _ (by simp) h).elim
theorem wpAny_one {Q : Exit → Act → World → Prop} {l : List Oper} {n : Nat} {o : Oper} (ho : l[n]? = some o) (hr : Region.ready .any l.toArray (marksAt n (l.length - n)) = [n]) (hno : Region.noSelect l.toArray = true)
    (hlex : Region.lexFrom .any l.toArray (l.drop (n + 1)).length (n + 1) ((marksAt n (l.length - n)).setIfInBounds n true) = true) {a : Act} {w : World}
    (h : wpList P l.toArray (fun e a2 w2 => e = .normal ∧ ∃ D : World → Prop, D w2 ∧ wpQuiet P l.toArray D (fun a' => ∀ w', D w' → Q .normal a' w') (l.drop (n + 1)) a2) [o] a w) :
    wpAny P .any l.toArray Q ((l.drop (n + 1)).length + 1) (marksAt n (l.length - n)) a w := by
  refine ⟨fun h0 => (by rw [hr] at h0; cases h0), fun i hi => ?_⟩
  rw [hr] at hi
  obtain rfl : i = n := by simpa using hi
  have hnext : ∀ a' w', wpList P l.toArray (fun e a2 w2 => e = .normal ∧ ∃ D : World → Prop, D w2 ∧ wpQuiet P l.toArray D (fun a' => ∀ w', D w' → Q .normal a' w') (l.drop (i + 1)) a2) [] a' w' →
      wpAny P .any l.toArray Q (l.drop (i + 1)).length ((marksAt i (l.length - i)).setIfInBounds i true) a' w' := by
    rintro a' w' ⟨_, D, hD, hq⟩
    exact wpAny_of_quiet (C := D) (Q := fun a' => ∀ w', D w' → Q .normal a' w') (fun _ w' hw h => h w' hw) _ _ _ _ hD (wpAnyQ_lex hno (l.drop (i + 1)) (i + 1) _ a' (fun j => by simp) hlex hq)
  unfold wpOp
  rw [List.getElem?_toArray, ho]
  unfold wpList at h
  by_cases hw : Region.wanted o (yielded l.toArray a.tmps) = true
  · simp only [hw, if_true] at h ⊢
    have hL : ¬ LetsOut (fun (e : Exit) (a2 : Act) (w2 : World) => e = .normal ∧ ∃ D : World → Prop, D w2 ∧ wpQuiet P l.toArray D (fun a' => ∀ w', D w' → Q .normal a' w') (l.drop (i + 1)) a2) := by
      rintro ⟨a2, w2, h, _⟩
      cases h
    rcases h with h | ⟨_, h⟩
    · exact .inl (wp_only hnext (fun e a2 w2 hne h => hne h.1) hL h)
    · exact (hL h).elim
  · simp only [hw] at h ⊢
    exact hnext _ _ h
theorem region_call {id : Nat} {Q : Exit → Act → World → Prop} {a : Act} {w : World} {l : List Oper} (n : Nat) (o : Oper) (hm : P.follows .mixedOrders = true) (hn : n ≤ l.length) (ho : l[n]? = some o) (hno : Region.noSelect l.toArray = true) (hno1 : Region.noSelect (l.take n).toArray = true)
    (hlex : Region.lexFrom .any (l.take n).toArray n 0 (Array.replicate n false) = true) (hg : gateB .any l 0 n = true) (hr : Region.ready .any l.toArray (marksAt n (l.length - n)) = [n])
    (hlex2 : Region.lexFrom .any l.toArray (l.drop (n + 1)).length (n + 1) ((marksAt n (l.length - n)).setIfInBounds n true) = true) (hC : C { w with drawn := w.drawn + 1 })
    (h : wpQuiet P (l.take n).toArray C (fun a' => ∀ w', C w' → wpList P l.toArray (fun e a2 w2 => e = .normal ∧ ∃ D : World → Prop, D w2 ∧ wpQuiet P l.toArray D (fun a' => ∀ w', D w' → Q .normal a' w') (l.drop (n + 1)) a2) [o] a' w') (l.take n) a) :
    (Code.region id l.toArray true).wp P Q a w := by
  refine wp_region_any hm ?_
  have hlt : (l.take n).length = n := by simp; omega
  have h1 := wpAnyQ_lex (P := P) (C := C) (md := .any) hno1 (l.take n) 0 (Array.replicate n false) a (by simp) (by rw [hlt]; exact hlex) h
  rw [hlt] at h1
  have hnl : n < l.length := (List.getElem?_eq_some_iff.1 ho).1
  have h2 := any_prefix (P := P) (C := C) (Q := Q) (f := (l.drop (n + 1)).length + 1)
    (Qf := fun a' => ∀ w', C w' → wpList P l.toArray (fun e a2 w2 => e = .normal ∧ ∃ D : World → Prop, D w2 ∧ wpQuiet P l.toArray D (fun a' => ∀ w', D w' → Q .normal a' w') (l.drop (n + 1)) a2) [o] a' w') hg hn (fun a2 w2 hw2 h3 => wpAny_one ho hr hno hlex2 (h3 w2 hw2))
    n (Array.replicate n false) a (by simp) (fun i j hi => by simp [Array.getD_eq_getD_getElem?, Array.getElem?_replicate] at hi; split at hi <;> simp at hi) (fun j hj => by omega) (by simp) h1 _ hC
  have e : padded (Array.replicate n false) (l.length - n) = Array.replicate l.toArray.size false := by
    unfold padded
    rw [Array.replicate_append_replicate]
    congr 1
    simp
    omega
  rw [e] at h2
  have e2 : n + ((l.drop (n + 1)).length + 1) = l.toArray.size := by simp; omega
  rwa [e2] at h2
end
open Go

def plainOp (o : Oper) : Bool := match o.op with
  | .move _ | .assign _ | .load _ _ | .binOp _ _ _ _ _ | .unOp _ _ _ | .indexAddr _ _ _ | .convert _ _ _ | .slice _ _ _ _ _ | .fieldAddr _ _ _ | .field _ _ _ | .index _ _ _ => true
  | _ => false
section
variable {P : Program} {md : Region.Mode}
theorem plain_value {o : Oper} (h : plainOp o = true) {ρ : Operand → Value} {w w' : World} {nx : Next} (hr : (execOp ρ o).run P w = .ok nx w') : ∃ v, nx = .value v := by
  have key : ∀ s : Sem Value, (do let x ← s; pure (Next.value x) : Sem Next).run P w = .ok nx w' → ∃ v, nx = .value v := by
    intro s hs
    simp only [Sem.run_bind, Sem.run_pure] at hs
    cases hx : s.run P w with
    | ok x w1 =>
      rw [hx] at hs
      simp only [Result.andThen] at hs
      injection hs with h1 h2
      exact ⟨x, h1.symm⟩
    | halt x w1 =>
      rw [hx] at hs
      simp only [Result.andThen] at hs
      cases hs
  unfold plainOp at h
  unfold execOp at hr
  cases ho : o.op <;> simp only [ho] at h hr <;> first | (cases h; done) | exact key _ hr | (simp only [Sem.run_pure] at hr; injection hr with h1 h2; exact ⟨_, h1.symm⟩)
theorem yieldsIf_of_quiet {o : Oper} {ops : Array Oper} {a : Act} {C : World → Prop} {K : Act → Prop} (hp : plainOp o = true) 
    (h : if Region.wanted o (yielded ops a.tmps) then o.quiet P a C K else K (a.put o.dst undef)) : ∃ v, YieldsIf P ops C o v a ∧ K (a.put o.dst v) := by
  by_cases hw : Region.wanted o (yielded ops a.tmps) = true
  · rw [if_pos hw] at h
    obtain ⟨v, hv, hk⟩ := h
    refine ⟨v, .inl ⟨hw, fun w hC => ?_⟩, hk⟩
    have h1 := hv w hC
    unfold Oper.quietAt at h1
    cases hr : (execOp a.eval o).run P w with
    | halt x w1 => rw [hr] at h1; cases x <;> exact h1.elim
    | ok nx w1 =>
      obtain ⟨u, rfl⟩ := plain_value hp hr
      rw [hr] at h1
      obtain ⟨e1, e2⟩ := h1
      rw [e1, e2]
  · rw [if_neg hw] at h
    exact ⟨undef, .inr ⟨by simpa using hw, rfl⟩, h⟩
def heldFrom (md : Region.Mode) (ops : Array Oper) : Nat → Nat → Array Bool → Bool
  | 0, _, _ => true
  | n + 1, k, L => (Region.ready md ops L).contains k && (Region.free md ops L k && heldFrom md ops n (k + 1) (L.setIfInBounds k true))
def marksOn : Nat → Nat → Array Bool → Array Bool
  | 0, _, L => L
  | n + 1, k, L => marksOn n (k + 1) (L.setIfInBounds k true)
theorem held_lex {ops : Array Oper} {Q : Exit → Act → World → Prop} {S : World → Prop} {Qf : Act → Prop} {w : World} {f : Nat} (hs : Region.noSelect ops = true) (hQ : ∀ c a w, ¬ Q (.panic c) a w) (hS : S w) :
    ∀ (r : List Oper) (k : Nat) (L : Array Bool) (a : Act), (∀ j, j < r.length → r[j]? = ops[k + j]?) → r.all plainOp = true → heldFrom md ops r.length k L = true → wpQuiet P ops S Qf r a →
      (∀ a', Qf a' → wpAnyH P md ops Q S f (marksOn r.length k L) a' w) → wpAnyH P md ops Q S (r.length + f) L a w := by
  intro r
  induction r with
  | nil =>
    intro k L a _ _ _ hq hK
    simpa [marksOn] using hK a hq
  | cons o r ih =>
    intro k L a hl hp hB hq hK
    simp only [List.all_cons, Bool.and_eq_true] at hp
    simp only [List.length_cons, heldFrom, Bool.and_eq_true] at hB
    have h0 : ops[k]? = some o := by have := hl 0 (by simp); simpa using this.symm
    obtain ⟨v, hy, hk⟩ := yieldsIf_of_quiet (ops := ops) hp.1 hq
    rw [List.length_cons, Nat.add_right_comm]
    refine wpAnyH_take h0 hs hB.2.1 hB.1 (fun c a w h => (hQ c _ w h).elim) hy hS (ih (k + 1) _ _ (fun j hj => ?_) hp.2 hB.2.2 hk (fun a' ha' => hK a' ha'))
    have := hl (j + 1) (by simpa using hj)
    simpa [Nat.add_assoc, Nat.add_comm 1 j] using this
theorem wpOp_of_list {Q Q' : Exit → Act → World → Prop} {K : Act → World → Prop} {ops : Array Oper} {n : Nat} {o : Oper} {a : Act} {w : World} (ho : ops[n]? = some o) (hQ' : ∀ e a w, Q' e a w → e = .normal ∧ K a w)
    (h : wpList P ops Q' [o] a w) : wpOp P ops Q n K a w := by
  unfold wpOp
  rw [ho]
  unfold wpList at h
  by_cases hw : Region.wanted o (yielded ops a.tmps) = true
  · simp only [hw, if_true] at h ⊢
    have hL : ¬ LetsOut Q' := by
      rintro ⟨a2, w2, h⟩
      cases (hQ' _ _ _ h).1
    rcases h with h | ⟨_, h⟩
    · exact .inl (wp_only (fun a w hk => (hQ' _ _ _ (by simpa [wpList] using hk)).2) (fun e a w hne h => hne (hQ' _ _ _ h).1) hL h)
    · exact (hL h).elim
  · simp only [hw] at h ⊢
    exact (hQ' _ _ _ (by simpa [wpList] using h)).2
theorem round_two {id : Nat} {Q : Exit → Act → World → Prop} {a : Act} {w : World} {l : List Oper} {r : Nat} (n : Nat) (o1 o2 : Oper) (S : World → Prop) (hm : P.follows .mixedOrders = true) (hn : l.length = n + 2) (h1 : l.toArray[n]? = some o1) (h2 : l.toArray[n + 1]? = some o2)
    (hno : Region.noSelect l.toArray = true) (hp : (l.take n).all plainOp = true) (hd : noDefer l.toArray = true) (hB : heldFrom .any l.toArray n 0 (Array.replicate (n + 2) false) = true)
    (r1 : Region.ready .any l.toArray (marksOn n 0 (Array.replicate (n + 2) false)) = [n]) (r2 : Region.ready .any l.toArray ((marksOn n 0 (Array.replicate (n + 2) false)).setIfInBounds n true) = [n + 1])
    (r3 : Region.ready .any l.toArray (((marksOn n 0 (Array.replicate (n + 2) false)).setIfInBounds n true).setIfInBounds (n + 1) true) = []) (hS : S { w with drawn := w.drawn + 1 })
    (h : wpQuiet P l.toArray S (fun a' => wpList P l.toArray (fun e a2 w2 => e = .normal ∧ S w2 ∧ wpList P l.toArray (fun e a3 w3 => e = .normal ∧ S w3 ∧ Q .normal a3 w3) [o2] a2 w2) [o1] a' { w with drawn := w.drawn + 1 }) (l.take n) a) :
    (Code.region id l.toArray true).wpIn (Fence.wide.inRound r) 0 P Q a w := by
  refine wpIn_mono (Q := fun e a2 w2 => e = .normal ∧ Q .normal a2 w2) (wpIn_region_draw fun t => ?_) (fun e a2 w2 ⟨he, hq⟩ => by rw [he]; exact hq)
  refine opsIn_of_ops (fun _ _ hx => by cases hx.1) (noDefer_spec hd) _ _ _ ?_
  simp only [Region.schedule, hm, Bool.true_or, if_true]
  refine wpAny_sound l.toArray.size t _ a _ (wpAny_of_held (S := S) _ _ _ _ ?_)
  have hlt : (l.take n).length = n := by simp; omega
  have hsz : l.toArray.size = n + 2 := by simpa using hn
  rw [hsz]
  have key := held_lex (P := P) (md := .any) (ops := l.toArray) (Q := fun e a2 w2 => e = .normal ∧ Q .normal a2 w2) (S := S) (f := 2) hno (fun c a w h => by cases h.1) hS (l.take n) 0 (Array.replicate (n + 2) false) a
    (fun j hj => by rw [hlt] at hj; simp [hj]) hp (by rw [hlt]; exact hB) h (fun a' ha' => ?_)
  · rw [hlt] at key
    exact key
  · rw [hlt]
    refine wpAnyH_all r1 (by simp) (fun i hi => ?_)
    obtain rfl : i = n := by simpa using hi
    refine wpOp_of_list h1 ?_ ha'
    rintro e a2 w2 ⟨he, hs2, hl2⟩
    refine ⟨he, hs2, wpAnyH_all r2 (by simp) (fun j hj => ?_)⟩
    obtain rfl : j = i + 1 := by simpa using hj
    refine wpOp_of_list h2 ?_ hl2
    rintro e3 a3 w3 ⟨he3, hs3, hq3⟩
    exact ⟨he3, hs3, wpAnyH_done r3 ⟨rfl, hq3⟩ _⟩
def calmPost (Q : Exit → Act → World → Prop) : Exit → Act → World → Prop
  | .normal, a, w => Q .normal a w
  | _, _, _ => False
theorem calm_normal {Q : Exit → Act → World → Prop} {a : Act} {w : World} (h : Q .normal a w) : calmPost Q .normal a w := h
theorem region_calm {c : Code} {Q : Exit → Act → World → Prop} {a : Act} {w : World} (h : c.wp P (calmPost Q) a w) : c.wpIn Fence.wide 0 P Q a w :=
  wpIn_mono (wpIn_wide.2 h) (fun e a2 w2 hq => by cases e <;> first | exact hq | exact hq.elim)
end
end Go.KP
namespace Go.Proofs.YtklgpilgalfckaaGreatDoor
open Go.RowKit Go.KP Go.KI Go.Shelf
attribute [local go_sem] Oper.semAt_some

def DivRes (x y : List Nat) (w : World) (e : Ending) (w' : World) : Prop := ∃ (vq vr : Value) (q r : List Nat), e = .returned (.tuple #[vq, vr]) ∧ Below w.heap.size w w' ∧ LimbAt w'.heap.size w' vq q ∧ LimbAt w'.heap.size w' vr r ∧
  Norm 1000000000 q ∧ Norm 1000000000 r ∧ lv 1000000000 q = lv 1000000000 x / lv 1000000000 y ∧ lv 1000000000 r = lv 1000000000 x % lv 1000000000 y ∧ q.length ≤ x.length ∧ r.length ≤ x.length
def ShortRes (x y : List Nat) (w : World) (e : Ending) (w' : World) : Prop := ∃ (vq vr : Value) (q r : List Nat), e = .returned (.tuple #[vq, vr]) ∧ Below w.heap.size w w' ∧ OwnL w.heap.size w' vq q ∧ OwnL w.heap.size w' vr r ∧
  Norm 1000000000 q ∧ Norm 1000000000 r ∧ lv 1000000000 q = lv 1000000000 x / lv 1000000000 y ∧ lv 1000000000 r = lv 1000000000 x % lv 1000000000 y ∧ q.length ≤ x.length ∧ r.length ≤ x.length
theorem OwnL.other {base : Nat} {w : World} {v : Value} {l : List Nat} (h : OwnL base w v l) {p : Addr} (hp : p.block < base) (u : Value) : OwnL base (w.setCell p u) v l :=
  owns_stay h (fun r hr => Below.heap_setCell _ _ _ _ (by have := owns_ge h (Nat.le_refl _) r hr; omega))
structure ShortAt (x : List Nat) (d k : Nat) (Q : List Nat) (R : Nat) : Prop where
  len : Q.length = x.length
  lt : Lt 1000000000 Q
  rest : R < d
  val : lv 1000000000 (x.drop (x.length - k)) = lv 1000000000 (Q.drop (x.length - k)) * d + R
theorem ShortAt.start (x : List Nat) {d : Nat} (hd : 1 ≤ d) : ShortAt x d 0 (zeros x.length) 0 :=
  ⟨zeros_len _, zeros_lt _ _ (by omega), hd, by rw [Nat.sub_zero, List.drop_length, List.drop_of_length_le (by rw [zeros_len]; exact Nat.le_refl _)]; simp [lv]⟩
theorem ShortAt.step {x : List Nat} {d k R : Nat} {Q : List Nat} (h : ShortAt x d k Q R) (hx : Lt 1000000000 x) (hd2 : d < 1000000000) (hk : k < x.length) {i : Nat} (hi : i = x.length - 1 - k) :
    lat x i + R * 1000000000 < d * 1000000000 ∧ (lat x i + R * 1000000000) / d < 1000000000 ∧ ShortAt x d (k + 1) (Q.set i ((lat x i + R * 1000000000) / d)) ((lat x i + R * 1000000000) % d) := by
  have hr := h.rest
  have hxi := lat_lt (by omega) hx i
  have h1 : (R + 1) * 1000000000 ≤ d * 1000000000 := Nat.mul_le_mul_right _ hr
  have h2 : lat x i + R * 1000000000 < d * 1000000000 := by omega
  have hdp : 0 < d := by omega
  have h3 : (lat x i + R * 1000000000) / d < 1000000000 := by
    rw [Nat.div_lt_iff_lt_mul hdp]
    omega
  refine ⟨h2, h3, by rw [List.length_set]; exact h.len, lt_set h.lt h3, Nat.mod_lt _ hdp, ?_⟩
  have e1 : x.length - (k + 1) = i := by omega
  have e2 : x.length - k = i + 1 := by omega
  have hv := h.val
  rw [e2] at hv
  rw [e1]
  have hl : i < x.length := by omega
  have hlq : i < Q.length := by rw [h.len]; exact hl
  have f1 : lv 1000000000 (x.drop i) = lat x i + 1000000000 * lv 1000000000 (x.drop (i + 1)) := by
    rw [List.drop_eq_getElem_cons hl, lat_at hl]
    rfl
  have f2 : (Q.set i ((lat x i + R * 1000000000) / d)).drop i = ((lat x i + R * 1000000000) / d) :: Q.drop (i + 1) := by
    rw [List.drop_eq_getElem_cons (by rw [List.length_set]; exact hlq), List.getElem_set_self, List.drop_set_of_lt (by omega)]
  rw [f1, f2, hv]
  show lat x i + 1000000000 * (lv 1000000000 (Q.drop (i + 1)) * d + R) = ((lat x i + R * 1000000000) / d + 1000000000 * lv 1000000000 (Q.drop (i + 1))) * d + (lat x i + R * 1000000000) % d
  have h4 := Nat.div_add_mod (lat x i + R * 1000000000) d
  rw [Nat.add_mul, Nat.mul_comm (_ / d) d]
  have e5 : 1000000000 * lv 1000000000 (Q.drop (i + 1)) * d = 1000000000 * (lv 1000000000 (Q.drop (i + 1)) * d) := by rw [Nat.mul_assoc]
  rw [e5]
  omega
theorem ShortAt.done {x : List Nat} {d R : Nat} {Q : List Nat} (h : ShortAt x d x.length Q R) : lv 1000000000 Q = lv 1000000000 x / d ∧ R = lv 1000000000 x % d := by
  have hv := h.val
  rw [Nat.sub_self, List.drop_zero, List.drop_zero] at hv
  have hr := h.rest
  rw [hv]
  constructor
  · rw [Nat.add_comm, Nat.add_mul_div_right _ _ (by omega), Nat.div_eq_of_lt hr, Nat.zero_add]
  · rw [Nat.add_comm, Nat.add_mul_mod_self_right, Nat.mod_eq_of_lt hr]
theorem short_nums {X R d : Nat} (hX : X < 1000000000) (hR : R < d) (hd : d < 1000000000) :
    ∃ T q r : Nat, T = X + R * 1000000000 ∧ q = T / d ∧ r = T % d ∧ IntKind.i64.wrap ((R : Int) * 1000000000) = (R : Int) * 1000000000 ∧ IntKind.i64.wrap ((X : Int) + (R : Int) * 1000000000) = (T : Int) ∧ (T : Int) / (d : Int) = (q : Int) ∧ (T : Int) % (d : Int) = (r : Int) ∧ (T : Int) < 1000000000000000000 ∧ ((d : Int) == 0) = false ∧ r < d := by
  have h1 : X + R * 1000000000 < 1000000000000000000 := by omega
  have h2 : (d : Int) ≠ 0 := by omega
  obtain ⟨T, hT⟩ : ∃ T, T = X + R * 1000000000 := ⟨_, rfl⟩
  have h3 : (X : Int) + (R : Int) * 1000000000 = (T : Int) := by omega
  exact ⟨T, T / d, T % d, hT, rfl, rfl, IntWalk.i64_in _ (by omega), by rw [h3]; exact IntWalk.i64_in _ (by omega), Int.natCast_ediv .., Int.natCast_emod .., by omega, by simpa using h2, Nat.mod_lt _ (by omega)⟩
structure ShSt (w : World) (d : Nat) (a0 : Option Addr) (n c0 : Nat) (Q : List Nat) (R : Nat) (W : World) : Prop where
  dv : W.heap[w.heap.size]? = some (.cells #[.int .i64 d] 3 (0, 0))
  qv : W.heap[w.heap.size + 1]? = some (.cells #[.slice (some ⟨w.heap.size + 2, 0, none⟩) n n] 199 (0, 0))
  row : W.heap[w.heap.size + 2]? = some (rowO Q)
  rv : W.heap[w.heap.size + 3]? = some (.cells #[.int .i64 R] 3 (0, 0))
  sv : W.heap[w.heap.size + 4]? = some (.cells #[.slice a0 n c0] 199 (0, 0))
  below : Below w.heap.size w W
theorem short_end {x Q : List Nat} {d n R g g2 : Nat} {w W : World} (h : ShortAt x d n Q R) (hQ : Q.length = n) (hd : d < 1000000000) (h1 : W.heap[g]? = some (rowO Q)) (h2 : W.heap[g2]? = some (rowO [R])) (hb : Below w.heap.size w W) (hn : n = x.length) (hl : n ≤ 200000) (hg1 : w.heap.size ≤ g) (hg2 : w.heap.size ≤ g2) :
    ShortRes x [d] w (.returned (.tuple #[.slice (some ⟨g, 0, none⟩) (trimTo Q n) n, .slice (some ⟨g2, 0, none⟩) (trimTo [R] 1) 1])) W := by
  subst hn
  obtain ⟨e1, e2⟩ := h.done
  have hR : Lt 1000000000 [R] := fun z hz => by
    simp only [List.mem_singleton] at hz
    have := h.rest
    omega
  have o1 := (row_owns (base := w.heap.size) h1 hg1 (by unfold maxLen; omega)).cut (k := trimTo Q Q.length) (trimTo_le _ _)
  have o2 := (row_owns (base := w.heap.size) h2 hg2 (by unfold maxLen; simp)).cut (k := trimTo [R] 1) (trimTo_le _ _)
  rw [hQ] at o1
  have hv : lv 1000000000 [d] = d := by simp [lv]
  have hr1 : lv 1000000000 [R] = R := by simp [lv]
  refine ⟨_, _, trimL Q, trimL [R], rfl, hb, ?_, ?_, trimL_norm h.lt, trimL_norm hR, by rw [trimL_lv, e1, hv], by rw [trimL_lv, hr1, hv, e2], ?_, ?_⟩
  · unfold trimL
    rw [hQ]
    exact o1
  · exact o2
  · rw [trimL_len]
    have := trimTo_le Q Q.length
    omega
  · rw [trimL_len]
    have h3 := trimTo_le [R] 1
    show trimTo [R] 1 ≤ x.length
    rcases Nat.eq_zero_or_pos x.length with h0 | h0
    · have hx : x = [] := List.eq_nil_of_length_eq_zero h0
      rw [hx] at e2
      have hR0 : R = 0 := by rw [e2]; simp [lv]
      rw [hR0]
      have : trimTo [0] 1 = 0 := rfl
      omega
    · omega
def ShC (h d n : Nat) (w' : World) : Prop := w'.cell? ⟨h, 0, none⟩ = some (.int .i64 d) ∧ w'.cell? ⟨h + 1, 0, none⟩ = some (.slice (some ⟨h + 1 + 1, 0, none⟩) n n)
theorem divideShort_any (va : Value) (x : List Nat) (d : Nat) (B : Nat) (w : World) (ha : LimbAt B w va x) (hB : B ≤ w.heap.size) (hx : Lt 1000000000 x) (lx : x.length ≤ 200000) (hd : 1 ≤ d) (hd2 : d < 1000000000) :
    Calls Tryz.prog 238 #[va, .int .i64 d] w (ShortRes x [d] w) := by
  obtain ⟨a0, c0, hva⟩ := ha.form
  subst hva
  have HA := hide ha; have HX := hide hx
  clear ha hx
  obtain ⟨n, hn⟩ : ∃ n, n = x.length := ⟨_, rfl⟩
  have HN := hide hn
  have hmk := make_ints n (by omega)
  rw [← hn] at lx ⊢
  clear hn
  obtain ⟨b0, b1, b2, hs0, hB0⟩ := heap3 w (.cells #[.int .i64 d] 3) (.cells #[.slice none 0 0] 199) (rowO (zeros n))
  refine (callsIn_wide (n := 0)).1 ?_
  refine callsIn_of_wp_marks Tryz.func238 rfl trivial ?_ rfl
  simp only [Tryz.ntmps238, List.size_toArray, List.length_cons, List.length_nil, Nat.reduceAdd, Nat.reduceSub, Array.replicate_succ, Array.replicate_zero, List.push_toArray, List.append_toArray, List.nil_append, List.cons_append]
  gi_wp2_with fail
  clear hmk b0 b1 b2 hs0 hB0
  obtain ⟨r0, rs0, rb0⟩ := heap1 w (.cells #[.int .i64 d] 3)
  obtain ⟨a1, as1, ab1⟩ := heap1 (w.alloc (.cells #[.int .i64 d] 3)) (.cells #[.slice (some ⟨w.heap.size + 1 + 1, 0, none⟩) n n] 199)
  obtain ⟨a2, as2, ab2⟩ := heap1 ((w.alloc (.cells #[.int .i64 d] 3)).alloc (.cells #[.slice (some ⟨w.heap.size + 1 + 1, 0, none⟩) n n] 199)) (rowO (zeros n))
  obtain ⟨a3, as3, ab3⟩ := heap1 (((w.alloc (.cells #[.int .i64 d] 3)).alloc (.cells #[.slice (some ⟨w.heap.size + 1 + 1, 0, none⟩) n n] 199)).alloc (rowO (zeros n))) (.cells #[.int .i64 0] 3)
  obtain ⟨a4, as4, ab4⟩ := heap1 ((((w.alloc (.cells #[.int .i64 d] 3)).alloc (.cells #[.slice (some ⟨w.heap.size + 1 + 1, 0, none⟩) n n] 199)).alloc (rowO (zeros n))).alloc (.cells #[.int .i64 0] 3)) (.cells #[.slice a0 n c0] 199)
  rw [rs0] at a1 as1 ab1
  rw [as1] at a2 as2 ab2
  rw [as2] at a3 as3 ab3
  rw [as3] at a4 as4 ab4
  have e0 := below_blk ab4 (below_blk ab3 (below_blk ab2 (below_blk ab1 r0 (by omega)) (by omega)) (by omega)) (by omega)
  have e1 := below_blk ab4 (below_blk ab3 (below_blk ab2 a1 (by omega)) (by omega)) (by omega)
  have e2 := below_blk ab4 (below_blk ab3 a2 (by omega)) (by omega)
  have e3 := below_blk ab4 a3 (by omega)
  have hbw := rb0.trans ((ab1.trans ((ab2.trans ((ab3.trans (ab4.mono (by omega))).mono (by omega))).mono (by omega))).mono (by omega))
  refine ⟨trivial, rfl, (callsIn_wide.2 (backward_any a0 n c0 _)).mono ?_⟩
  rintro e w1 ⟨rfl, hw1⟩
  rw [hw1] at e0 e1 e2 e3 a4 as4 hbw
  have HS := hide (show ShSt w d a0 n c0 (zeros n) 0 w1 from ⟨e0, e1, e2, e3, a4, hbw⟩)
  have hs1 : w.heap.size + 5 = w1.heap.size := by omega
  clear r0 rs0 rb0 a1 as1 ab1 a2 as2 ab2 a3 as3 ab3 a4 as4 ab4 e0 e1 e2 e3 hbw
  gi_wp2_with fail
  clear hw1
  refine wp_iter_on (gf := 269) (lb := #[.pointer (some ⟨w.heap.size + 1 + 1 + 1 + 1, 0, none⟩)]) rfl (enters_of Tryz.func269 (by kernel_rfl) rfl) (backSeq_any (w.heap.size + 4) n c0 a0 (fun k => ((lat x (n - 1 - k) : Nat) : Int)) (by omega)) (fun _ => rfl)
    (fun k S W => S = (fun _ => False) ∧ ∃ Q R, ShortAt x d k Q R ∧ ShSt w d a0 n c0 Q R W)
    (fun _ _ _ => False) ?hI (fun _ _ _ _ h _ => h) ?h0 ?hke
    (fun k S a1' W => a1' = { tmps := #[.slice a0 n c0, .int .i64 d, undef, .pointer (some ⟨w.heap.size, 0, none⟩), .pointer (some ⟨w.heap.size + 1, 0, none⟩), .slice none 0 0, .pointer (some ⟨w.heap.size + 1 + 1 + 1, 0, none⟩), .int .i64 ((n : Int) - 1 - k), .int .i64 ((lat x (n - 1 - k) : Nat) : Int), .slice a0 n c0, .int .i64 n, .slice (some ⟨w.heap.size + 1 + 1, 0, none⟩) n n, .slice a0 n c0, .func (.func 269) #[] #[.pointer (some ⟨w.heap.size + 1 + 1 + 1 + 1, 0, none⟩)], .int .i64 ((n : Int) - 1 - k), .int .i64 ((lat x (n - 1 - k) : Nat) : Int), undef, undef, undef, undef, undef, undef, undef, undef, undef, undef, undef, undef, undef, undef, undef, undef, undef, undef], defers := [] })
    ?hAx ?hassign ?hS ?hbody ?hdone ?hstop
  case hI =>
    rintro k S W W2 ⟨rfl, Q, R, h1, ⟨g0, g1, g2, g3, g4, gb⟩⟩ hq
    exact ⟨rfl, Q, R, h1, hq.at_ g0 (.inl (by omega)), hq.at_ g1 (.inl (by omega)), hq.at_ g2 (.inl (by omega)), hq.at_ g3 (.inl (by omega)), hq.at_ g4 (.inl (by omega)), Quiet.below gb hq (by omega) gb.size⟩
  case h0 => exact ⟨rfl, zeros n, 0, by have := ShortAt.start x hd; rw [← HN.out] at this; exact this, HS.out⟩
  case hke =>
    rintro k S W hk ⟨rfl, Q, R, h1, ⟨g0, g1, g2, g3, g4, gb⟩⟩
    refine ⟨g4, fun hlt => ?_⟩
    rcases (HA.out.below gb hB).cases with ⟨_, _, _, hnil⟩ | ⟨g, o, cap, hv, hg, hc⟩
    · rw [HN.out, hnil] at hlt
      simp at hlt
    · injection hv with hv1 hv2 hv3
      exact ⟨g, o, hv1, hc _ (by have := HN.out; omega)⟩
  case hAx =>
    rintro k S a1' W l r r2 h _
    exact h
  case hassign =>
    intro l k S W K hsz hSlt hK
    gi_wp2
    exact hK _ _ (Quiet.refl _ _ _) (Upd.refl _ _ _) rfl
  case hS =>
    rintro k S W ⟨rfl, _⟩ b hb
    exact hb.elim
  case hstop =>
    intro D c S W _ h
    exact h.elim
  case hbody =>
    rintro l k S a1' W hk ⟨rfl, Q, R, h1, ⟨g0, g1, g2, g3, g4, gb⟩⟩ rfl hsz
    obtain ⟨m, hm⟩ : ∃ m : Nat, (n : Int) - 1 - (k : Int) = m := ⟨n - 1 - k, by omega⟩
    have hm2 : n - 1 - k = m := by omega
    have hst := h1.step HX.out hd2 (by have := HN.out; omega) (show m = x.length - 1 - k by have := HN.out; omega)
    obtain ⟨t1, t2, t3⟩ := hst
    have hxm := lat_lt (by omega) HX.out m
    rw [hm, hm2]
    obtain ⟨X, hX⟩ : ∃ X, X = lat x m := ⟨_, rfl⟩
    rw [← hX] at hxm t1 t2 t3 ⊢
    obtain ⟨T, q, r, hT, hq, hr, hw1, hwt, hqi, hri, hTl, hd0, hrl⟩ := short_nums hxm h1.rest hd2
    rw [← hT] at t1 t2 t3
    rw [← hq, ← hr] at t3
    rw [← hq] at t2
    have hml : m < n := by omega
    have hmq : m < Q.length := by rw [h1.len, ← HN.out]; exact hml
    have c1 := cell_blk g0 0
    have c2 := cell_blk g1 0
    have c3 := row_cell g2 hmq
    have f3 := row_froz g2 m
    have c4 := cell_blk g3 0
    have f4 := froz_blk g3 0
    have hmi : (m : Int) < (n : Int) := by omega
    have T3 := hide t3; have G0 := hide g0; have G1 := hide g1; have G2 := hide g2; have G3 := hide g3; have G4 := hide g4; have GB := hide gb
    have HQI := hide hqi; have HRI := hide hri
    have hl3 := lt_blk g3
    clear hm hm2 t3 g0 g1 g2 g3 g4 gb h1 hX hT hq hr t1 HS
    gi_wp2_with fail
    have C1 := hide c1; have C2 := hide c2
    have k1 : ∀ y : Of (ShC w.heap.size d n), y.w.cell? ⟨w.heap.size, 0, none⟩ = some (.int .i64 d) := fun y => y.h.1
    have k2 : ∀ y : Of (ShC w.heap.size d n), y.w.cell? ⟨w.heap.size + 1, 0, none⟩ = some (.slice (some ⟨w.heap.size + 1 + 1, 0, none⟩) n n) := fun y => y.h.2
    have kn : Nonempty (Of (ShC w.heap.size d n)) := ⟨⟨_, C1.out, C2.out⟩⟩
    refine round_two (S := Cls (ShC w.heap.size d n)) 9 _ _ (by kernel_rfl) rfl rfl rfl (by kernel_rfl) (by kernel_rfl) (by kernel_rfl) (by kernel_rfl) (by kernel_rfl) (by kernel_rfl) (by kernel_rfl) (Cls.mk ⟨C1.out, C2.out⟩) ?_
    simp only [List.take_succ_cons, List.take_zero]
    repeat (go_big_quiet_step (fail))
    refine wpQuiet_nil ?_
    go_wp2_with fail
    obtain ⟨Wy, hWy⟩ : ∃ Wy, Wy = (W.setCell ⟨w.heap.size + 1 + 1, m, none⟩ (.int .i64 q)).drew := ⟨_, rfl⟩
    rw [← hWy]
    have Y0 := hide (show Wy.heap[w.heap.size]? = some (.cells #[.int .i64 d] 3 (0, 0)) by rw [hWy]; exact (setCell_other (by omega)).trans G0.out)
    have Y1 := hide (show Wy.heap[w.heap.size + 1]? = some (.cells #[.slice (some ⟨w.heap.size + 1 + 1, 0, none⟩) n n] 199 (0, 0)) by rw [hWy]; exact (setCell_other (by omega)).trans G1.out)
    have Y2 := hide (show Wy.heap[w.heap.size + 1 + 1]? = some (rowO (Q.set m q)) by rw [hWy]; exact row_set G2.out m q)
    have Y3 := hide (show Wy.heap[w.heap.size + 1 + 1 + 1]? = some (.cells #[.int .i64 R] 3 (0, 0)) by rw [hWy]; exact (setCell_other (by omega)).trans G3.out)
    have Y4 := hide (show Wy.heap[w.heap.size + 1 + 1 + 1 + 1]? = some (.cells #[.slice a0 n c0] 199 (0, 0)) by rw [hWy]; exact (setCell_other (by omega)).trans G4.out)
    have YB := hide (show Below w.heap.size w Wy by rw [hWy]; exact (GB.out.setCell (p := ⟨w.heap.size + 1 + 1, m, none⟩) (by simp; omega) _).drew)
    have YU := hide (show Upd w1.heap.size (fun _ => False) (fun _ => False) W Wy by rw [hWy]; exact ((Upd.refl _ _ W).setBox (p := ⟨w.heap.size + 1 + 1, m, none⟩) (by simp; omega) _).drew)
    refine ⟨Cls.mk ⟨cell_blk Y0.out 0, cell_blk Y1.out 0⟩, ?_⟩
    clear hWy c1 c2 c3 f3 c4 f4 k1 k2 kn hw1 hwt hqi hri hTl hd0 t2 hxm
    have c4 := cell_blk Y3.out 0
    have f4 := froz_blk Y3.out 0
    have l4 := lt_blk Y3.out
    go_wp2_with fail
    refine ⟨Cls.mk ⟨cell_blk ((setCell_other (by omega)).trans Y0.out) 0, cell_blk ((setCell_other (by omega)).trans Y1.out) 0⟩, fun _ => False, YU.out.setBox (by simp; omega) _, rfl, Q.set m q, r, T3.out, (setCell_other (by omega)).trans Y0.out, (setCell_other (by omega)).trans Y1.out, (setCell_other (by omega)).trans Y2.out, ?_, (setCell_other (by omega)).trans Y4.out, YB.out.setCell (p := ⟨w.heap.size + 1 + 1 + 1, 0, none⟩) (by simp; omega) _⟩
    exact Boxed.set (.int .i64 (r : Int)) Y3.out
  case hdone =>
    rintro D S W hD ⟨rfl, Q, R, h1, ⟨g0, g1, g2, g3, g4, gb⟩⟩ hK
    have hQn : Q.length = n := h1.len.trans HN.out.symm
    have HTq := hide (fun (w' : World) (h : w'.heap[w.heap.size + 1 + 1]? = some (rowO Q)) => trim_any (some ⟨w.heap.size + 1 + 1, 0, none⟩) n Q w'.heap.size w' (by
      have := row_limbs h (by unfold maxLen; omega)
      rw [hQn] at this ⊢
      exact this) (by omega) (by omega))
    rw [hQn] at HTq
    have HTr := hide (fun (w' : World) (h : w'.heap[W.heap.size]? = some (rowO [R])) => show Calls Tryz.prog 215 #[.slice (some ⟨W.heap.size, 0, none⟩) 1 1] w' (fun e w'' => e = .returned (.slice (some ⟨W.heap.size, 0, none⟩) (trimTo [R] 1) 1) ∧ w' = w'') from trim_any (some ⟨W.heap.size, 0, none⟩) 1 [R] w'.heap.size w' (row_limbs h (by unfold maxLen; simp)) (by simp) (by simp))
    have c2 := cell_blk g1 0
    have f2 := froz_blk g1 0
    have c4 := cell_blk g3 0
    have hl1 := lt_blk g1
    have hl3 := lt_blk g3
    have G0 := hide g0; have G1 := hide g1; have G2 := hide g2; have G3 := hide g3; have GB := hide gb; have HK := hide hK; have H1 := hide h1
    clear g0 g1 g2 g3 g4 gb hK h1 HS
    have HTs := hide (fun m : Nat => (HTq.out (W.drewN m) G2.out).mono (fun _ _ h => And.intro h.1 h.2.symm))
    gi_wp2_with fail
    refine region_calm ?_
    have C2 := hide c2; have C4 := hide c4
    have D2 := hide (show W.drew.heap[w.heap.size + 1 + 1]? = some (rowO Q) from G2.out)
    have A2 := hide (fun o => show (W.alloc o).drew.heap[w.heap.size + 1 + 1]? = some (rowO Q) from (Below.heap_alloc _ _ _ (lt_blk G2.out)).trans G2.out)
    have TQ1 := hide (HTq.out W.drew D2.out)
    have TQ2 := hide (fun o => HTq.out (W.alloc o).drew (A2.out o))
    have TR := hide (HTr.out (W.alloc (.cells #[.int .i64 R] 3)).drew (World.alloc_heap_new _ _))
    have CD := hide (show W.drew.cell? ⟨w.heap.size + 1 + 1 + 1, 0, none⟩ = some (.int .i64 R) from C4.out)
    have CA := hide (fun o => show (W.alloc o).drew.cell? ⟨w.heap.size + 1 + 1 + 1, 0, none⟩ = some (.int .i64 R) from cell_blk (w := W.alloc o) ((Below.heap_alloc _ _ _ hl3).trans G3.out) 0)
    have CS := hide (fun o u => show ((W.alloc o).setCell ⟨w.heap.size + 1, 0, none⟩ u).drew.cell? ⟨w.heap.size + 1 + 1 + 1, 0, none⟩ = some (.int .i64 R) from cell_blk (w := (W.alloc o).setCell ⟨w.heap.size + 1, 0, none⟩ u) ((setCell_other (by omega)).trans ((Below.heap_alloc _ _ _ hl3).trans G3.out)) 0)
    clear HTq HTr HTs C2 C4
    go_region_with
      (first
        | (go_at_call 215
           with_reducible refine TQ1.out.mono ?_
           rintro e w2 ⟨rfl, rfl⟩)
        | (go_at_call 215
           with_reducible refine (TQ2.out _).mono ?_
           rintro e w2 ⟨rfl, rfl⟩)
        | (go_at_call 215
           with_reducible refine TR.out.mono ?_
           rintro e w2 ⟨rfl, rfl⟩)
        | fail)
    all_goals
      refine calm_normal ?_
      gi_wp2_with fail
      obtain ⟨Wf, hWf⟩ : ∃ Wf, Wf = ((W.setCell ⟨w.heap.size + 1, 0, none⟩ (.slice (some ⟨w.heap.size + 1 + 1, 0, none⟩) (trimTo Q n) n)).alloc (.cells #[.int .i64 R] 3)).drew := ⟨_, rfl⟩
      rw [← hWf]
      have hz : (W.setCell ⟨w.heap.size + 1, 0, none⟩ (.slice (some ⟨w.heap.size + 1 + 1, 0, none⟩) (trimTo Q n) n)).heap.size = W.heap.size := setCell_size _ _ _
      have E1 : Wf.heap[w.heap.size + 1]? = some (.cells #[.slice (some ⟨w.heap.size + 1 + 1, 0, none⟩) (trimTo Q n) n] 199 (0, 0)) := by
        rw [hWf]; exact (Below.heap_alloc _ _ _ (by rw [hz]; omega)).trans (Boxed.set _ G1.out)
      have E2 : Wf.heap[w.heap.size + 1 + 1]? = some (rowO Q) := by
        rw [hWf]; exact (Below.heap_alloc _ _ _ (by rw [hz]; exact lt_blk G2.out)).trans ((setCell_other (by omega)).trans G2.out)
      have ED : Wf.heap[D]? = some (.deferred (some [])) := by
        rw [hWf]; exact (Below.heap_alloc _ _ _ (by rw [hz]; exact lt_blk HK.out)).trans ((setCell_other (by omega)).trans HK.out)
      have ER : Wf.heap[W.heap.size]? = some (rowO [R]) := by
        rw [hWf, ← hz]; exact World.alloc_heap_new _ _
      have EB : Below w.heap.size w Wf := by
        rw [hWf]; exact ((GB.out.setCell (p := ⟨w.heap.size + 1, 0, none⟩) (by simp) _).alloc (by rw [hz]; omega) _).drew
      have hDW : D < W.heap.size := lt_blk HK.out
      clear hWf
      refine ⟨by simp, .inl ⟨_, _, rfl, run_takeDeferred ED, ?_⟩⟩
      have F1 : (Wf.putObj D (.deferred none)).heap[w.heap.size + 1]? = some (.cells #[.slice (some ⟨w.heap.size + 1 + 1, 0, none⟩) (trimTo Q n) n] 199 (0, 0)) := (World.putObj_heap_other (by omega)).trans E1
      have hc := cell_blk F1 0
      refine ⟨.tuple #[.slice (some ⟨w.heap.size + 1 + 1, 0, none⟩) (trimTo Q n) n, .slice (some ⟨W.heap.size, 0, none⟩) (trimTo [R] 1) 1], by simp [results, go_sem, hc, Act.put], ?_⟩
      exact short_end H1.out hQn hd2 ((World.putObj_heap_other (by omega)).trans E2) ((World.putObj_heap_other (by omega)).trans ER) (EB.trans (belowK_b (w := w) (Nat.le_refl _) _ D _ _ (by omega) ED rfl rfl)) HN.out (by omega) (by omega) (by have := GB.out.size; omega)
end Go.Proofs.YtklgpilgalfckaaGreatDoor
