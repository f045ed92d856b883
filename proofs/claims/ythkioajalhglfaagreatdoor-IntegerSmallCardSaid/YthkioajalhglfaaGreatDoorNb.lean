/-
  Limbs: plain facts. No program in sight.
-/
import Derived.Test.YthkioajalhglfaaGreatDoorNa
namespace Go.KI
open Go

/-- The value of limbs, the least one first. -/
def lv (b : Nat) : List Nat → Nat
  | [] => 0
  | x :: r => x + b * lv b r
theorem lv_nil (b : Nat) : lv b [] = 0 := rfl
theorem lv_append (b : Nat) (y : List Nat) : ∀ x : List Nat, lv b (x ++ y) = lv b x + b ^ x.length * lv b y := by
  intro x
  induction x with
  | nil => simp [lv]
  | cons a r ih =>
    simp only [List.cons_append, lv, ih, List.length_cons]
    grind
theorem lv_snoc (b : Nat) (x : List Nat) (a : Nat) : lv b (x ++ [a]) = lv b x + b ^ x.length * a := by
  rw [lv_append]
  simp [lv]
theorem lv_zeros (b : Nat) : ∀ n : Nat, lv b (List.replicate n 0) = 0 := by
  intro n
  induction n with
  | zero => rfl
  | succ n ih => rw [List.replicate_succ]; simp [lv, ih]
def Lt (b : Nat) (l : List Nat) : Prop := ∀ x ∈ l, x < b
theorem lv_lt {b : Nat} : ∀ {l : List Nat}, Lt b l → lv b l < b ^ l.length := by
  intro l
  induction l with
  | nil => intro _; simp [lv]
  | cons a r ih =>
    intro h
    have h1 := ih (fun x hx => h x (List.mem_cons_of_mem _ hx))
    have h2 := h a (by simp)
    simp only [lv, List.length_cons, Nat.pow_succ]
    have h3 : b * (lv b r + 1) ≤ b * b ^ r.length := Nat.mul_le_mul_left b h1
    rw [Nat.mul_add, Nat.mul_one] at h3
    rw [Nat.mul_comm (b ^ r.length)]
    omega
/-- The limb at a place, 0 behind the last one. -/
def lat (l : List Nat) (i : Nat) : Nat := l[i]?.getD 0
theorem lat_lt {b : Nat} (hb : 0 < b) {l : List Nat} (h : Lt b l) (i : Nat) : lat l i < b := by
  unfold lat
  rcases Nat.lt_or_ge i l.length with hi | hi
  · rw [List.getElem?_eq_getElem hi]
    exact h _ (List.getElem_mem hi)
  · rw [List.getElem?_eq_none hi]
    exact hb
theorem lat_past {l : List Nat} {i : Nat} (h : l.length ≤ i) : lat l i = 0 := by
  unfold lat
  rw [List.getElem?_eq_none h]
  rfl
theorem lat_at {l : List Nat} {i : Nat} (h : i < l.length) : lat l i = l[i] := by
  unfold lat
  rw [List.getElem?_eq_getElem h]
  rfl
theorem lat_some {l : List Nat} {i : Nat} (h : i < l.length) : l[i]? = some (lat l i) := by
  rw [lat_at h]
  exact List.getElem?_eq_getElem h
/-- The value of the first limbs. -/
def lvT (b : Nat) (l : List Nat) (i : Nat) : Nat := lv b (l.take i)
theorem lvT_zero (b : Nat) (l : List Nat) : lvT b l 0 = 0 := by simp [lvT, lv]
theorem lvT_succ (b : Nat) (l : List Nat) (i : Nat) : lvT b l (i + 1) = lvT b l i + b ^ i * lat l i := by
  unfold lvT
  rcases Nat.lt_or_ge i l.length with hi | hi
  · rw [List.take_succ_eq_append_getElem hi, lv_snoc, List.length_take, Nat.min_eq_left (by omega), lat_at hi]
  · rw [List.take_of_length_le (by omega), List.take_of_length_le hi, lat_past hi]
    simp
theorem lvT_all {b : Nat} {l : List Nat} {i : Nat} (h : l.length ≤ i) : lvT b l i = lv b l := by
  unfold lvT
  rw [List.take_of_length_le h]
theorem lvT_lt {b : Nat} (hb : 0 < b) {l : List Nat} (h : Lt b l) (i : Nat) : lvT b l i < b ^ i := by
  unfold lvT
  have h1 : lv b (l.take i) < b ^ (l.take i).length := lv_lt (fun x hx => h x (List.mem_of_mem_take hx))
  exact Nat.lt_of_lt_of_le h1 (Nat.pow_le_pow_right hb (List.length_take_le _ _))
theorem lv_split {b : Nat} {l : List Nat} {i : Nat} (h : i < l.length) : lv b l = lvT b l i + b ^ i * (lat l i + b * lv b (l.drop (i + 1))) := by
  have h1 := List.take_append_drop i l
  have h2 : l.drop i = l[i] :: l.drop (i + 1) := List.drop_eq_getElem_cons h
  unfold lvT
  conv => lhs; rw [← h1]
  rw [lv_append, h2, lat_at h, List.length_take, Nat.min_eq_left (by omega)]
  rfl
theorem lt_set {b : Nat} {l : List Nat} (h : Lt b l) {i v : Nat} (hv : v < b) : Lt b (l.set i v) := fun x hx => by
  rcases List.mem_or_eq_of_mem_set hx with h1 | h1
  · exact h x h1
  · rw [h1]; exact hv
theorem lv_set {b : Nat} : ∀ {l : List Nat} {i : Nat} (v : Nat), i < l.length → lv b (l.set i v) + b ^ i * lat l i = lv b l + b ^ i * v := by
  intro l
  induction l with
  | nil => intro i v h; simp at h
  | cons a r ih =>
    intro i v h
    cases i with
    | zero => simp [lv, lat]; omega
    | succ i =>
      have := ih v (by simpa using h)
      simp only [List.set_cons_succ, lv, lat, List.getElem?_cons_succ] at this ⊢
      grind
theorem lat_set {l : List Nat} {i j v : Nat} (h : i < l.length) : lat (l.set i v) j = if i = j then v else lat l j := by
  unfold lat
  rw [List.getElem?_set]
  by_cases hij : i = j
  · rw [if_pos hij, if_pos h, if_pos hij]
    rfl
  · rw [if_neg hij, if_neg hij]
/-- No zero at the end, and limbs all. -/
structure Norm (b : Nat) (l : List Nat) : Prop where
  lt : Lt b l
  top : l = [] ∨ lat l (l.length - 1) ≠ 0
theorem Norm.nil (b : Nat) : Norm b [] := ⟨fun x hx => by simp at hx, .inl rfl⟩
theorem Norm.ge {b : Nat} {l : List Nat} (h : Norm b l) (hne : l ≠ []) : b ^ (l.length - 1) ≤ lv b l := by
  have ht := h.top.resolve_left hne
  have hl : 0 < l.length := List.length_pos_iff.2 hne
  rw [lv_split (i := l.length - 1) (by omega)]
  have h1 : 1 ≤ lat l (l.length - 1) := by omega
  have h2 : b ^ (l.length - 1) * 1 ≤ b ^ (l.length - 1) * (lat l (l.length - 1) + b * lv b (l.drop (l.length - 1 + 1))) := Nat.mul_le_mul_left _ (by omega)
  omega
theorem Norm.zero {b : Nat} (hb : 0 < b) {l : List Nat} (h : Norm b l) : lv b l = 0 ↔ l = [] := by
  constructor
  · intro h0
    rcases Decidable.em (l = []) with h1 | h1
    · exact h1
    · have := h.ge h1
      have h2 : 0 < b ^ (l.length - 1) := Nat.pow_pos hb
      omega
  · intro h0
    rw [h0]
    rfl
theorem norm_len_lt {b : Nat} (hb : 0 < b) {x y : List Nat} (hx : Lt b x) (hy : Norm b y) (h : x.length < y.length) : lv b x < lv b y := by
  have h1 := lv_lt hx
  have h2 := hy.ge (fun e => by rw [e] at h; simp at h)
  have h3 : b ^ x.length ≤ b ^ (y.length - 1) := Nat.pow_le_pow_right hb (by omega)
  omega
/-- How many limbs are left without the zeros at the end. -/
def trimTo (l : List Nat) : Nat → Nat
  | 0 => 0
  | n + 1 => if lat l n = 0 then trimTo l n else n + 1
def trimL (l : List Nat) : List Nat := l.take (trimTo l l.length)
theorem trimTo_le (l : List Nat) : ∀ n, trimTo l n ≤ n := by
  intro n
  induction n with
  | zero => exact Nat.le_refl _
  | succ n ih =>
    unfold trimTo
    split <;> omega
theorem trimTo_lv (b : Nat) (l : List Nat) : ∀ n, lvT b l (trimTo l n) = lvT b l n := by
  intro n
  induction n with
  | zero => rfl
  | succ n ih =>
    unfold trimTo
    split
    · rename_i h
      rw [ih, lvT_succ, h]
      simp
    · rfl
theorem trimTo_top (l : List Nat) : ∀ n, trimTo l n = 0 ∨ lat l (trimTo l n - 1) ≠ 0 := by
  intro n
  induction n with
  | zero => exact .inl rfl
  | succ n ih =>
    unfold trimTo
    split
    · exact ih
    · rename_i h
      exact .inr h
theorem trimL_len (l : List Nat) : (trimL l).length = trimTo l l.length := by
  unfold trimL
  rw [List.length_take]
  exact Nat.min_eq_left (trimTo_le _ _)
theorem trimL_lv (b : Nat) (l : List Nat) : lv b (trimL l) = lv b l := by
  have := trimTo_lv b l l.length
  rw [lvT_all (Nat.le_refl _)] at this
  exact this
theorem trimL_norm {b : Nat} {l : List Nat} (h : Lt b l) : Norm b (trimL l) := by
  refine ⟨fun x hx => h x (List.mem_of_mem_take hx), ?_⟩
  rcases trimTo_top l l.length with h0 | h0
  · left
    apply List.eq_nil_of_length_eq_zero
    rw [trimL_len, h0]
  · rcases Nat.eq_zero_or_pos (trimTo l l.length) with h1 | h1
    · left
      apply List.eq_nil_of_length_eq_zero
      rw [trimL_len, h1]
    · right
      rw [trimL_len]
      have hle := trimTo_le l l.length
      have e : lat (trimL l) (trimTo l l.length - 1) = lat l (trimTo l l.length - 1) := by
        unfold lat trimL
        rw [List.getElem?_take, if_pos (by omega)]
      rw [e]
      exact h0
/-- Two lists of limbs of one length: the upper limb that parts them decides. -/
theorem lv_top_lt {b : Nat} (hb : 0 < b) {x y : List Nat} (hx : Lt b x) (hl : x.length = y.length) {i : Nat} (hi : i < x.length) (hd : x.drop (i + 1) = y.drop (i + 1)) (h : lat x i < lat y i) : lv b x < lv b y := by
  rw [lv_split hi, lv_split (l := y) (i := i) (by omega), hd]
  have h1 := lvT_lt hb hx i
  have h2 : b ^ i * (lat x i + 1 + b * lv b (y.drop (i + 1))) ≤ b ^ i * (lat y i + b * lv b (y.drop (i + 1))) := Nat.mul_le_mul_left _ (by omega)
  have h3 : b ^ i * (lat x i + 1 + b * lv b (y.drop (i + 1))) = b ^ i * (lat x i + b * lv b (y.drop (i + 1))) + b ^ i := by grind
  omega
/-- What a comparison says. -/
def CmpRes (r : Int) (x y : Nat) : Prop := (r < 0 ↔ x < y) ∧ (r = 0 ↔ x = y)
/-- A sign and a size. -/
def valS (m : Bool) (n : Nat) : Int := if m then -(n : Int) else (n : Int)

/-- A sum, limb by limb. -/
theorem plus_step {b i o c c2 n x y X Y : Nat} (h : o + b ^ i * c = X + Y) (h2 : x + y + c = n + b * c2) : (o + b ^ i * n) + b ^ (i + 1) * c2 = (X + b ^ i * x) + (Y + b ^ i * y) := by
  rw [Nat.pow_succ]
  grind
/-- A difference, limb by limb. -/
theorem minus_step {b i o c c2 n x y X Y : Nat} (h : o + Y = X + b ^ i * c) (h2 : n + y + c = x + b * c2) : (o + b ^ i * n) + (Y + b ^ i * y) = (X + b ^ i * x) + b ^ (i + 1) * c2 := by
  rw [Nat.pow_succ]
  grind
end Go.KI
