/-
  Texts of the integers, laid together: Na, Nb, Pa, Pl.
-/
import Derived.Lib.AtoiTie
import Derived.Lib.ItoaMem
import Derived.Test.YthkioajalhglfaaGreatDoorChecked
import Derived.Shelf.Strings.SlTrimAscii
import Derived.Lib.ItoaLen
import Derived.Lib.AppendIntMem
import Derived.Test.YthkioajalhglfaaGreatDoorZ1
namespace Go.KI
open Go

def isDg (c : UInt8) : Bool := decide (48 ≤ c.toNat) && decide (c.toNat ≤ 57)
theorem isDg_iff {c : UInt8} : isDg c = true ↔ 48 ≤ c.toNat ∧ c.toNat ≤ 57 := by simp [isDg]
theorem dg_nat (d : Nat) (h : d < 10) : (UInt8.ofNat (48 + d)).toNat = 48 + d := by
  have h1 : 48 + d < 256 := by omega
  simp [UInt8.toNat_ofNat', Nat.mod_eq_of_lt h1]
theorem decDigits_ne (u : Nat) : Lib.decDigits u ≠ [] := by
  rw [Lib.decDigits]
  split <;> simp
theorem decDigits_dg : ∀ (u : Nat), ∀ c ∈ Lib.decDigits u, isDg c = true := by
  intro u
  induction u using Nat.strongRecOn with
  | ind u ih =>
    intro c hc
    rw [Lib.decDigits] at hc
    split at hc
    · rename_i h
      simp only [List.mem_singleton] at hc
      subst hc
      rw [isDg_iff, dg_nat u h]
      omega
    · rename_i h
      simp only [List.mem_append, List.mem_singleton] at hc
      rcases hc with hc | hc
      · exact ih (u / 10) (by omega) c hc
      · subst hc
        rw [isDg_iff, dg_nat _ (by omega)]
        omega
/-- Digits without a zero in front are a numeral. -/
theorem digits_dec : ∀ (n : Nat) (l : List UInt8), l.length = n → l ≠ [] → (∀ c ∈ l, isDg c = true) → (1 < l.length → l.head? ≠ some 48) → ∃ u, l = Lib.decDigits u := by
  intro n
  induction n with
  | zero => intro l h h1; exact absurd (List.eq_nil_of_length_eq_zero h) h1
  | succ n ih =>
    intro l hn hne hd hz
    obtain ⟨a, c, rfl⟩ : ∃ a c, l = a ++ [c] := ⟨l.dropLast, l.getLast hne, (List.dropLast_concat_getLast hne).symm⟩
    have hc := isDg_iff.1 (hd c (by simp))
    have ec : c = UInt8.ofNat (48 + (c.toNat - 48)) := by
      apply UInt8.toNat_inj.1
      rw [dg_nat _ (by omega)]
      omega
    cases a with
    | nil =>
      refine ⟨c.toNat - 48, ?_⟩
      rw [Lib.decDigits_one (by omega), ← ec]
      rfl
    | cons x a =>
      simp only [List.length_append, List.length_cons, List.length_nil] at hn hz
      have hx : x ≠ 48 := by
        have := hz (by omega)
        simpa using this
      obtain ⟨u, hu⟩ := ih (x :: a) (by simp; omega) (by simp) (fun c hc => hd c (by simp at hc ⊢; rcases hc with h | h; exact .inl h; exact .inr (.inl h))) (fun _ => by simpa using hx)
      have hu1 : 1 ≤ u := by
        rcases Nat.eq_zero_or_pos u with h0 | h0
        · subst h0
          rw [Lib.decDigits_one (by omega)] at hu
          injection hu with h1 h2
          exact absurd h1 hx
        · exact h0
      refine ⟨u * 10 + (c.toNat - 48), ?_⟩
      rw [Lib.decDigits, dif_neg (by omega), show (u * 10 + (c.toNat - 48)) / 10 = u by omega, show (u * 10 + (c.toNat - 48)) % 10 = c.toNat - 48 by omega, ← ec, hu]
/-- The value of digits. -/
def dv (l : List UInt8) : Nat := l.foldl (fun a c => a * 10 + (c.toNat - 48)) 0
theorem dv_nil : dv [] = 0 := rfl
theorem dv_snoc (l : List UInt8) (c : UInt8) : dv (l ++ [c]) = dv l * 10 + (c.toNat - 48) := by simp [dv]
theorem dv_append (a b : List UInt8) : dv (a ++ b) = dv a * 10 ^ b.length + dv b := by
  obtain ⟨n, hn⟩ : ∃ n, n = b.length := ⟨_, rfl⟩
  induction n generalizing b with
  | zero => rw [List.eq_nil_of_length_eq_zero hn.symm]; simp [dv_nil]
  | succ n ih =>
    have hne : b ≠ [] := fun h => by rw [h] at hn; simp at hn
    obtain ⟨b, c, rfl⟩ : ∃ a c, b = a ++ [c] := ⟨b.dropLast, b.getLast hne, (List.dropLast_concat_getLast hne).symm⟩
    rw [← List.append_assoc, dv_snoc, dv_snoc, ih b (by simpa using hn), List.length_append, List.length_singleton, Nat.pow_succ, Nat.add_mul, Nat.mul_assoc, Nat.add_assoc]
theorem dv_decDigits : ∀ u : Nat, dv (Lib.decDigits u) = u := by
  intro u
  induction u using Nat.strongRecOn with
  | ind u ih =>
    rw [Lib.decDigits]
    split
    · rename_i h
      show 0 * 10 + ((UInt8.ofNat (48 + u)).toNat - 48) = u
      rw [dg_nat u h]
      omega
    · rename_i h
      rw [dv_snoc, ih (u / 10) (by omega), dg_nat _ (by omega)]
      omega
theorem dec_of {l : List UInt8} (h0 : l ≠ []) (hd : ∀ c ∈ l, isDg c = true) (h1 : 1 < l.length → l.head? ≠ some 48) : l = Lib.decDigits (dv l) := by
  obtain ⟨u, hu⟩ := digits_dec l.length l rfl h0 hd h1
  have h2 := dv_decDigits u
  rw [← hu] at h2
  rw [h2]
  exact hu
theorem dv_lt : ∀ (l : List UInt8), (∀ c ∈ l, isDg c = true) → dv l < 10 ^ l.length := by
  intro l
  obtain ⟨n, hn⟩ : ∃ n, n = l.length := ⟨_, rfl⟩
  induction n generalizing l with
  | zero => rw [List.eq_nil_of_length_eq_zero hn.symm]; simp [dv_nil]
  | succ n ih =>
    intro hd
    have hne : l ≠ [] := fun h => by rw [h] at hn; simp at hn
    obtain ⟨l, c, rfl⟩ : ∃ a c, l = a ++ [c] := ⟨l.dropLast, l.getLast hne, (List.dropLast_concat_getLast hne).symm⟩
    have h1 := ih l (by simpa using hn) (fun c hc => hd c (by simp [hc]))
    have h2 := isDg_iff.1 (hd c (by simp))
    rw [dv_snoc, List.length_append, List.length_singleton, Nat.pow_succ]
    omega
theorem dec_len_pos (u : Nat) : 1 ≤ (Lib.decDigits u).length := by
  cases h : Lib.decDigits u with
  | nil => exact absurd h (decDigits_ne u)
  | cons a r => simp
theorem dec_lt (u : Nat) : u < 10 ^ (Lib.decDigits u).length := by
  have := dv_lt _ (decDigits_dg u)
  rwa [dv_decDigits] at this
theorem dec_ge : ∀ (u : Nat), 1 ≤ u → 10 ^ ((Lib.decDigits u).length - 1) ≤ u := by
  intro u
  induction u using Nat.strongRecOn with
  | ind u ih =>
    intro hu
    rw [Lib.decDigits]
    split
    · simpa using hu
    · rename_i h
      have h1 := ih (u / 10) (by omega) (by omega)
      have h2 := dec_len_pos (u / 10)
      rw [List.length_append, List.length_singleton, Nat.add_sub_cancel]
      obtain ⟨n, hn⟩ : ∃ n, (Lib.decDigits (u / 10)).length = n + 1 := ⟨(Lib.decDigits (u / 10)).length - 1, by omega⟩
      rw [hn] at h1 ⊢
      rw [Nat.add_sub_cancel] at h1
      rw [Nat.pow_succ]
      omega
theorem dec_len_le {u n : Nat} (hn : 1 ≤ n) : (Lib.decDigits u).length ≤ n ↔ u < 10 ^ n := by
  constructor
  · intro h
    exact Nat.lt_of_lt_of_le (dec_lt u) (Nat.pow_le_pow_right (by omega) h)
  · intro h
    rcases Nat.eq_zero_or_pos u with h0 | h0
    · rw [h0, Lib.decDigits_one (by omega)]
      exact hn
    · have h1 := dec_ge u h0
      have h2 : 10 ^ ((Lib.decDigits u).length - 1) < 10 ^ n := Nat.lt_of_le_of_lt h1 h
      have h3 := (Nat.pow_lt_pow_iff_right (by omega : 1 < 10)).1 h2
      omega
theorem dec_zero : Lib.decDigits 0 = [48] := by rw [Lib.decDigits_one (by omega)]; rfl
theorem dec_head : ∀ u : Nat, (Lib.decDigits u).head? = some 48 → u = 0 := by
  intro u
  induction u using Nat.strongRecOn with
  | ind u ih =>
    intro hh
    rw [Lib.decDigits] at hh
    split at hh
    · rename_i hu
      simp only [List.head?_cons, Option.some.injEq] at hh
      have := congrArg UInt8.toNat hh
      rw [dg_nat u hu] at this
      simp at this
      omega
    · rename_i hu
      have hne := decDigits_ne (u / 10)
      have : (Lib.decDigits (u / 10)).head? = some 48 := by
        cases hd : Lib.decDigits (u / 10) with
        | nil => exact absurd hd hne
        | cons a b => rw [hd] at hh; simpa using hh
      have := ih (u / 10) (by omega) this
      omega
theorem dec_inj {u v : Nat} (h : Lib.decDigits u = Lib.decDigits v) : u = v := by
  rw [← dv_decDigits u, h, dv_decDigits]
/-- A numeral cut into two: k digits at the end. -/
theorem dec_split {q r k : Nat} (hq : 1 ≤ q) (hr : r < 10 ^ k) (hk : 1 ≤ k) : Lib.decDigits (q * 10 ^ k + r) = Lib.decDigits q ++ (List.replicate (k - (Lib.decDigits r).length) 48 ++ Lib.decDigits r) := by
  have hl : (Lib.decDigits r).length ≤ k := (dec_len_le hk).2 hr
  have hz : ∀ n, dv (List.replicate n (48 : UInt8)) = 0 := by
    intro n
    induction n with
    | zero => rfl
    | succ n ih => rw [List.replicate_succ', dv_snoc, ih]; rfl
  have e : dv (Lib.decDigits q ++ (List.replicate (k - (Lib.decDigits r).length) 48 ++ Lib.decDigits r)) = q * 10 ^ k + r := by
    rw [dv_append, dv_append, hz, dv_decDigits, dv_decDigits, List.length_append, List.length_replicate, Nat.sub_add_cancel hl]
    omega
  have h := dec_of (l := Lib.decDigits q ++ (List.replicate (k - (Lib.decDigits r).length) 48 ++ Lib.decDigits r)) (by simp [decDigits_ne]) (by
    intro c hc
    rcases List.mem_append.1 hc with h | h
    · exact decDigits_dg q c h
    · rcases List.mem_append.1 h with h | h
      · rw [List.eq_of_mem_replicate h]; rfl
      · exact decDigits_dg r c h) (by
    intro _ hh
    have : (Lib.decDigits q).head? = some 48 := by
      cases hd : Lib.decDigits q with
      | nil => exact absurd hd (decDigits_ne q)
      | cons a b => rw [hd] at hh; simpa using hh
    have := dec_head q this
    omega)
  rw [e] at h
  exact h.symm

theorem decFrom_append : ∀ (a b : List UInt8) (acc : Nat), Lib.decFrom acc (a ++ b) = (Lib.decFrom acc a).bind fun m => Lib.decFrom m b := by
  intro a
  induction a with
  | nil => intro b acc; rfl
  | cons c r ih =>
    intro b acc
    simp only [List.cons_append, Lib.decFrom]
    cases Lib.digitVal c with
    | none => rfl
    | some d => exact ih b _
theorem digitVal_dg (d : Nat) (h : d < 10) : Lib.digitVal (UInt8.ofNat (48 + d)) = some d := by
  unfold Lib.digitVal
  rw [dg_nat d h, if_pos (by omega)]
  simp
theorem decFrom_decDigits : ∀ u : Nat, Lib.decFrom 0 (Lib.decDigits u) = some u := by
  intro u
  induction u using Nat.strongRecOn with
  | ind u ih =>
    rw [Lib.decDigits]
    split
    · rename_i h
      simp only [Lib.decFrom, digitVal_dg u h]
      simp
    · rename_i h
      rw [decFrom_append, ih (u / 10) (by omega)]
      simp only [Option.bind_some, Lib.decFrom, digitVal_dg (u % 10) (by omega)]
      congr 1
      omega
/-- What is allowed: up to 300 digits. -/
def most : Nat := 300
theorem most_eq : most = 300 := rfl
def lim : Nat := 10 ^ most
def fits (z : Int) : Prop := z.natAbs < lim
instance (z : Int) : Decidable (fits z) := inferInstanceAs (Decidable (z.natAbs < lim))
theorem fits_len {z : Int} : fits z ↔ (Lib.decDigits z.natAbs).length ≤ 300 := (dec_len_le (n := most) (by rw [most_eq]; omega)).symm
/-- The digits of a string: without the sign. -/
def digs : List UInt8 → List UInt8
  | [] => []
  | c :: r => if c = 45 then r else c :: r
def valI (l : List UInt8) : Int := if l.head? = some 45 then -((dv (digs l) : Nat) : Int) else ((dv (digs l) : Nat) : Int)
/-- Why a string is no integer. -/
def chkI (l : List UInt8) : Int := if digs l = [] ∨ ((digs l).head? = some 48 ∧ l ≠ [48]) ∨ ¬ (digs l).all isDg = true then 11 else if 300 < (digs l).length then 4 else 0
theorem itoa_cases (z : Int) : (z < 0 ∧ Lib.itoa z = 45 :: Lib.decDigits z.natAbs) ∨ (0 ≤ z ∧ Lib.itoa z = Lib.decDigits z.natAbs) := by
  unfold Lib.itoa
  by_cases h : z < 0
  · exact .inl ⟨h, if_pos h⟩
  · refine .inr ⟨by omega, ?_⟩
    rw [if_neg h]
    congr 1
    omega
theorem dec_head45 (u : Nat) : (Lib.decDigits u).head? ≠ some 45 := by
  intro h
  cases hd : Lib.decDigits u with
  | nil => exact decDigits_ne u hd
  | cons a b =>
    rw [hd] at h
    simp at h
    have := isDg_iff.1 (decDigits_dg u a (by rw [hd]; simp))
    rw [h] at this
    have e : (45 : UInt8).toNat = 45 := rfl
    omega
theorem digs_dec (u : Nat) : digs (Lib.decDigits u) = Lib.decDigits u := by
  have h := dec_head45 u
  cases hd : Lib.decDigits u with
  | nil => rfl
  | cons a b =>
    rw [hd] at h
    show (if a = 45 then b else a :: b) = a :: b
    rw [if_neg (by simpa using h)]
theorem digs_itoa (z : Int) : digs (Lib.itoa z) = Lib.decDigits z.natAbs := by
  rcases itoa_cases z with ⟨_, h⟩ | ⟨_, h⟩
  · rw [h]
    simp [digs]
  · rw [h, digs_dec]
theorem head_itoa (z : Int) : (Lib.itoa z).head? = some 45 ↔ z < 0 := by
  rcases itoa_cases z with ⟨h1, h⟩ | ⟨h1, h⟩
  · rw [h]
    simp [h1]
  · rw [h]
    have := dec_head45 z.natAbs
    constructor
    · intro h2; exact absurd h2 this
    · intro h2; omega
theorem val_itoa (z : Int) : valI (Lib.itoa z) = z := by
  unfold valI
  rw [digs_itoa, dv_decDigits]
  by_cases h : z < 0
  · rw [if_pos ((head_itoa z).2 h)]
    omega
  · rw [if_neg (fun h2 => h ((head_itoa z).1 h2))]
    omega
theorem itoa_inj {y z : Int} (h : Lib.itoa y = Lib.itoa z) : y = z := by rw [← val_itoa y, h, val_itoa]
theorem itoa_zero : Lib.itoa 0 = [48] := by
  rcases itoa_cases 0 with ⟨h1, _⟩ | ⟨_, h⟩
  · omega
  · rw [h]; exact dec_zero
theorem itoa_one : Lib.itoa 1 = [49] := by
  rcases itoa_cases 1 with ⟨h1, _⟩ | ⟨_, h⟩
  · omega
  · rw [h, show (1 : Int).natAbs = 1 from rfl, Lib.decDigits_one (by omega)]; rfl
theorem chk_itoa (z : Int) : chkI (Lib.itoa z) = if fits z then 0 else 4 := by
  unfold chkI
  rw [digs_itoa, if_neg]
  · by_cases h : fits z
    · rw [if_pos h, if_neg (by have := fits_len.1 h; omega)]
    · rw [if_neg h, if_pos (Nat.lt_of_not_le fun h2 => h (fits_len.2 h2))]
  · rintro (h | ⟨h1, h2⟩ | h)
    · exact decDigits_ne _ h
    · have h3 := dec_head _ h1
      have : z = 0 := by omega
      subst this
      exact h2 itoa_zero
    · exact h (List.all_eq_true.2 (decDigits_dg _))
/-- A valid string is the numeral of an integer within the limit. -/
theorem chk_ok {l : List UInt8} (h : chkI l = 0) : l = Lib.itoa (valI l) ∧ fits (valI l) := by
  have key : ∃ z, l = Lib.itoa z := by
    unfold chkI at h
    split at h
    · cases h
    · rename_i h1
      have h2 : digs l ≠ [] := fun e => h1 (.inl e)
      have h3 : ∀ c ∈ digs l, isDg c = true := by
        refine List.all_eq_true.1 ?_
        cases ha : (digs l).all isDg with
        | true => rfl
        | false => exact absurd (.inr (.inr (by rw [ha]; simp))) h1
      cases l with
      | nil => exact absurd rfl h2
      | cons c r =>
        by_cases hc : c = 45
        · subst hc
          have ed : digs (45 :: r) = r := by simp [digs]
          rw [ed] at h2 h3
          have h4 : r.head? ≠ some 48 := fun e => h1 (.inr (.inl ⟨by rw [ed]; exact e, by simp⟩))
          have h5 := dec_of h2 h3 (fun _ => h4)
          have hp : 1 ≤ dv r := by
            rcases Nat.eq_zero_or_pos (dv r) with h0 | h0
            · rw [h0, dec_zero] at h5
              rw [h5] at h4
              exact absurd rfl h4
            · exact h0
          refine ⟨-((dv r : Nat) : Int), ?_⟩
          rw [Lib.itoa_neg _ hp, ← h5]
        · have ed : digs (c :: r) = c :: r := by simp [digs, hc]
          rw [ed] at h2 h3
          refine ⟨((dv (c :: r) : Nat) : Int), ?_⟩
          rw [Lib.itoa_nonneg]
          refine dec_of h2 h3 (fun hl e => h1 (.inr (.inl ⟨by rw [ed]; exact e, fun e2 => ?_⟩)))
          rw [e2] at hl
          simp at hl
  obtain ⟨z, hz⟩ := key
  rw [hz, val_itoa]
  refine ⟨rfl, ?_⟩
  rw [hz, chk_itoa] at h
  by_cases hf : fits z
  · exact hf
  · rw [if_neg hf] at h
    cases h
theorem chk_fits {z : Int} (h : fits z) : chkI (Lib.itoa z) = 0 := by rw [chk_itoa, if_pos h]
/-- A result: its string, its error. -/
def resS (z : Int) : List UInt8 := if fits z then Lib.itoa z else []
def resE (z : Int) : Int := if fits z then 0 else 4
/-- An operation of two integers. -/
def op2S (f : Int → Int → Int) (a b : List UInt8) : List UInt8 := if chkI a ≠ 0 then [] else if chkI b ≠ 0 then [] else resS (f (valI a) (valI b))
def op2E (f : Int → Int → Int) (a b : List UInt8) : Int := if chkI a ≠ 0 then chkI a else if chkI b ≠ 0 then chkI b else resE (f (valI a) (valI b))
theorem fits_of_le {y z : Int} (h : fits z) (hl : y.natAbs ≤ z.natAbs) : fits y := Nat.lt_of_le_of_lt hl h
theorem fits_small {z : Int} {n : Nat} (hn : n ≤ most) (h : z.natAbs < 10 ^ n) : fits z := Nat.lt_of_lt_of_le h (Nat.pow_le_pow_right (by omega) hn)
/-- Short strings are small integers. -/
theorem short_val {l : List UInt8} {n : Nat} (h : chkI l = 0) (hl : l.length ≤ n) (hn : 1 ≤ n) : (valI l).natAbs < 10 ^ n := by
  obtain ⟨h1, _⟩ := chk_ok h
  refine (dec_len_le hn).1 ?_
  rcases itoa_cases (valI l) with ⟨_, h2⟩ | ⟨_, h2⟩
  · rw [h2] at h1
    have := congrArg List.length h1
    simp at this
    omega
  · rw [h2] at h1
    rw [← h1]
    exact hl
end Go.KI
namespace Go.KI
open Go

/-- The value of limbs, the least one first. -/
def lv (b : Nat) : List Nat → Nat
  | [] => 0
  | x :: r => x + b * lv b r
theorem lv_nil (b : Nat) : lv b [] = 0 := rfl
theorem lv_append (b : Nat) (y : List Nat) : ∀ x : List Nat, lv b (x ++ y) = lv b x + b ^ x.length * lv b y := by
  intro x
  induction x with
  | nil => simp [lv]
  | cons a r ih =>
    simp only [List.cons_append, lv, ih, List.length_cons]
    grind
theorem lv_snoc (b : Nat) (x : List Nat) (a : Nat) : lv b (x ++ [a]) = lv b x + b ^ x.length * a := by
  rw [lv_append]
  simp [lv]
theorem lv_zeros (b : Nat) : ∀ n : Nat, lv b (List.replicate n 0) = 0 := by
  intro n
  induction n with
  | zero => rfl
  | succ n ih => rw [List.replicate_succ]; simp [lv, ih]
def Lt (b : Nat) (l : List Nat) : Prop := ∀ x ∈ l, x < b
theorem lv_lt {b : Nat} : ∀ {l : List Nat}, Lt b l → lv b l < b ^ l.length := by
  intro l
  induction l with
  | nil => intro _; simp [lv]
  | cons a r ih =>
    intro h
    have h1 := ih (fun x hx => h x (List.mem_cons_of_mem _ hx))
    have h2 := h a (by simp)
    simp only [lv, List.length_cons, Nat.pow_succ]
    have h3 : b * (lv b r + 1) ≤ b * b ^ r.length := Nat.mul_le_mul_left b h1
    rw [Nat.mul_add, Nat.mul_one] at h3
    rw [Nat.mul_comm (b ^ r.length)]
    omega
/-- The limb at a place, 0 behind the last one. -/
def lat (l : List Nat) (i : Nat) : Nat := l[i]?.getD 0
theorem lat_lt {b : Nat} (hb : 0 < b) {l : List Nat} (h : Lt b l) (i : Nat) : lat l i < b := by
  unfold lat
  rcases Nat.lt_or_ge i l.length with hi | hi
  · rw [List.getElem?_eq_getElem hi]
    exact h _ (List.getElem_mem hi)
  · rw [List.getElem?_eq_none hi]
    exact hb
theorem lat_past {l : List Nat} {i : Nat} (h : l.length ≤ i) : lat l i = 0 := by
  unfold lat
  rw [List.getElem?_eq_none h]
  rfl
theorem lat_at {l : List Nat} {i : Nat} (h : i < l.length) : lat l i = l[i] := by
  unfold lat
  rw [List.getElem?_eq_getElem h]
  rfl
theorem lat_some {l : List Nat} {i : Nat} (h : i < l.length) : l[i]? = some (lat l i) := by
  rw [lat_at h]
  exact List.getElem?_eq_getElem h
/-- The value of the first limbs. -/
def lvT (b : Nat) (l : List Nat) (i : Nat) : Nat := lv b (l.take i)
theorem lvT_zero (b : Nat) (l : List Nat) : lvT b l 0 = 0 := by simp [lvT, lv]
theorem lvT_succ (b : Nat) (l : List Nat) (i : Nat) : lvT b l (i + 1) = lvT b l i + b ^ i * lat l i := by
  unfold lvT
  rcases Nat.lt_or_ge i l.length with hi | hi
  · rw [List.take_succ_eq_append_getElem hi, lv_snoc, List.length_take, Nat.min_eq_left (by omega), lat_at hi]
  · rw [List.take_of_length_le (by omega), List.take_of_length_le hi, lat_past hi]
    simp
theorem lvT_all {b : Nat} {l : List Nat} {i : Nat} (h : l.length ≤ i) : lvT b l i = lv b l := by
  unfold lvT
  rw [List.take_of_length_le h]
theorem lvT_lt {b : Nat} (hb : 0 < b) {l : List Nat} (h : Lt b l) (i : Nat) : lvT b l i < b ^ i := by
  unfold lvT
  have h1 : lv b (l.take i) < b ^ (l.take i).length := lv_lt (fun x hx => h x (List.mem_of_mem_take hx))
  exact Nat.lt_of_lt_of_le h1 (Nat.pow_le_pow_right hb (List.length_take_le _ _))
theorem lv_split {b : Nat} {l : List Nat} {i : Nat} (h : i < l.length) : lv b l = lvT b l i + b ^ i * (lat l i + b * lv b (l.drop (i + 1))) := by
  have h1 := List.take_append_drop i l
  have h2 : l.drop i = l[i] :: l.drop (i + 1) := List.drop_eq_getElem_cons h
  unfold lvT
  conv => lhs; rw [← h1]
  rw [lv_append, h2, lat_at h, List.length_take, Nat.min_eq_left (by omega)]
  rfl
theorem lt_set {b : Nat} {l : List Nat} (h : Lt b l) {i v : Nat} (hv : v < b) : Lt b (l.set i v) := fun x hx => by
  rcases List.mem_or_eq_of_mem_set hx with h1 | h1
  · exact h x h1
  · rw [h1]; exact hv
theorem lv_set {b : Nat} : ∀ {l : List Nat} {i : Nat} (v : Nat), i < l.length → lv b (l.set i v) + b ^ i * lat l i = lv b l + b ^ i * v := by
  intro l
  induction l with
  | nil => intro i v h; simp at h
  | cons a r ih =>
    intro i v h
    cases i with
    | zero => simp [lv, lat]; omega
    | succ i =>
      have := ih v (by simpa using h)
      simp only [List.set_cons_succ, lv, lat, List.getElem?_cons_succ] at this ⊢
      grind
theorem lat_set {l : List Nat} {i j v : Nat} (h : i < l.length) : lat (l.set i v) j = if i = j then v else lat l j := by
  unfold lat
  rw [List.getElem?_set]
  by_cases hij : i = j
  · rw [if_pos hij, if_pos h, if_pos hij]
    rfl
  · rw [if_neg hij, if_neg hij]
/-- No zero at the end, and limbs all. -/
structure Norm (b : Nat) (l : List Nat) : Prop where
  lt : Lt b l
  top : l = [] ∨ lat l (l.length - 1) ≠ 0
theorem Norm.nil (b : Nat) : Norm b [] := ⟨fun x hx => by simp at hx, .inl rfl⟩
theorem Norm.ge {b : Nat} {l : List Nat} (h : Norm b l) (hne : l ≠ []) : b ^ (l.length - 1) ≤ lv b l := by
  have ht := h.top.resolve_left hne
  have hl : 0 < l.length := List.length_pos_iff.2 hne
  rw [lv_split (i := l.length - 1) (by omega)]
  have h1 : 1 ≤ lat l (l.length - 1) := by omega
  have h2 : b ^ (l.length - 1) * 1 ≤ b ^ (l.length - 1) * (lat l (l.length - 1) + b * lv b (l.drop (l.length - 1 + 1))) := Nat.mul_le_mul_left _ (by omega)
  omega
theorem Norm.zero {b : Nat} (hb : 0 < b) {l : List Nat} (h : Norm b l) : lv b l = 0 ↔ l = [] := by
  constructor
  · intro h0
    rcases Decidable.em (l = []) with h1 | h1
    · exact h1
    · have := h.ge h1
      have h2 : 0 < b ^ (l.length - 1) := Nat.pow_pos hb
      omega
  · intro h0
    rw [h0]
    rfl
theorem norm_len_lt {b : Nat} (hb : 0 < b) {x y : List Nat} (hx : Lt b x) (hy : Norm b y) (h : x.length < y.length) : lv b x < lv b y := by
  have h1 := lv_lt hx
  have h2 := hy.ge (fun e => by rw [e] at h; simp at h)
  have h3 : b ^ x.length ≤ b ^ (y.length - 1) := Nat.pow_le_pow_right hb (by omega)
  omega
/-- How many limbs are left without the zeros at the end. -/
def trimTo (l : List Nat) : Nat → Nat
  | 0 => 0
  | n + 1 => if lat l n = 0 then trimTo l n else n + 1
def trimL (l : List Nat) : List Nat := l.take (trimTo l l.length)
theorem trimTo_le (l : List Nat) : ∀ n, trimTo l n ≤ n := by
  intro n
  induction n with
  | zero => exact Nat.le_refl _
  | succ n ih =>
    unfold trimTo
    split <;> omega
theorem trimTo_lv (b : Nat) (l : List Nat) : ∀ n, lvT b l (trimTo l n) = lvT b l n := by
  intro n
  induction n with
  | zero => rfl
  | succ n ih =>
    unfold trimTo
    split
    · rename_i h
      rw [ih, lvT_succ, h]
      simp
    · rfl
theorem trimTo_top (l : List Nat) : ∀ n, trimTo l n = 0 ∨ lat l (trimTo l n - 1) ≠ 0 := by
  intro n
  induction n with
  | zero => exact .inl rfl
  | succ n ih =>
    unfold trimTo
    split
    · exact ih
    · rename_i h
      exact .inr h
theorem trimL_len (l : List Nat) : (trimL l).length = trimTo l l.length := by
  unfold trimL
  rw [List.length_take]
  exact Nat.min_eq_left (trimTo_le _ _)
theorem trimL_lv (b : Nat) (l : List Nat) : lv b (trimL l) = lv b l := by
  have := trimTo_lv b l l.length
  rw [lvT_all (Nat.le_refl _)] at this
  exact this
theorem trimL_norm {b : Nat} {l : List Nat} (h : Lt b l) : Norm b (trimL l) := by
  refine ⟨fun x hx => h x (List.mem_of_mem_take hx), ?_⟩
  rcases trimTo_top l l.length with h0 | h0
  · left
    apply List.eq_nil_of_length_eq_zero
    rw [trimL_len, h0]
  · rcases Nat.eq_zero_or_pos (trimTo l l.length) with h1 | h1
    · left
      apply List.eq_nil_of_length_eq_zero
      rw [trimL_len, h1]
    · right
      rw [trimL_len]
      have hle := trimTo_le l l.length
      have e : lat (trimL l) (trimTo l l.length - 1) = lat l (trimTo l l.length - 1) := by
        unfold lat trimL
        rw [List.getElem?_take, if_pos (by omega)]
      rw [e]
      exact h0
/-- Two lists of limbs of one length: the upper limb that parts them decides. -/
theorem lv_top_lt {b : Nat} (hb : 0 < b) {x y : List Nat} (hx : Lt b x) (hl : x.length = y.length) {i : Nat} (hi : i < x.length) (hd : x.drop (i + 1) = y.drop (i + 1)) (h : lat x i < lat y i) : lv b x < lv b y := by
  rw [lv_split hi, lv_split (l := y) (i := i) (by omega), hd]
  have h1 := lvT_lt hb hx i
  have h2 : b ^ i * (lat x i + 1 + b * lv b (y.drop (i + 1))) ≤ b ^ i * (lat y i + b * lv b (y.drop (i + 1))) := Nat.mul_le_mul_left _ (by omega)
  have h3 : b ^ i * (lat x i + 1 + b * lv b (y.drop (i + 1))) = b ^ i * (lat x i + b * lv b (y.drop (i + 1))) + b ^ i := by grind
  omega
/-- What a comparison says. -/
def CmpRes (r : Int) (x y : Nat) : Prop := (r < 0 ↔ x < y) ∧ (r = 0 ↔ x = y)
/-- A sign and a size. -/
def valS (m : Bool) (n : Nat) : Int := if m then -(n : Int) else (n : Int)

/-- A sum, limb by limb. -/
theorem plus_step {b i o c c2 n x y X Y : Nat} (h : o + b ^ i * c = X + Y) (h2 : x + y + c = n + b * c2) : (o + b ^ i * n) + b ^ (i + 1) * c2 = (X + b ^ i * x) + (Y + b ^ i * y) := by
  rw [Nat.pow_succ]
  grind
/-- A difference, limb by limb. -/
theorem minus_step {b i o c c2 n x y X Y : Nat} (h : o + Y = X + b ^ i * c) (h2 : n + y + c = x + b * c2) : (o + b ^ i * n) + (Y + b ^ i * y) = (X + b ^ i * x) + b ^ (i + 1) * c2 := by
  rw [Nat.pow_succ]
  grind
end Go.KI
namespace Go.Proofs.YthkioajalhglfaaGreatDoor
open Go.RowKit Go.KP Go.KI

theorem info3 : (Tryz.prog.info? 3).map (fun i => (i.zero, i.size, i.bytes)) = some (some (.int .i64 0), 1, 8) := by kernel_rfl
def icells (l : List Nat) : List Value := l.map fun (n : Nat) => Value.int .i64 (n : Int)
theorem icells_len (l : List Nat) : (icells l).length = l.length := by simp [icells]
theorem icells_append (a b : List Nat) : icells (a ++ b) = icells a ++ icells b := by simp [icells]
theorem icells_at {l : List Nat} {i : Nat} (h : i < l.length) : (icells l)[i]? = some (.int .i64 (lat l i)) := by
  unfold icells
  rw [List.getElem?_map, lat_some h]
  rfl
theorem icells_take (l : List Nat) (n : Nat) : icells (l.take n) = (icells l).take n := by simp [icells, List.map_take]
/-- The slice value v reads as the limbs l; it lies below block B. -/
def LimbAt (B : Nat) (w : World) (v : Value) (l : List Nat) : Prop := SlAt B w 1 v l.length (icells l)
theorem sl_form {B : Nat} {w : World} {sz : Nat} {v : Value} {n : Nat} {xs : List Value} (h : SlAt B w sz v n xs) : ∃ a c, v = .slice a n c := by
  rcases h.2 with ⟨a, c, h1, h2⟩ | ⟨b, o, cap, h1, _⟩
  · exact ⟨a, c, by rw [h1, h2]⟩
  · exact ⟨_, _, h1⟩
theorem LimbAt.form {B : Nat} {w : World} {v : Value} {l : List Nat} (h : LimbAt B w v l) : ∃ a c, v = .slice a l.length c := sl_form h
theorem LimbAt.below {B n0 : Nat} {w w2 : World} {v : Value} {l : List Nat} (h : LimbAt B w v l) (hb : Below n0 w w2) (hB : B ≤ n0) : LimbAt B w2 v l := SlAt.below h hb hB
theorem LimbAt.mono {B B2 : Nat} {w : World} {v : Value} {l : List Nat} (h : LimbAt B w v l) (hB : B ≤ B2) : LimbAt B2 w v l := SlAt.mono h hB
theorem LimbAt.nil (B : Nat) (w : World) : LimbAt B w (.slice none 0 0) [] := SlAt.nil B w 1
theorem LimbAt.cases {B : Nat} {w : World} {v : Value} {l : List Nat} (h : LimbAt B w v l) :
    (∃ a c, v = .slice a 0 c ∧ l = []) ∨ ∃ b o cap, v = .slice (some ⟨b, o, none⟩) l.length cap ∧ b < B ∧ ∀ i, i < l.length → w.cell? ⟨b, o + i, none⟩ = some (.int .i64 (lat l i)) := by
  rcases h.2 with ⟨a, c, h1, h2⟩ | ⟨b, o, cap, hv, hlt, hc⟩
  · exact .inl ⟨a, c, h1, List.eq_nil_of_length_eq_zero h2⟩
  · exact .inr ⟨b, o, cap, hv, hlt, fun i hi => hc i _ (icells_at hi)⟩
/-- A row of limbs of the call's own. -/
def OwnL (base : Nat) (w : World) (v : Value) (l : List Nat) : Prop := w.ownsRow base 3 1 v l.length (icells l)
theorem OwnL.at_ {base : Nat} {w : World} {v : Value} {l : List Nat} (h : OwnL base w v l) : LimbAt w.heap.size w v l := SlAt.of_owns h
theorem OwnL.form {base : Nat} {w : World} {v : Value} {l : List Nat} (h : OwnL base w v l) : ∃ a c, v = .slice a l.length c ∧ l.length ≤ c ∧ c ≤ maxLen := by
  rcases h.2 with ⟨h1, h2⟩ | ⟨g, cap, cur, hv, _, _, h3, h4, _⟩
  · exact ⟨none, 0, by rw [h1, h2], by omega, by unfold maxLen; omega⟩
  · exact ⟨_, _, hv, h3, h4⟩
theorem OwnL.mono {base base2 : Nat} {w : World} {v : Value} {l : List Nat} (h : OwnL base w v l) (hb : base2 ≤ base) : OwnL base2 w v l := owns_mono h hb
theorem OwnL.nil (base : Nat) (w : World) : OwnL base w (.slice none 0 0) [] := World.ownsRow_nil _ _ _ _
/-- The same row, cut off. -/
theorem OwnL.cut {base : Nat} {w : World} {a : Option Addr} {n c : Nat} {l : List Nat} (h : OwnL base w (.slice a n c) l) {k : Nat} (hk : k ≤ l.length) : OwnL base w (.slice a k c) (l.take k) := by
  have hl : (l.take k).length = k := by rw [List.length_take]; exact Nat.min_eq_left hk
  refine ⟨by rw [icells_len]; omega, ?_⟩
  rcases h.2 with ⟨h1, h2⟩ | ⟨g, cap, cur, hv, h1, h2, h3, h4, h5, h6⟩
  · injection h1 with h1 h3 h4
    left
    refine ⟨?_, by omega⟩
    rw [h1, h4, show k = 0 by omega]
  · injection hv with hv1 hv2 hv3
    right
    refine ⟨g, cap, cur, by rw [hv1, hv3, hl], h1, h2, by omega, h4, h5, ?_⟩
    rw [icells_take, ← h6, List.take_take, hl, Nat.mul_one, Nat.mul_one, Nat.min_eq_left hk]
theorem OwnL.keep {base : Nat} {w w2 : World} {v : Value} {l : List Nat} (h : OwnL base w v l) (hb : Below w.heap.size w w2) : OwnL base w2 v l := owns_stay h (fun r hr => hb.block r (owns_lt h r hr))
/-- It returns limbs of its own. -/
def LimbsOf (base : Nat) (l : List Nat) (v : Value) (w2 : World) : Prop := OwnL base w2 v l

theorem limb_any (v : Value) (l : List Nat) (i : Nat) (B : Nat) (w : World) (h : LimbAt B w v l) (hi : i ≤ 1000000) :
    Calls Tryz.prog 70 #[v, .int .i64 i] w fun e w' => e = .returned (.int .i64 (lat l i)) ∧ w = w' := by
  have i0 : (0 : Int) ≤ (i : Int) := by omega
  rcases h.cases with ⟨a, c, rfl, rfl⟩ | ⟨b, o, cap, rfl, hb, hc⟩
  · have hlt : ((i : Int) < 0) = False := eq_false (by omega)
    have hl : lat [] i = 0 := rfl
    rw [hl]
    go_enter Tryz.func70, Tryz.ntmps70
    go_wp2
    go_ret
    exact ⟨rfl, rfl⟩
  · by_cases hlt : i < l.length
    · have hcell := hc i hlt
      have hlti : (i : Int) < (l.length : Int) := by omega
      clear hc h
      go_enter Tryz.func70, Tryz.ntmps70
      go_wp2
      go_ret
      exact ⟨rfl, rfl⟩
    · have hlti : ¬ (i : Int) < (l.length : Int) := by omega
      have hl := lat_past (l := l) (i := i) (by omega)
      rw [hl]
      clear hc h hl
      go_enter Tryz.func70, Tryz.ntmps70
      go_wp2
      go_ret
      exact ⟨rfl, rfl⟩
theorem trimTo_z {l : List Nat} {m : Nat} (h : lat l m = 0) : trimTo l (m + 1) = trimTo l m := if_pos h
theorem trimTo_p {l : List Nat} {m : Nat} (h : ¬ lat l m = 0) : trimTo l (m + 1) = m + 1 := if_neg h
set_option maxRecDepth 100000 in
set_option maxHeartbeats 1000000 in
theorem trim_any (a : Option Addr) (c : Nat) (l : List Nat) (B : Nat) (w : World) (h : LimbAt B w (.slice a l.length c) l) (hc : l.length ≤ c) (hl : l.length ≤ 1000000) :
    Calls Tryz.prog 68 #[.slice a l.length c] w fun e w' => e = .returned (.slice a (trimTo l l.length) c) ∧ w = w' := by
  have H := hide h
  obtain ⟨n, hn⟩ : ∃ n, n = l.length := ⟨_, rfl⟩
  rw [← hn] at hc hl ⊢
  have HN := hide hn
  clear h hn
  go_enter Tryz.func68, Tryz.ntmps68
  go_wp2_with fail
  go_loopw [0] (fun t wr => ∃ k : Nat, k ≤ n ∧ t = .slice a k c ∧ Hid (trimTo l k = trimTo l n) ∧ wr = w) (fun t _ => match t with | .slice _ k _ => k | _ => 0)
  case atStart => exact ⟨n, Nat.le_refl _, rfl, rfl, rfl⟩
  case round =>
    obtain ⟨k, hk, rfl, ht, rfl⟩ := hrel
    rcases Nat.eq_zero_or_pos k with h0 | h0
    · have hq : (0 < k) = False := eq_false (by omega)
      have HT := hide (show trimTo l n = k by rw [← ht.out, h0]; rfl)
      clear h0 ht
      go_wp2_with fail
      go_ret
      rw [HT.out]
      exact ⟨rfl, rfl⟩
    · rcases H.out.cases with ⟨a0, c0, hv, hnil⟩ | ⟨b, o, cap, hv, hb, hcl⟩
      · exfalso
        have := HN.out
        rw [hnil] at this
        simp at this
        omega
      · have hcell := hcl (k - 1) (by rw [← HN.out]; omega)
        injection hv with hv1 hv2 hv3
        subst hv1; subst hv3
        obtain ⟨m, hm⟩ : ∃ m, k = m + 1 := ⟨k - 1, by omega⟩
        subst hm
        rw [Nat.add_sub_cancel] at hcell
        have hq : decide (((m + 1 : Nat) : Int) > 0) = true := by simp
        have hm1 : ((m + 1 : Nat) : Int) - 1 = (m : Int) := by omega
        by_cases hz : lat l m = 0
        · have hz1 : ((lat l m : Int) == 0) = true := by rw [hz]; rfl
          have HT := hide (show trimTo l m = trimTo l n from (trimTo_z hz).symm.trans ht.out)
          clear hz ht hcl hv2
          go_wp2_with fail
          go_roundw
          case rel => exact ⟨m, by omega, rfl, HT, trivial⟩
          case measure => simp
        · have hz1 : ((lat l m : Int) == 0) = false := by simpa using hz
          have HT := hide (show trimTo l n = m + 1 from ht.out.symm.trans (trimTo_p hz))
          clear hz ht hcl hv2
          go_wp2_with fail
          go_ret
          rw [HT.out]
          exact ⟨rfl, rfl⟩
def plusP (x y c : Nat) : Nat × Nat := ((x + y + c) % 1000000000, (x + y + c) / 1000000000)
def minusP (x y c : Nat) : Nat × Nat := if y + c ≤ x then (x - (y + c), 0) else (x + 1000000000 - (y + c), 1)
set_option maxRecDepth 100000 in
theorem plus_any (x y c : Nat) (w : World) (hx : x < 1000000000) (hy : y < 1000000000) (hc : c ≤ 1) :
    Calls Tryz.prog 48 #[.int .i64 x, .int .i64 y, .int .i64 c] w fun e w' => e = .returned (.tuple #[.int .i64 (plusP x y c).1, .int .i64 (plusP x y c).2]) ∧ w = w' := by
  have x0 : (0 : Int) ≤ (x : Int) := by omega
  have y0 : (0 : Int) ≤ (y : Int) := by omega
  have c0 : (0 : Int) ≤ (c : Int) := by omega
  have x1 : (x : Int) < 1000000000 := by omega
  have y1 : (y : Int) < 1000000000 := by omega
  have c1 : (c : Int) ≤ 1 := by omega
  go_enter Tryz.func48, Tryz.ntmps48
  go_wp2
  go_ret2
  refine ⟨?_, rfl⟩
  have e1 : (((plusP x y c).1 : Nat) : Int) = ((x : Int) + y + c) % 1000000000 := by unfold plusP; simp
  have e2 : (((plusP x y c).2 : Nat) : Int) = ((x : Int) + y + c) / 1000000000 := by unfold plusP; simp
  rw [e1, e2]
  rfl
set_option maxRecDepth 100000 in
theorem minus_any (x y c : Nat) (w : World) (hx : x < 1000000000) (hy : y < 1000000000) (hc : c ≤ 1) :
    Calls Tryz.prog 49 #[.int .i64 x, .int .i64 y, .int .i64 c] w fun e w' => e = .returned (.tuple #[.int .i64 (minusP x y c).1, .int .i64 (minusP x y c).2]) ∧ w = w' := by
  have x0 : (0 : Int) ≤ (x : Int) := by omega
  have y0 : (0 : Int) ≤ (y : Int) := by omega
  have c0 : (0 : Int) ≤ (c : Int) := by omega
  have x1 : (x : Int) < 1000000000 := by omega
  have y1 : (y : Int) < 1000000000 := by omega
  have c1 : (c : Int) ≤ 1 := by omega
  by_cases h : y + c ≤ x
  · have hq : (c : Int) ≤ (x : Int) - y := by omega
    have HE := hide (show minusP x y c = (x - (y + c), 0) by unfold minusP; rw [if_pos h])
    go_enter Tryz.func49, Tryz.ntmps49
    go_wp2
    go_ret2
    refine ⟨?_, rfl⟩
    have e1 : (((minusP x y c).1 : Nat) : Int) = (x : Int) - y - c := by
      rw [HE.out]
      show ((x - (y + c) : Nat) : Int) = (x : Int) - y - c
      omega
    have e2 : (((minusP x y c).2 : Nat) : Int) = 0 := by rw [HE.out]; rfl
    rw [e1, e2]
    rfl
  · have hq : ((c : Int) ≤ (x : Int) - y) = False := eq_false (by omega)
    have HE := hide (show minusP x y c = (x + 1000000000 - (y + c), 1) by unfold minusP; rw [if_neg h])
    go_enter Tryz.func49, Tryz.ntmps49
    go_wp2
    go_ret2
    refine ⟨?_, rfl⟩
    have e1 : (((minusP x y c).1 : Nat) : Int) = (x : Int) - y - c + 1000000000 := by
      rw [HE.out]
      show ((x + 1000000000 - (y + c) : Nat) : Int) = (x : Int) - y - c + 1000000000
      omega
    have e2 : (((minusP x y c).2 : Nat) : Int) = 1 := by rw [HE.out]; rfl
    rw [e1, e2]
    rfl
end Go.Proofs.YthkioajalhglfaaGreatDoor
namespace Go.Proofs.YthkioajalhglfaaGreatDoor
open Go.RowKit Go.KP Go.KI Go.Shelf

/-- The table of powers of ten stands. -/
abbrev P10 (B : Nat) (w : World) : Prop := Lib.TabBelow Tryz.prog B w "internal/strconv.uint64pow10" .u64 Lib.pow10Tab
theorem P10.mono {B B2 : Nat} {w : World} (h : P10 B w) (hB : B ≤ B2) : P10 B2 w := fun w' hb => h w' (hb.mono hB)
theorem below_grow (w : World) (n : Nat) (os : Array Obj) : Below w.heap.size w (Go.Sort.grow (w.drewN n) os) :=
  ⟨rfl, rfl, rfl, by show w.heap.size ≤ (w.heap ++ os).size; rw [Array.size_append]; omega, fun j hj => by
    show (w.heap ++ os)[j]? = w.heap[j]?
    rw [Array.getElem?_append_left hj]⟩
/-- A string by its bytes. -/
def strB (l : List UInt8) : ByteArray := ⟨l.toArray⟩
theorem strB_list (l : List UInt8) : (strB l).data.toList = l := by simp [strB]
theorem strB_of (s : ByteArray) : strB s.data.toList = s := rfl
theorem strB_size (l : List UInt8) : (strB l).size = l.length := by
  show l.toArray.size = l.length
  simp
theorem bytes_len (s : ByteArray) : s.data.toList.length = s.size := by rw [Array.length_toList]; rfl
theorem bytes_eq {s t : ByteArray} (h : s.data.toList = t.data.toList) : s = t := by
  rw [← strB_of s, h, strB_of]
theorem itoa_any (n : Int) (h0 : -9223372036854775808 ≤ n) (h1 : n ≤ 9223372036854775807) (B : Nat) (w : World) (hT : P10 B w) :
    Calls Tryz.prog 34 #[.int .i64 n] w fun e w' => e = .returned (.string (strB (Lib.itoa n))) ∧ Below w.heap.size w w' :=
  (Tryz.strconv_Itoa n h0 h1 w hT.here).mono fun e w' ⟨h, k, os, hw⟩ => ⟨h, by rw [hw]; exact below_grow w k os⟩
theorem trimPrefix_digs (l : List UInt8) : Lib.trimPrefix l [45] = digs l := by
  cases l with
  | nil => rfl
  | cons c r =>
    by_cases h : c = 45
    · subst h
      simp [Lib.trimPrefix, Lib.hasPrefix, digs, List.isPrefixOf]
    · simp [Lib.trimPrefix, Lib.hasPrefix, digs, List.isPrefixOf, h, Ne.symm h]
theorem trimPrefix_any (s : ByteArray) (w : World) :
    Calls Tryz.prog 62 #[.string s, .string ⟨#[45]⟩] w fun e w' => e = .returned (.string (strB (digs s.data.toList))) ∧ w = w' :=
  (Tryz.strings_TrimPrefix s ⟨#[45]⟩ w).mono fun e w' ⟨h, hw⟩ => ⟨by rw [h, ← trimPrefix_digs]; rfl, hw.symm⟩
theorem cutPrefix_any (s : ByteArray) (w : World) :
    Calls Tryz.prog 66 #[.string s, .string ⟨#[45]⟩] w fun e w' => e = .returned (.tuple #[.string (strB (digs s.data.toList)), .bool (decide (s.data.toList.head? = some 45))]) ∧ w = w' :=
  (Tryz.strings_CutPrefix s ⟨#[45]⟩ w).mono fun e w' ⟨h, hw⟩ => ⟨by
    have e1 : Lib.hasPrefix s.data.toList (⟨#[45]⟩ : ByteArray).data.toList = decide (s.data.toList.head? = some 45) := by
      show Lib.hasPrefix s.data.toList [45] = _
      cases s.data.toList with
      | nil => rfl
      | cons c r =>
        by_cases h : c = 45
        · subst h
          simp [Lib.hasPrefix, List.isPrefixOf]
        · simp [Lib.hasPrefix, List.isPrefixOf, h, Ne.symm h]
    rw [h, e1, ← trimPrefix_digs]
    rfl, hw.symm⟩
def cutset : List UInt8 := [48, 49, 50, 51, 52, 53, 54, 55, 56, 57]
theorem cutset_dg (c : UInt8) : cutset.contains c = isDg c := by
  have h : ∀ n : Fin 256, cutset.contains (UInt8.ofNat n.val) = isDg (UInt8.ofNat n.val) := by decide +kernel
  have := h ⟨c.toNat, c.toNat_lt⟩
  simpa using this
theorem dropW_nil {p : UInt8 → Bool} : ∀ {l : List UInt8}, l.dropWhile p = [] ↔ l.all p = true := by
  intro l
  induction l with
  | nil => simp
  | cons a r ih =>
    by_cases h : p a = true
    · rw [List.dropWhile_cons_of_pos h, ih]
      simp [h]
    · rw [List.dropWhile_cons_of_neg h]
      simp [h]
theorem trimS_nil (l : List UInt8) : Lib.trimS l cutset = [] ↔ l.all isDg = true := by
  have hp : (fun x => cutset.contains x) = isDg := funext cutset_dg
  unfold Lib.trimS Lib.trimLeftS Lib.trimRightS
  rw [hp, dropW_nil, List.all_reverse]
  constructor
  · intro h
    cases hd : l.reverse.dropWhile isDg with
    | nil => rw [dropW_nil, List.all_reverse] at hd; exact hd
    | cons a r =>
      exfalso
      rw [hd] at h
      simp only [List.all_cons, Bool.and_eq_true] at h
      have key : ∀ l : List UInt8, ∀ a r, l.dropWhile isDg = a :: r → isDg a = false := by
        intro l
        induction l with
        | nil => intro a r h; simp at h
        | cons x t ih =>
          intro a r h
          by_cases hx : isDg x = true
          · rw [List.dropWhile_cons_of_pos hx] at h
            exact ih a r h
          · rw [List.dropWhile_cons_of_neg hx] at h
            injection h with h1 h2
            rw [← h1]
            simpa using hx
      rw [key _ _ _ hd] at h
      exact absurd h.1 (by simp)
  · intro h
    have h2 : l.reverse.dropWhile isDg = [] := by rw [dropW_nil, List.all_reverse]; exact h
    rw [h2]
    rfl
theorem trimDg_any (s : ByteArray) (w : World) (hs : s.size ≤ 9223372036854775807) :
    Calls Tryz.prog 63 #[.string s, .string ⟨#[48, 49, 50, 51, 52, 53, 54, 55, 56, 57]⟩] w fun e w' => e = .returned (.string (strB (Lib.trimS s.data.toList cutset))) ∧ Below w.heap.size w w' :=
  (Any.strings_Trim_laid Tryz.lays160 (by kernel_rfl) s ⟨#[48, 49, 50, 51, 52, 53, 54, 55, 56, 57]⟩ w hs (by decide) (by
    intro j b h
    have hm : b ∈ cutset := List.mem_of_getElem? h
    have h2 : cutset.contains b = true := by simpa using hm
    rw [cutset_dg] at h2
    have := isDg_iff.1 h2
    omega)).mono fun e w' ⟨h, hw⟩ => ⟨h, hw⟩
theorem repeat_any (s : ByteArray) (c : Nat) (w : World) (hc : c ≤ 1000000) (hs : s.size ≤ 1000) :
    Calls Tryz.prog 54 #[.string s, .int .i64 c] w fun e w' => e = .returned (.string (strB (Lib.repeatL s.data.toList c))) ∧ Below w.heap.size w w' :=
  Tryz.strings_Repeat s c w (by omega) (by have : s.size * c ≤ 1000 * 1000000 := Nat.mul_le_mul hs hc; omega)

theorem empty_yes {s : ByteArray} (h : s.data.toList = []) : s.toList.isEmpty = true := by
  rw [ByteArray.toList_eq, h]
  rfl
theorem empty_no {s : ByteArray} (h : s.data.toList ≠ []) : s.toList.isEmpty = false := by
  rw [ByteArray.toList_eq]
  cases hx : s.data.toList with
  | nil => exact absurd hx h
  | cons a r => rfl
theorem bytes_head {s : ByteArray} (h : s.data.toList ≠ []) : ∃ hp : 0 < s.size, s.data.toList.head? = some s[0] := by
  have hp : 0 < s.size := by
    rw [← bytes_len]
    exact List.length_pos_iff.2 h
  refine ⟨hp, ?_⟩
  rw [List.head?_eq_getElem?]
  have h1 : s.data.toList[0]? = some s.data[0] := by simp
  exact h1
set_option maxRecDepth 100000 in
set_option maxHeartbeats 1000000 in
theorem check_any (s : ByteArray) (hs : s.size ≤ 1000000) (w : World) :
    Calls Tryz.prog 32 #[.string s] w (Ret w (.int .i64 (chkI s.data.toList))) := by
  obtain ⟨d, hd⟩ : ∃ d, d = strB (digs s.data.toList) := ⟨_, rfl⟩
  have hdl : d.data.toList = digs s.data.toList := by rw [hd]; exact strB_list _
  have hds : d.size ≤ 1000000 := by
    rw [← bytes_len, hdl]
    have : (digs s.data.toList).length ≤ s.data.toList.length := by
      cases s.data.toList with
      | nil => exact Nat.le_refl _
      | cons c r =>
        simp only [digs]
        split <;> simp
    rw [bytes_len] at this
    omega
  have HTP := hide (trimPrefix_any s w)
  rw [← hd] at HTP
  have HC := hide (show chkI s.data.toList = if d.data.toList = [] ∨ (d.data.toList.head? = some 48 ∧ s.data.toList ≠ [48]) ∨ ¬ d.data.toList.all isDg = true then 11 else if 300 < d.data.toList.length then 4 else 0 by rw [hdl]; rfl)
  have HTR := hide (trimDg_any d w (by omega))
  have HS := hide (show s.data.toList = [48] → d.data.toList = [48] by intro h; rw [hdl, h]; rfl)
  clear hd hdl
  by_cases h0 : d.data.toList = []
  · have hemp := empty_yes h0
    have HE := hide (show chkI s.data.toList = 11 by rw [HC.out, if_pos (.inl h0)])
    clear h0
    go_enter Tryz.func32, Tryz.ntmps32
    go_wp2_with fail
    refine HTP.out.mono ?_
    rintro e w1 ⟨rfl, rfl⟩
    go_wp2_with fail
    go_ret
    rw [HE.out]
    exact ⟨rfl, Below.refl _ _⟩
  have hemp := empty_no h0
  obtain ⟨hp, hh⟩ := bytes_head h0
  have hp0 : (0 : Int) < (d.size : Int) := by omega
  by_cases h1 : d.data.toList.head? = some 48 ∧ s.data.toList ≠ [48]
  · have h48 : ((d[0].toNat : Int) == 48) = true := by
      rw [hh] at h1
      injection h1.1 with h2
      rw [h2]
      rfl
    have hne : (s.toList == [48]) = false := by
      rw [ByteArray.toList_eq]
      simpa using h1.2
    have HE := hide (show chkI s.data.toList = 11 by rw [HC.out, if_pos (.inr (.inl h1))])
    clear h0 h1 hh
    go_enter Tryz.func32, Tryz.ntmps32
    go_wp2_with fail
    refine HTP.out.mono ?_
    rintro e w1 ⟨rfl, rfl⟩
    go_wp2_with fail
    go_ret
    rw [HE.out]
    exact ⟨rfl, Below.refl _ _⟩
  have hway : (((d[0].toNat : Int) == 48) = false) ∨ (((d[0].toNat : Int) == 48) = true ∧ (s.toList == [48]) = true) := by
    by_cases h48 : d[0] = 48
    · right
      refine ⟨by rw [h48]; rfl, ?_⟩
      rw [ByteArray.toList_eq]
      have : s.data.toList = [48] := Decidable.byContradiction fun h => h1 ⟨by rw [hh, h48], h⟩
      rw [this]
      rfl
    · left
      have : d[0].toNat ≠ 48 := fun h => h48 (UInt8.toNat_inj.1 h)
      simp
      omega
  obtain ⟨tr, htr⟩ : ∃ tr, tr = strB (Lib.trimS d.data.toList cutset) := ⟨_, rfl⟩
  rw [← htr] at HTR
  have htl : tr.data.toList = Lib.trimS d.data.toList cutset := by rw [htr]; exact strB_list _
  by_cases hall : d.data.toList.all isDg = true
  · have htn : tr.data.toList = [] := by rw [htl]; exact (trimS_nil _).2 hall
    have het : tr.toList.isEmpty = true := empty_yes htn
    have HE := hide (show chkI s.data.toList = if 300 < d.size then 4 else 0 by
      rw [HC.out, if_neg (fun h => by
        rcases h with h | h | h
        · exact h0 h
        · exact h1 h
        · exact h hall), bytes_len])
    clear h0 h1 hh htr htl hall htn
    rcases hway with h48 | ⟨h48, hne⟩
    all_goals
      by_cases hl : 300 < d.size
      · have hl2 : (300 : Int) < (d.size : Int) := by omega
        have HE2 := hide (HE.out.trans (if_pos hl))
        go_enter Tryz.func32, Tryz.ntmps32
        go_wp2_with fail
        refine HTP.out.mono ?_
        rintro e w1 ⟨rfl, rfl⟩
        go_wp2_with fail
        refine HTR.out.mono ?_
        rintro e w1 ⟨rfl, hb⟩
        have HB := hide hb
        clear hb
        go_wp2_with fail
        go_ret
        rw [HE2.out]
        exact ⟨rfl, HB.out⟩
      · have hl2 : ¬ (300 : Int) < (d.size : Int) := by omega
        have HE2 := hide (HE.out.trans (if_neg hl))
        go_enter Tryz.func32, Tryz.ntmps32
        go_wp2_with fail
        refine HTP.out.mono ?_
        rintro e w1 ⟨rfl, rfl⟩
        go_wp2_with fail
        refine HTR.out.mono ?_
        rintro e w1 ⟨rfl, hb⟩
        have HB := hide hb
        clear hb
        go_wp2_with fail
        go_ret
        rw [HE2.out]
        exact ⟨rfl, HB.out⟩
  · have htn : tr.data.toList ≠ [] := by rw [htl]; exact fun h => hall ((trimS_nil _).1 h)
    have het : tr.toList.isEmpty = false := empty_no htn
    have HE := hide (show chkI s.data.toList = 11 by rw [HC.out, if_pos (.inr (.inr hall))])
    clear h0 h1 hh htr htl hall htn
    rcases hway with h48 | ⟨h48, hne⟩
    all_goals
      go_enter Tryz.func32, Tryz.ntmps32
      go_wp2_with fail
      refine HTP.out.mono ?_
      rintro e w1 ⟨rfl, rfl⟩
      go_wp2_with fail
      refine HTR.out.mono ?_
      rintro e w1 ⟨rfl, hb⟩
      have HB := hide hb
      clear hb
      go_wp2_with fail
      go_ret
      rw [HE.out]
      exact ⟨rfl, HB.out⟩
/-- The first error of two strings. -/
def bothI (a b : List UInt8) : Int := if chkI a = 0 then chkI b else chkI a
set_option maxRecDepth 100000 in
theorem both_any (s t : ByteArray) (hs : s.size ≤ 1000000) (ht : t.size ≤ 1000000) (w : World) :
    Calls Tryz.prog 36 #[.string s, .string t] w (Ret w (.int .i64 (bothI s.data.toList t.data.toList))) := by
  have H1 := hide (check_any s hs w)
  by_cases h : chkI s.data.toList = 0
  · have hq : (chkI s.data.toList != 0) = false := by simp [h]
    have HE := hide (show bothI s.data.toList t.data.toList = chkI t.data.toList by unfold bothI; rw [if_pos h])
    obtain ⟨E, hE⟩ : ∃ E, E = chkI s.data.toList := ⟨_, rfl⟩
    rw [← hE] at H1 hq
    clear h hE
    go_enter Tryz.func36, Tryz.ntmps36
    go_wp2_with fail
    refine H1.out.mono ?_
    rintro e w1 ⟨rfl, hb⟩
    have HB := hide hb
    clear hb
    go_wp2_with fail
    refine (check_any t ht w1).mono ?_
    rintro e w2 ⟨rfl, hb⟩
    have HB2 := hide (HB.out.trans (hb.mono HB.out.size))
    clear hb
    go_wp2_with fail
    go_ret
    rw [HE.out]
    exact ⟨rfl, HB2.out⟩
  · have hq : (chkI s.data.toList != 0) = true := by simpa using h
    have HE := hide (show bothI s.data.toList t.data.toList = chkI s.data.toList by unfold bothI; rw [if_neg h])
    obtain ⟨E, hE⟩ : ∃ E, E = chkI s.data.toList := ⟨_, rfl⟩
    rw [← hE] at H1 hq HE
    clear h hE
    go_enter Tryz.func36, Tryz.ntmps36
    go_wp2_with fail
    refine H1.out.mono ?_
    rintro e w1 ⟨rfl, hb⟩
    have HB := hide hb
    clear hb
    go_wp2_with fail
    go_ret
    rw [HE.out]
    exact ⟨rfl, HB.out⟩
/-- A valid string of up to 18 bytes is read by Atoi. -/
theorem atoi_valid {l : List UInt8} (h : chkI l = 0) (hl : l.length ≤ 18) : Lib.atoiAll l = .ok (valI l) := by
  obtain ⟨h1, _⟩ := chk_ok h
  have hd : ∀ (r : List UInt8), r = Lib.decDigits (valI l).natAbs → r.length ≤ 18 → ∃ c t, r = c :: t ∧ c.toNat ≠ 43 ∧ c.toNat ≠ 45 ∧ Lib.decNat r = some (valI l).natAbs := by
    intro r hr _
    cases hc : r with
    | nil => exact absurd (hr.symm.trans hc) (decDigits_ne _)
    | cons c t =>
      have h2 := isDg_iff.1 (decDigits_dg (valI l).natAbs c (by rw [← hr, hc]; simp))
      refine ⟨c, t, rfl, by omega, by omega, ?_⟩
      unfold Lib.decNat
      rw [← hc, hr, decFrom_decDigits]
      rw [← hr, hc]
      rfl
  rcases itoa_cases (valI l) with ⟨hn, h2⟩ | ⟨hn, h2⟩
  · rw [h2] at h1
    obtain ⟨c, t, hct, h3, h4, h5⟩ := hd _ rfl (by rw [h1] at hl; simp at hl; omega)
    rw [h1, Lib.atoiAll_minus, Lib.signed_short (by rw [h1] at hl; simp at hl; omega), h5, ← h2, val_itoa]
    show Lib.NumEnd.ok (-((valI l).natAbs : Int)) = _
    congr 1
    omega
  · rw [h2] at h1
    obtain ⟨c, t, hct, h3, h4, h5⟩ := hd _ rfl (by rw [← h1]; exact hl)
    have e := Lib.signless_short (l := Lib.decDigits (valI l).natAbs) (by rw [← h1]; exact hl)
    rw [h5] at e
    have e2 : Lib.atoiAll (Lib.decDigits (valI l).natAbs) = .ok ((valI l).natAbs : Int) := by
      rw [hct] at e ⊢
      rw [Lib.atoiAll_plain c t h3 h4, e]
      rfl
    rw [h1, e2, ← h2, val_itoa]
    congr 1
    omega
end Go.Proofs.YthkioajalhglfaaGreatDoor
