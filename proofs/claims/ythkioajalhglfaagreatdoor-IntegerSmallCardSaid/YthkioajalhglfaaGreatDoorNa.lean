/-
  Integers as strings: numerals. Plain facts, no program in sight.
-/
import Derived.Lib.AtoiTie
import Derived.Lib.ItoaMem
namespace Go.KI
open Go

def isDg (c : UInt8) : Bool := decide (48 ≤ c.toNat) && decide (c.toNat ≤ 57)
theorem isDg_iff {c : UInt8} : isDg c = true ↔ 48 ≤ c.toNat ∧ c.toNat ≤ 57 := by simp [isDg]
theorem dg_nat (d : Nat) (h : d < 10) : (UInt8.ofNat (48 + d)).toNat = 48 + d := by
  have h1 : 48 + d < 256 := by omega
  simp [UInt8.toNat_ofNat', Nat.mod_eq_of_lt h1]
theorem decDigits_ne (u : Nat) : Lib.decDigits u ≠ [] := by
  rw [Lib.decDigits]
  split <;> simp
theorem decDigits_dg : ∀ (u : Nat), ∀ c ∈ Lib.decDigits u, isDg c = true := by
  intro u
  induction u using Nat.strongRecOn with
  | ind u ih =>
    intro c hc
    rw [Lib.decDigits] at hc
    split at hc
    · rename_i h
      simp only [List.mem_singleton] at hc
      subst hc
      rw [isDg_iff, dg_nat u h]
      omega
    · rename_i h
      simp only [List.mem_append, List.mem_singleton] at hc
      rcases hc with hc | hc
      · exact ih (u / 10) (by omega) c hc
      · subst hc
        rw [isDg_iff, dg_nat _ (by omega)]
        omega
/-- Digits without a zero in front are a numeral. -/
theorem digits_dec : ∀ (n : Nat) (l : List UInt8), l.length = n → l ≠ [] → (∀ c ∈ l, isDg c = true) → (1 < l.length → l.head? ≠ some 48) → ∃ u, l = Lib.decDigits u := by
  intro n
  induction n with
  | zero => intro l h h1; exact absurd (List.eq_nil_of_length_eq_zero h) h1
  | succ n ih =>
    intro l hn hne hd hz
    obtain ⟨a, c, rfl⟩ : ∃ a c, l = a ++ [c] := ⟨l.dropLast, l.getLast hne, (List.dropLast_concat_getLast hne).symm⟩
    have hc := isDg_iff.1 (hd c (by simp))
    have ec : c = UInt8.ofNat (48 + (c.toNat - 48)) := by
      apply UInt8.toNat_inj.1
      rw [dg_nat _ (by omega)]
      omega
    cases a with
    | nil =>
      refine ⟨c.toNat - 48, ?_⟩
      rw [Lib.decDigits_one (by omega), ← ec]
      rfl
    | cons x a =>
      simp only [List.length_append, List.length_cons, List.length_nil] at hn hz
      have hx : x ≠ 48 := by
        have := hz (by omega)
        simpa using this
      obtain ⟨u, hu⟩ := ih (x :: a) (by simp; omega) (by simp) (fun c hc => hd c (by simp at hc ⊢; rcases hc with h | h; exact .inl h; exact .inr (.inl h))) (fun _ => by simpa using hx)
      have hu1 : 1 ≤ u := by
        rcases Nat.eq_zero_or_pos u with h0 | h0
        · subst h0
          rw [Lib.decDigits_one (by omega)] at hu
          injection hu with h1 h2
          exact absurd h1 hx
        · exact h0
      refine ⟨u * 10 + (c.toNat - 48), ?_⟩
      rw [Lib.decDigits, dif_neg (by omega), show (u * 10 + (c.toNat - 48)) / 10 = u by omega, show (u * 10 + (c.toNat - 48)) % 10 = c.toNat - 48 by omega, ← ec, hu]
/-- The value of digits. -/
def dv (l : List UInt8) : Nat := l.foldl (fun a c => a * 10 + (c.toNat - 48)) 0
theorem dv_nil : dv [] = 0 := rfl
theorem dv_snoc (l : List UInt8) (c : UInt8) : dv (l ++ [c]) = dv l * 10 + (c.toNat - 48) := by simp [dv]
theorem dv_append (a b : List UInt8) : dv (a ++ b) = dv a * 10 ^ b.length + dv b := by
  obtain ⟨n, hn⟩ : ∃ n, n = b.length := ⟨_, rfl⟩
  induction n generalizing b with
  | zero => rw [List.eq_nil_of_length_eq_zero hn.symm]; simp [dv_nil]
  | succ n ih =>
    have hne : b ≠ [] := fun h => by rw [h] at hn; simp at hn
    obtain ⟨b, c, rfl⟩ : ∃ a c, b = a ++ [c] := ⟨b.dropLast, b.getLast hne, (List.dropLast_concat_getLast hne).symm⟩
    rw [← List.append_assoc, dv_snoc, dv_snoc, ih b (by simpa using hn), List.length_append, List.length_singleton, Nat.pow_succ, Nat.add_mul, Nat.mul_assoc, Nat.add_assoc]
theorem dv_decDigits : ∀ u : Nat, dv (Lib.decDigits u) = u := by
  intro u
  induction u using Nat.strongRecOn with
  | ind u ih =>
    rw [Lib.decDigits]
    split
    · rename_i h
      show 0 * 10 + ((UInt8.ofNat (48 + u)).toNat - 48) = u
      rw [dg_nat u h]
      omega
    · rename_i h
      rw [dv_snoc, ih (u / 10) (by omega), dg_nat _ (by omega)]
      omega
theorem dec_of {l : List UInt8} (h0 : l ≠ []) (hd : ∀ c ∈ l, isDg c = true) (h1 : 1 < l.length → l.head? ≠ some 48) : l = Lib.decDigits (dv l) := by
  obtain ⟨u, hu⟩ := digits_dec l.length l rfl h0 hd h1
  have h2 := dv_decDigits u
  rw [← hu] at h2
  rw [h2]
  exact hu
theorem dv_lt : ∀ (l : List UInt8), (∀ c ∈ l, isDg c = true) → dv l < 10 ^ l.length := by
  intro l
  obtain ⟨n, hn⟩ : ∃ n, n = l.length := ⟨_, rfl⟩
  induction n generalizing l with
  | zero => rw [List.eq_nil_of_length_eq_zero hn.symm]; simp [dv_nil]
  | succ n ih =>
    intro hd
    have hne : l ≠ [] := fun h => by rw [h] at hn; simp at hn
    obtain ⟨l, c, rfl⟩ : ∃ a c, l = a ++ [c] := ⟨l.dropLast, l.getLast hne, (List.dropLast_concat_getLast hne).symm⟩
    have h1 := ih l (by simpa using hn) (fun c hc => hd c (by simp [hc]))
    have h2 := isDg_iff.1 (hd c (by simp))
    rw [dv_snoc, List.length_append, List.length_singleton, Nat.pow_succ]
    omega
theorem dec_len_pos (u : Nat) : 1 ≤ (Lib.decDigits u).length := by
  cases h : Lib.decDigits u with
  | nil => exact absurd h (decDigits_ne u)
  | cons a r => simp
theorem dec_lt (u : Nat) : u < 10 ^ (Lib.decDigits u).length := by
  have := dv_lt _ (decDigits_dg u)
  rwa [dv_decDigits] at this
theorem dec_ge : ∀ (u : Nat), 1 ≤ u → 10 ^ ((Lib.decDigits u).length - 1) ≤ u := by
  intro u
  induction u using Nat.strongRecOn with
  | ind u ih =>
    intro hu
    rw [Lib.decDigits]
    split
    · simpa using hu
    · rename_i h
      have h1 := ih (u / 10) (by omega) (by omega)
      have h2 := dec_len_pos (u / 10)
      rw [List.length_append, List.length_singleton, Nat.add_sub_cancel]
      obtain ⟨n, hn⟩ : ∃ n, (Lib.decDigits (u / 10)).length = n + 1 := ⟨(Lib.decDigits (u / 10)).length - 1, by omega⟩
      rw [hn] at h1 ⊢
      rw [Nat.add_sub_cancel] at h1
      rw [Nat.pow_succ]
      omega
theorem dec_len_le {u n : Nat} (hn : 1 ≤ n) : (Lib.decDigits u).length ≤ n ↔ u < 10 ^ n := by
  constructor
  · intro h
    exact Nat.lt_of_lt_of_le (dec_lt u) (Nat.pow_le_pow_right (by omega) h)
  · intro h
    rcases Nat.eq_zero_or_pos u with h0 | h0
    · rw [h0, Lib.decDigits_one (by omega)]
      exact hn
    · have h1 := dec_ge u h0
      have h2 : 10 ^ ((Lib.decDigits u).length - 1) < 10 ^ n := Nat.lt_of_le_of_lt h1 h
      have h3 := (Nat.pow_lt_pow_iff_right (by omega : 1 < 10)).1 h2
      omega
theorem dec_zero : Lib.decDigits 0 = [48] := by rw [Lib.decDigits_one (by omega)]; rfl
theorem dec_head : ∀ u : Nat, (Lib.decDigits u).head? = some 48 → u = 0 := by
  intro u
  induction u using Nat.strongRecOn with
  | ind u ih =>
    intro hh
    rw [Lib.decDigits] at hh
    split at hh
    · rename_i hu
      simp only [List.head?_cons, Option.some.injEq] at hh
      have := congrArg UInt8.toNat hh
      rw [dg_nat u hu] at this
      simp at this
      omega
    · rename_i hu
      have hne := decDigits_ne (u / 10)
      have : (Lib.decDigits (u / 10)).head? = some 48 := by
        cases hd : Lib.decDigits (u / 10) with
        | nil => exact absurd hd hne
        | cons a b => rw [hd] at hh; simpa using hh
      have := ih (u / 10) (by omega) this
      omega
theorem dec_inj {u v : Nat} (h : Lib.decDigits u = Lib.decDigits v) : u = v := by
  rw [← dv_decDigits u, h, dv_decDigits]
/-- A numeral cut into two: k digits at the end. -/
theorem dec_split {q r k : Nat} (hq : 1 ≤ q) (hr : r < 10 ^ k) (hk : 1 ≤ k) : Lib.decDigits (q * 10 ^ k + r) = Lib.decDigits q ++ (List.replicate (k - (Lib.decDigits r).length) 48 ++ Lib.decDigits r) := by
  have hl : (Lib.decDigits r).length ≤ k := (dec_len_le hk).2 hr
  have hz : ∀ n, dv (List.replicate n (48 : UInt8)) = 0 := by
    intro n
    induction n with
    | zero => rfl
    | succ n ih => rw [List.replicate_succ', dv_snoc, ih]; rfl
  have e : dv (Lib.decDigits q ++ (List.replicate (k - (Lib.decDigits r).length) 48 ++ Lib.decDigits r)) = q * 10 ^ k + r := by
    rw [dv_append, dv_append, hz, dv_decDigits, dv_decDigits, List.length_append, List.length_replicate, Nat.sub_add_cancel hl]
    omega
  have h := dec_of (l := Lib.decDigits q ++ (List.replicate (k - (Lib.decDigits r).length) 48 ++ Lib.decDigits r)) (by simp [decDigits_ne]) (by
    intro c hc
    rcases List.mem_append.1 hc with h | h
    · exact decDigits_dg q c h
    · rcases List.mem_append.1 h with h | h
      · rw [List.eq_of_mem_replicate h]; rfl
      · exact decDigits_dg r c h) (by
    intro _ hh
    have : (Lib.decDigits q).head? = some 48 := by
      cases hd : Lib.decDigits q with
      | nil => exact absurd hd (decDigits_ne q)
      | cons a b => rw [hd] at hh; simpa using hh
    have := dec_head q this
    omega)
  rw [e] at h
  exact h.symm

theorem decFrom_append : ∀ (a b : List UInt8) (acc : Nat), Lib.decFrom acc (a ++ b) = (Lib.decFrom acc a).bind fun m => Lib.decFrom m b := by
  intro a
  induction a with
  | nil => intro b acc; rfl
  | cons c r ih =>
    intro b acc
    simp only [List.cons_append, Lib.decFrom]
    cases Lib.digitVal c with
    | none => rfl
    | some d => exact ih b _
theorem digitVal_dg (d : Nat) (h : d < 10) : Lib.digitVal (UInt8.ofNat (48 + d)) = some d := by
  unfold Lib.digitVal
  rw [dg_nat d h, if_pos (by omega)]
  simp
theorem decFrom_decDigits : ∀ u : Nat, Lib.decFrom 0 (Lib.decDigits u) = some u := by
  intro u
  induction u using Nat.strongRecOn with
  | ind u ih =>
    rw [Lib.decDigits]
    split
    · rename_i h
      simp only [Lib.decFrom, digitVal_dg u h]
      simp
    · rename_i h
      rw [decFrom_append, ih (u / 10) (by omega)]
      simp only [Option.bind_some, Lib.decFrom, digitVal_dg (u % 10) (by omega)]
      congr 1
      omega
/-- What is allowed: up to 300 digits. -/
def most : Nat := 300
theorem most_eq : most = 300 := rfl
def lim : Nat := 10 ^ most
def fits (z : Int) : Prop := z.natAbs < lim
instance (z : Int) : Decidable (fits z) := inferInstanceAs (Decidable (z.natAbs < lim))
theorem fits_len {z : Int} : fits z ↔ (Lib.decDigits z.natAbs).length ≤ 300 := (dec_len_le (n := most) (by rw [most_eq]; omega)).symm
/-- The digits of a string: without the sign. -/
def digs : List UInt8 → List UInt8
  | [] => []
  | c :: r => if c = 45 then r else c :: r
def valI (l : List UInt8) : Int := if l.head? = some 45 then -((dv (digs l) : Nat) : Int) else ((dv (digs l) : Nat) : Int)
/-- Why a string is no integer. -/
def chkI (l : List UInt8) : Int := if digs l = [] ∨ ((digs l).head? = some 48 ∧ l ≠ [48]) ∨ ¬ (digs l).all isDg = true then 11 else if 300 < (digs l).length then 4 else 0
theorem itoa_cases (z : Int) : (z < 0 ∧ Lib.itoa z = 45 :: Lib.decDigits z.natAbs) ∨ (0 ≤ z ∧ Lib.itoa z = Lib.decDigits z.natAbs) := by
  unfold Lib.itoa
  by_cases h : z < 0
  · exact .inl ⟨h, if_pos h⟩
  · refine .inr ⟨by omega, ?_⟩
    rw [if_neg h]
    congr 1
    omega
theorem dec_head45 (u : Nat) : (Lib.decDigits u).head? ≠ some 45 := by
  intro h
  cases hd : Lib.decDigits u with
  | nil => exact decDigits_ne u hd
  | cons a b =>
    rw [hd] at h
    simp at h
    have := isDg_iff.1 (decDigits_dg u a (by rw [hd]; simp))
    rw [h] at this
    have e : (45 : UInt8).toNat = 45 := rfl
    omega
theorem digs_dec (u : Nat) : digs (Lib.decDigits u) = Lib.decDigits u := by
  have h := dec_head45 u
  cases hd : Lib.decDigits u with
  | nil => rfl
  | cons a b =>
    rw [hd] at h
    show (if a = 45 then b else a :: b) = a :: b
    rw [if_neg (by simpa using h)]
theorem digs_itoa (z : Int) : digs (Lib.itoa z) = Lib.decDigits z.natAbs := by
  rcases itoa_cases z with ⟨_, h⟩ | ⟨_, h⟩
  · rw [h]
    simp [digs]
  · rw [h, digs_dec]
theorem head_itoa (z : Int) : (Lib.itoa z).head? = some 45 ↔ z < 0 := by
  rcases itoa_cases z with ⟨h1, h⟩ | ⟨h1, h⟩
  · rw [h]
    simp [h1]
  · rw [h]
    have := dec_head45 z.natAbs
    constructor
    · intro h2; exact absurd h2 this
    · intro h2; omega
theorem val_itoa (z : Int) : valI (Lib.itoa z) = z := by
  unfold valI
  rw [digs_itoa, dv_decDigits]
  by_cases h : z < 0
  · rw [if_pos ((head_itoa z).2 h)]
    omega
  · rw [if_neg (fun h2 => h ((head_itoa z).1 h2))]
    omega
theorem itoa_inj {y z : Int} (h : Lib.itoa y = Lib.itoa z) : y = z := by rw [← val_itoa y, h, val_itoa]
theorem itoa_zero : Lib.itoa 0 = [48] := by
  rcases itoa_cases 0 with ⟨h1, _⟩ | ⟨_, h⟩
  · omega
  · rw [h]; exact dec_zero
theorem itoa_one : Lib.itoa 1 = [49] := by
  rcases itoa_cases 1 with ⟨h1, _⟩ | ⟨_, h⟩
  · omega
  · rw [h, show (1 : Int).natAbs = 1 from rfl, Lib.decDigits_one (by omega)]; rfl
theorem chk_itoa (z : Int) : chkI (Lib.itoa z) = if fits z then 0 else 4 := by
  unfold chkI
  rw [digs_itoa, if_neg]
  · by_cases h : fits z
    · rw [if_pos h, if_neg (by have := fits_len.1 h; omega)]
    · rw [if_neg h, if_pos (Nat.lt_of_not_le fun h2 => h (fits_len.2 h2))]
  · rintro (h | ⟨h1, h2⟩ | h)
    · exact decDigits_ne _ h
    · have h3 := dec_head _ h1
      have : z = 0 := by omega
      subst this
      exact h2 itoa_zero
    · exact h (List.all_eq_true.2 (decDigits_dg _))
/-- A valid string is the numeral of an integer within the limit. -/
theorem chk_ok {l : List UInt8} (h : chkI l = 0) : l = Lib.itoa (valI l) ∧ fits (valI l) := by
  have key : ∃ z, l = Lib.itoa z := by
    unfold chkI at h
    split at h
    · cases h
    · rename_i h1
      have h2 : digs l ≠ [] := fun e => h1 (.inl e)
      have h3 : ∀ c ∈ digs l, isDg c = true := by
        refine List.all_eq_true.1 ?_
        cases ha : (digs l).all isDg with
        | true => rfl
        | false => exact absurd (.inr (.inr (by rw [ha]; simp))) h1
      cases l with
      | nil => exact absurd rfl h2
      | cons c r =>
        by_cases hc : c = 45
        · subst hc
          have ed : digs (45 :: r) = r := by simp [digs]
          rw [ed] at h2 h3
          have h4 : r.head? ≠ some 48 := fun e => h1 (.inr (.inl ⟨by rw [ed]; exact e, by simp⟩))
          have h5 := dec_of h2 h3 (fun _ => h4)
          have hp : 1 ≤ dv r := by
            rcases Nat.eq_zero_or_pos (dv r) with h0 | h0
            · rw [h0, dec_zero] at h5
              rw [h5] at h4
              exact absurd rfl h4
            · exact h0
          refine ⟨-((dv r : Nat) : Int), ?_⟩
          rw [Lib.itoa_neg _ hp, ← h5]
        · have ed : digs (c :: r) = c :: r := by simp [digs, hc]
          rw [ed] at h2 h3
          refine ⟨((dv (c :: r) : Nat) : Int), ?_⟩
          rw [Lib.itoa_nonneg]
          refine dec_of h2 h3 (fun hl e => h1 (.inr (.inl ⟨by rw [ed]; exact e, fun e2 => ?_⟩)))
          rw [e2] at hl
          simp at hl
  obtain ⟨z, hz⟩ := key
  rw [hz, val_itoa]
  refine ⟨rfl, ?_⟩
  rw [hz, chk_itoa] at h
  by_cases hf : fits z
  · exact hf
  · rw [if_neg hf] at h
    cases h
theorem chk_fits {z : Int} (h : fits z) : chkI (Lib.itoa z) = 0 := by rw [chk_itoa, if_pos h]
/-- A result: its string, its error. -/
def resS (z : Int) : List UInt8 := if fits z then Lib.itoa z else []
def resE (z : Int) : Int := if fits z then 0 else 4
/-- An operation of two integers. -/
def op2S (f : Int → Int → Int) (a b : List UInt8) : List UInt8 := if chkI a ≠ 0 then [] else if chkI b ≠ 0 then [] else resS (f (valI a) (valI b))
def op2E (f : Int → Int → Int) (a b : List UInt8) : Int := if chkI a ≠ 0 then chkI a else if chkI b ≠ 0 then chkI b else resE (f (valI a) (valI b))
theorem fits_of_le {y z : Int} (h : fits z) (hl : y.natAbs ≤ z.natAbs) : fits y := Nat.lt_of_le_of_lt hl h
theorem fits_small {z : Int} {n : Nat} (hn : n ≤ most) (h : z.natAbs < 10 ^ n) : fits z := Nat.lt_of_lt_of_le h (Nat.pow_le_pow_right (by omega) hn)
/-- Short strings are small integers. -/
theorem short_val {l : List UInt8} {n : Nat} (h : chkI l = 0) (hl : l.length ≤ n) (hn : 1 ≤ n) : (valI l).natAbs < 10 ^ n := by
  obtain ⟨h1, _⟩ := chk_ok h
  refine (dec_len_le hn).1 ?_
  rcases itoa_cases (valI l) with ⟨_, h2⟩ | ⟨_, h2⟩
  · rw [h2] at h1
    have := congrArg List.length h1
    simp at this
    omega
  · rw [h2] at h1
    rw [← h1]
    exact hl
end Go.KI
