/-
  Texts of bars, read: plain facts of numerals. No program in sight.
-/
import Derived.Lib.AtoiTie
import Derived.Lib.ItoaMem
namespace Go.Proofs.YtfljmbdnnjjmoaaDoor
open Go

def isDg (c : UInt8) : Bool := decide (48 ≤ c.toNat) && decide (c.toNat ≤ 57)
theorem isDg_iff {c : UInt8} : isDg c = true ↔ 48 ≤ c.toNat ∧ c.toNat ≤ 57 := by simp [isDg]
theorem dg_nat (d : Nat) (h : d < 10) : (UInt8.ofNat (48 + d)).toNat = 48 + d := by
  have h1 : 48 + d < 256 := by omega
  simp [UInt8.toNat_ofNat', Nat.mod_eq_of_lt h1]
theorem decDigits_ne (u : Nat) : Lib.decDigits u ≠ [] := by
  rw [Lib.decDigits]
  split <;> simp
theorem decDigits_dg : ∀ (u : Nat), ∀ c ∈ Lib.decDigits u, isDg c = true := by
  intro u
  induction u using Nat.strongRecOn with
  | ind u ih =>
    intro c hc
    rw [Lib.decDigits] at hc
    split at hc
    · rename_i h
      simp only [List.mem_singleton] at hc
      subst hc
      rw [isDg_iff, dg_nat u h]
      omega
    · rename_i h
      simp only [List.mem_append, List.mem_singleton] at hc
      rcases hc with hc | hc
      · exact ih (u / 10) (by omega) c hc
      · subst hc
        rw [isDg_iff, dg_nat _ (by omega)]
        omega
theorem decFrom_append : ∀ (a b : List UInt8) (acc : Nat), Lib.decFrom acc (a ++ b) = (Lib.decFrom acc a).bind fun m => Lib.decFrom m b := by
  intro a
  induction a with
  | nil => intro b acc; rfl
  | cons c r ih =>
    intro b acc
    simp only [List.cons_append, Lib.decFrom]
    cases Lib.digitVal c with
    | none => rfl
    | some d => exact ih b _
theorem digitVal_dg (d : Nat) (h : d < 10) : Lib.digitVal (UInt8.ofNat (48 + d)) = some d := by
  unfold Lib.digitVal
  rw [dg_nat d h, if_pos (by omega)]
  simp
theorem decFrom_decDigits : ∀ u : Nat, Lib.decFrom 0 (Lib.decDigits u) = some u := by
  intro u
  induction u using Nat.strongRecOn with
  | ind u ih =>
    rw [Lib.decDigits]
    split
    · rename_i h
      simp only [Lib.decFrom, digitVal_dg u h]
      simp
    · rename_i h
      rw [decFrom_append, ih (u / 10) (by omega)]
      simp only [Option.bind_some, Lib.decFrom, digitVal_dg (u % 10) (by omega)]
      congr 1
      omega
theorem atoiAll_decDigits (u : Nat) (h : (Lib.decDigits u).length ≤ 18) : Lib.atoiAll (Lib.decDigits u) = .ok (u : Int) := by
  obtain ⟨c, r, hc⟩ : ∃ c r, Lib.decDigits u = c :: r := by
    cases hd : Lib.decDigits u with
    | nil => exact absurd hd (decDigits_ne u)
    | cons c r => exact ⟨c, r, rfl⟩
  have h1 := isDg_iff.1 (decDigits_dg u c (by rw [hc]; simp))
  have h2 : Lib.decNat (Lib.decDigits u) = some u := by
    unfold Lib.decNat
    rw [decFrom_decDigits, hc]
    rfl
  have h3 := Lib.signless_short h
  rw [h2] at h3
  rw [hc] at h3 ⊢
  rw [Lib.atoiAll_plain c r (by omega) (by omega), h3]
  rfl
/-- Digits without a zero in front are a numeral. -/
theorem digits_dec : ∀ (n : Nat) (l : List UInt8), l.length = n → l ≠ [] → (∀ c ∈ l, isDg c = true) → (1 < l.length → l.head? ≠ some 48) → ∃ u, l = Lib.decDigits u := by
  intro n
  induction n with
  | zero => intro l h h1; exact absurd (List.eq_nil_of_length_eq_zero h) h1
  | succ n ih =>
    intro l hn hne hd hz
    obtain ⟨a, c, rfl⟩ : ∃ a c, l = a ++ [c] := ⟨l.dropLast, l.getLast hne, (List.dropLast_concat_getLast hne).symm⟩
    have hc := isDg_iff.1 (hd c (by simp))
    have ec : c = UInt8.ofNat (48 + (c.toNat - 48)) := by
      apply UInt8.toNat_inj.1
      rw [dg_nat _ (by omega)]
      omega
    cases a with
    | nil =>
      refine ⟨c.toNat - 48, ?_⟩
      rw [Lib.decDigits_one (by omega), ← ec]
      rfl
    | cons x a =>
      simp only [List.length_append, List.length_cons, List.length_nil] at hn hz
      have hx : x ≠ 48 := by
        have := hz (by omega)
        simpa using this
      obtain ⟨u, hu⟩ := ih (x :: a) (by simp; omega) (by simp) (fun c hc => hd c (by simp at hc ⊢; rcases hc with h | h; exact .inl h; exact .inr (.inl h))) (fun _ => by simpa using hx)
      have hu1 : 1 ≤ u := by
        rcases Nat.eq_zero_or_pos u with h0 | h0
        · subst h0
          rw [Lib.decDigits_one (by omega)] at hu
          injection hu with h1 h2
          exact absurd h1 hx
        · exact h0
      refine ⟨u * 10 + (c.toNat - 48), ?_⟩
      rw [Lib.decDigits, dif_neg (by omega), show (u * 10 + (c.toNat - 48)) / 10 = u by omega, show (u * 10 + (c.toNat - 48)) % 10 = c.toNat - 48 by omega, ← ec, hu]

/-- The number that a word is, written as such. -/
def numL (l : List UInt8) : Option Nat := match Lib.atoiAll l with | .ok v => if 0 ≤ v ∧ l.length ≤ 10 ∧ Lib.itoa v = l then some v.toNat else none | _ => none
theorem numL_iff {l : List UInt8} {v : Nat} : numL l = some v ↔ l = Lib.decDigits v ∧ l.length ≤ 10 := by
  constructor
  · intro h
    unfold numL at h
    split at h
    · rename_i x hx
      split at h
      · rename_i hc
        obtain ⟨h0, h1, h2⟩ := hc
        injection h with h
        subst h
        refine ⟨?_, h1⟩
        rw [← Lib.itoa_nonneg, Int.toNat_of_nonneg h0, h2]
      · cases h
    · cases h
  · rintro ⟨h1, h2⟩
    unfold numL
    rw [h1, atoiAll_decDigits v (by rw [← h1]; omega)]
    simp only
    rw [if_pos ⟨by omega, by rw [← h1]; exact h2, Lib.itoa_nonneg v⟩]
    simp
theorem numL_dg {l : List UInt8} {v : Nat} (h : numL l = some v) : l ≠ [] ∧ (∀ c ∈ l, isDg c = true) ∧ l.length ≤ 10 ∧ Lib.atoiAll l = .ok (v : Int) := by
  obtain ⟨h1, h2⟩ := numL_iff.1 h
  rw [h1] at h2 ⊢
  exact ⟨decDigits_ne v, decDigits_dg v, h2, atoiAll_decDigits v (by omega)⟩
theorem numL_nil : numL [] = none := by
  cases h : numL [] with
  | none => rfl
  | some v => exact absurd rfl (numL_dg h).1
theorem numL_lead (l : List UInt8) (h : 1 < l.length) (h0 : l.head? = some 48) : numL l = none := by
  cases hn : numL l with
  | none => rfl
  | some v =>
    obtain ⟨h1, _⟩ := numL_iff.1 hn
    exfalso
    have key : ∀ u : Nat, (Lib.decDigits u).head? = some 48 → u = 0 := by
      intro u
      induction u using Nat.strongRecOn with
      | ind u ih =>
        intro hh
        rw [Lib.decDigits] at hh
        split at hh
        · rename_i hu
          simp only [List.head?_cons, Option.some.injEq] at hh
          have := congrArg UInt8.toNat hh
          rw [dg_nat u hu] at this
          simp at this
          omega
        · rename_i hu
          have hne := decDigits_ne (u / 10)
          have : (Lib.decDigits (u / 10)).head? = some 48 := by
            cases hd : Lib.decDigits (u / 10) with
            | nil => exact absurd hd hne
            | cons a b => rw [hd] at hh; simpa using hh
          have := ih (u / 10) (by omega) this
          omega
    rw [h1] at h0 h
    have := key v h0
    subst this
    rw [Lib.decDigits_one (by omega)] at h
    simp at h
theorem numL_long (l : List UInt8) (h : 10 < l.length) : numL l = none := by
  cases hn : numL l with
  | none => rfl
  | some v => have := (numL_iff.1 hn).2; omega
/-- Digits: a number, or it begins with a zero, or is too long. -/
theorem numL_some {l : List UInt8} (h0 : l ≠ []) (hd : ∀ c ∈ l, isDg c = true) (h1 : 1 < l.length → l.head? ≠ some 48) (h2 : l.length ≤ 10) : ∃ v, numL l = some v := by
  obtain ⟨u, hu⟩ := digits_dec l.length l rfl h0 hd h1
  exact ⟨u, numL_iff.2 ⟨hu, h2⟩⟩
theorem numL_lt {l : List UInt8} {v : Nat} (h : numL l = some v) : v < 9223372036854775808 := by
  have := Lib.atoiAll_bounds (numL_dg h).2.2.2
  omega
/-- The number that a text begins with, and its length; 0 and 0: none. -/
def rnumL (l : List UInt8) : Nat × Nat := match numL (l.takeWhile isDg) with | some v => (v, (l.takeWhile isDg).length) | none => (0, 0)
theorem rnumL_zero {l : List UInt8} : (rnumL l).2 = 0 ↔ numL (l.takeWhile isDg) = none := by
  unfold rnumL
  cases h : numL (l.takeWhile isDg) with
  | none => simp
  | some v =>
    have := (numL_dg h).1
    simp only [reduceCtorEq, iff_false]
    intro h0
    exact this (List.eq_nil_of_length_eq_zero h0)
end Go.Proofs.YtfljmbdnnjjmoaaDoor
