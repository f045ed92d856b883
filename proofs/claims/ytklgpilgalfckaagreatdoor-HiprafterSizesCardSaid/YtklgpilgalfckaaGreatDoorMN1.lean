/-
  Texts laid together.
-/
import Derived.Lib.AtoiTie
import Derived.Lib.ItoaMem
import Derived.Lib.Small
import Derived.Ground.Names2Prog
import Derived.Shelf.Bits.Mul64
import Derived.Shelf.LaysC
import Derived.Shelf.LaysM
import Derived.Shelf.Slices.SearchI
import Derived.Shelf.Small.Bits
import Derived.Shelf.Small.Strs
import Derived.Shelf.Small.Utf8
import Derived.Shelf.Small.Wraps
import Derived.Shelf.Strconv.Atoi
import Derived.Shelf.Strconv.AtoiAll
import Derived.Shelf.Strconv.AtoiErrFast
import Derived.Shelf.Strconv.AtoiFail
import Derived.Shelf.Strconv.AtoiInnerAll
import Derived.Shelf.Strconv.AtoiLong
import Derived.Shelf.Strconv.Clone
import Derived.Shelf.Strconv.ErrVarAll
import Derived.Shelf.Strconv.Itoa0
import Derived.Shelf.Strconv.Itoa1
import Derived.Shelf.Strconv.Itoa2
import Derived.Shelf.Strconv.Itoa3
import Derived.Shelf.Strconv.Lower
import Derived.Shelf.Strconv.ParseInt10
import Derived.Shelf.Strconv.ParseIntEmpty
import Derived.Shelf.Strconv.ParseUint10
import Derived.Shelf.Strconv.ParseUint10Any
import Derived.Shelf.Strconv.ParseUint10Empty
import Derived.Shelf.Strconv.ParseUint10b16
import Derived.Shelf.Strconv.ParseUint10b32
import Derived.Shelf.Strconv.ParseUint10b64
import Derived.Shelf.Strconv.ParseUint10b8
import Derived.Shelf.Strconv.ParseUintEmpty
import Derived.Shelf.Strconv.RangeError
import Derived.Shelf.Strconv.SyntaxError
import Derived.Shelf.Strconv.ToError
import Derived.Shelf.Strconv.ToErrorRange
import Derived.Shelf.Strings.AsciiSet
import Derived.Shelf.Strings.Builder1
import Derived.Shelf.Strings.Builder2
import Derived.Shelf.Strings.Builder2Cap
import Derived.Shelf.Strings.BuilderF
import Derived.Shelf.Strings.BuilderK
import Derived.Shelf.Strings.Cut
import Derived.Shelf.Strings.Prefix
import Derived.Shelf.Strings.Repeat
import Derived.Shelf.Strings.Runes
import Derived.Shelf.Strings.Search1
import Derived.Shelf.Strings.Search2
import Derived.Shelf.Strings.Search3
import Derived.Shelf.Strings.Shaped
import Derived.Shelf.Strings.Trim
import Derived.Shelf.Unicode.Decode
import Derived.Shelf.Unicode.DecodeAny
import Derived.Shelf.Unicode.DecodeLast
import Derived.Shelf.Unicode.DecodeSlow
import Derived.Test.YtklgpilgalfckaaGreatDoorProg
import Derived.Deep.Draws
import Derived.WalkKit
import Derived.WalkSpells
set_option maxRecDepth 100000
namespace Go.KI
open Go

def isDg (c : UInt8) : Bool := decide (48 ≤ c.toNat) && decide (c.toNat ≤ 57)
theorem isDg_iff {c : UInt8} : isDg c = true ↔ 48 ≤ c.toNat ∧ c.toNat ≤ 57 := by simp [isDg]
theorem dg_nat (d : Nat) (h : d < 10) : (UInt8.ofNat (48 + d)).toNat = 48 + d := by
  have h1 : 48 + d < 256 := by omega
  simp [UInt8.toNat_ofNat', Nat.mod_eq_of_lt h1]
theorem decDigits_ne (u : Nat) : Lib.decDigits u ≠ [] := by
  rw [Lib.decDigits]
  split <;> simp
theorem decDigits_dg : ∀ (u : Nat), ∀ c ∈ Lib.decDigits u, isDg c = true := by
  intro u
  induction u using Nat.strongRecOn with
  | ind u ih =>
    intro c hc
    rw [Lib.decDigits] at hc
    split at hc
    · rename_i h
      simp only [List.mem_singleton] at hc
      subst hc
      rw [isDg_iff, dg_nat u h]
      omega
    · rename_i h
      simp only [List.mem_append, List.mem_singleton] at hc
      rcases hc with hc | hc
      · exact ih (u / 10) (by omega) c hc
      · subst hc
        rw [isDg_iff, dg_nat _ (by omega)]
        omega
theorem digits_dec : ∀ (n : Nat) (l : List UInt8), l.length = n → l ≠ [] → (∀ c ∈ l, isDg c = true) → (1 < l.length → l.head? ≠ some 48) → ∃ u, l = Lib.decDigits u := by
  intro n
  induction n with
  | zero => intro l h h1; exact absurd (List.eq_nil_of_length_eq_zero h) h1
  | succ n ih =>
    intro l hn hne hd hz
    obtain ⟨a, c, rfl⟩ : ∃ a c, l = a ++ [c] := ⟨l.dropLast, l.getLast hne, (List.dropLast_concat_getLast hne).symm⟩
    have hc := isDg_iff.1 (hd c (by simp))
    have ec : c = UInt8.ofNat (48 + (c.toNat - 48)) := by
      apply UInt8.toNat_inj.1
      rw [dg_nat _ (by omega)]
      omega
    cases a with
    | nil =>
      refine ⟨c.toNat - 48, ?_⟩
      rw [Lib.decDigits_one (by omega), ← ec]
      rfl
    | cons x a =>
      simp only [List.length_append, List.length_cons, List.length_nil] at hn hz
      have hx : x ≠ 48 := by
        have := hz (by omega)
        simpa using this
      obtain ⟨u, hu⟩ := ih (x :: a) (by simp; omega) (by simp) (fun c hc => hd c (by simp at hc ⊢; rcases hc with h | h; exact .inl h; exact .inr (.inl h))) (fun _ => by simpa using hx)
      have hu1 : 1 ≤ u := by
        rcases Nat.eq_zero_or_pos u with h0 | h0
        · subst h0
          rw [Lib.decDigits_one (by omega)] at hu
          injection hu with h1 h2
          exact absurd h1 hx
        · exact h0
      refine ⟨u * 10 + (c.toNat - 48), ?_⟩
      rw [Lib.decDigits, dif_neg (by omega), show (u * 10 + (c.toNat - 48)) / 10 = u by omega, show (u * 10 + (c.toNat - 48)) % 10 = c.toNat - 48 by omega, ← ec, hu]
def dv (l : List UInt8) : Nat := l.foldl (fun a c => a * 10 + (c.toNat - 48)) 0
theorem dv_nil : dv [] = 0 := rfl
theorem dv_snoc (l : List UInt8) (c : UInt8) : dv (l ++ [c]) = dv l * 10 + (c.toNat - 48) := by simp [dv]
theorem dv_append (a b : List UInt8) : dv (a ++ b) = dv a * 10 ^ b.length + dv b := by
  obtain ⟨n, hn⟩ : ∃ n, n = b.length := ⟨_, rfl⟩
  induction n generalizing b with
  | zero => rw [List.eq_nil_of_length_eq_zero hn.symm]; simp [dv_nil]
  | succ n ih =>
    have hne : b ≠ [] := fun h => by rw [h] at hn; simp at hn
    obtain ⟨b, c, rfl⟩ : ∃ a c, b = a ++ [c] := ⟨b.dropLast, b.getLast hne, (List.dropLast_concat_getLast hne).symm⟩
    rw [← List.append_assoc, dv_snoc, dv_snoc, ih b (by simpa using hn), List.length_append, List.length_singleton, Nat.pow_succ, Nat.add_mul, Nat.mul_assoc, Nat.add_assoc]
theorem dv_decDigits : ∀ u : Nat, dv (Lib.decDigits u) = u := by
  intro u
  induction u using Nat.strongRecOn with
  | ind u ih =>
    rw [Lib.decDigits]
    split
    · rename_i h
      show 0 * 10 + ((UInt8.ofNat (48 + u)).toNat - 48) = u
      rw [dg_nat u h]
      omega
    · rename_i h
      rw [dv_snoc, ih (u / 10) (by omega), dg_nat _ (by omega)]
      omega
theorem dec_of {l : List UInt8} (h0 : l ≠ []) (hd : ∀ c ∈ l, isDg c = true) (h1 : 1 < l.length → l.head? ≠ some 48) : l = Lib.decDigits (dv l) := by
  obtain ⟨u, hu⟩ := digits_dec l.length l rfl h0 hd h1
  have h2 := dv_decDigits u
  rw [← hu] at h2
  rw [h2]
  exact hu
theorem dv_lt : ∀ (l : List UInt8), (∀ c ∈ l, isDg c = true) → dv l < 10 ^ l.length := by
  intro l
  obtain ⟨n, hn⟩ : ∃ n, n = l.length := ⟨_, rfl⟩
  induction n generalizing l with
  | zero => rw [List.eq_nil_of_length_eq_zero hn.symm]; simp [dv_nil]
  | succ n ih =>
    intro hd
    have hne : l ≠ [] := fun h => by rw [h] at hn; simp at hn
    obtain ⟨l, c, rfl⟩ : ∃ a c, l = a ++ [c] := ⟨l.dropLast, l.getLast hne, (List.dropLast_concat_getLast hne).symm⟩
    have h1 := ih l (by simpa using hn) (fun c hc => hd c (by simp [hc]))
    have h2 := isDg_iff.1 (hd c (by simp))
    rw [dv_snoc, List.length_append, List.length_singleton, Nat.pow_succ]
    omega
theorem dec_len_pos (u : Nat) : 1 ≤ (Lib.decDigits u).length := by
  cases h : Lib.decDigits u with
  | nil => exact absurd h (decDigits_ne u)
  | cons a r => simp
theorem dec_lt (u : Nat) : u < 10 ^ (Lib.decDigits u).length := by
  have := dv_lt _ (decDigits_dg u)
  rwa [dv_decDigits] at this
theorem dec_ge : ∀ (u : Nat), 1 ≤ u → 10 ^ ((Lib.decDigits u).length - 1) ≤ u := by
  intro u
  induction u using Nat.strongRecOn with
  | ind u ih =>
    intro hu
    rw [Lib.decDigits]
    split
    · simpa using hu
    · rename_i h
      have h1 := ih (u / 10) (by omega) (by omega)
      have h2 := dec_len_pos (u / 10)
      rw [List.length_append, List.length_singleton, Nat.add_sub_cancel]
      obtain ⟨n, hn⟩ : ∃ n, (Lib.decDigits (u / 10)).length = n + 1 := ⟨(Lib.decDigits (u / 10)).length - 1, by omega⟩
      rw [hn] at h1 ⊢
      rw [Nat.add_sub_cancel] at h1
      rw [Nat.pow_succ]
      omega
theorem dec_len_le {u n : Nat} (hn : 1 ≤ n) : (Lib.decDigits u).length ≤ n ↔ u < 10 ^ n := by
  constructor
  · intro h
    exact Nat.lt_of_lt_of_le (dec_lt u) (Nat.pow_le_pow_right (by omega) h)
  · intro h
    rcases Nat.eq_zero_or_pos u with h0 | h0
    · rw [h0, Lib.decDigits_one (by omega)]
      exact hn
    · have h1 := dec_ge u h0
      have h2 : 10 ^ ((Lib.decDigits u).length - 1) < 10 ^ n := Nat.lt_of_le_of_lt h1 h
      have h3 := (Nat.pow_lt_pow_iff_right (by omega : 1 < 10)).1 h2
      omega
theorem dec_zero : Lib.decDigits 0 = [48] := by rw [Lib.decDigits_one (by omega)]; rfl
theorem dec_head : ∀ u : Nat, (Lib.decDigits u).head? = some 48 → u = 0 := by
  intro u
  induction u using Nat.strongRecOn with
  | ind u ih =>
    intro hh
    rw [Lib.decDigits] at hh
    split at hh
    · rename_i hu
      simp only [List.head?_cons, Option.some.injEq] at hh
      have := congrArg UInt8.toNat hh
      rw [dg_nat u hu] at this
      simp at this
      omega
    · rename_i hu
      have hne := decDigits_ne (u / 10)
      have : (Lib.decDigits (u / 10)).head? = some 48 := by
        cases hd : Lib.decDigits (u / 10) with
        | nil => exact absurd hd hne
        | cons a b => rw [hd] at hh; simpa using hh
      have := ih (u / 10) (by omega) this
      omega
theorem dec_inj {u v : Nat} (h : Lib.decDigits u = Lib.decDigits v) : u = v := by
  rw [← dv_decDigits u, h, dv_decDigits]
theorem dec_split {q r k : Nat} (hq : 1 ≤ q) (hr : r < 10 ^ k) (hk : 1 ≤ k) : Lib.decDigits (q * 10 ^ k + r) = Lib.decDigits q ++ (List.replicate (k - (Lib.decDigits r).length) 48 ++ Lib.decDigits r) := by
  have hl : (Lib.decDigits r).length ≤ k := (dec_len_le hk).2 hr
  have hz : ∀ n, dv (List.replicate n (48 : UInt8)) = 0 := by
    intro n
    induction n with
    | zero => rfl
    | succ n ih => rw [List.replicate_succ', dv_snoc, ih]; rfl
  have e : dv (Lib.decDigits q ++ (List.replicate (k - (Lib.decDigits r).length) 48 ++ Lib.decDigits r)) = q * 10 ^ k + r := by
    rw [dv_append, dv_append, hz, dv_decDigits, dv_decDigits, List.length_append, List.length_replicate, Nat.sub_add_cancel hl]
    omega
  have h := dec_of (l := Lib.decDigits q ++ (List.replicate (k - (Lib.decDigits r).length) 48 ++ Lib.decDigits r)) (by simp [decDigits_ne]) (by
    intro c hc
    rcases List.mem_append.1 hc with h | h
    · exact decDigits_dg q c h
    · rcases List.mem_append.1 h with h | h
      · rw [List.eq_of_mem_replicate h]; rfl
      · exact decDigits_dg r c h) (by
    intro _ hh
    have : (Lib.decDigits q).head? = some 48 := by
      cases hd : Lib.decDigits q with
      | nil => exact absurd hd (decDigits_ne q)
      | cons a b => rw [hd] at hh; simpa using hh
    have := dec_head q this
    omega)
  rw [e] at h
  exact h.symm

theorem decFrom_append : ∀ (a b : List UInt8) (acc : Nat), Lib.decFrom acc (a ++ b) = (Lib.decFrom acc a).bind fun m => Lib.decFrom m b := by
  intro a
  induction a with
  | nil => intro b acc; rfl
  | cons c r ih =>
    intro b acc
    simp only [List.cons_append, Lib.decFrom]
    cases Lib.digitVal c with
    | none => rfl
    | some d => exact ih b _
theorem digitVal_dg (d : Nat) (h : d < 10) : Lib.digitVal (UInt8.ofNat (48 + d)) = some d := by
  unfold Lib.digitVal
  rw [dg_nat d h, if_pos (by omega)]
  simp
theorem decFrom_decDigits : ∀ u : Nat, Lib.decFrom 0 (Lib.decDigits u) = some u := by
  intro u
  induction u using Nat.strongRecOn with
  | ind u ih =>
    rw [Lib.decDigits]
    split
    · rename_i h
      simp only [Lib.decFrom, digitVal_dg u h]
      simp
    · rename_i h
      rw [decFrom_append, ih (u / 10) (by omega)]
      simp only [Option.bind_some, Lib.decFrom, digitVal_dg (u % 10) (by omega)]
      congr 1
      omega
def most : Nat := 300
theorem most_eq : most = 300 := rfl
def lim : Nat := 10 ^ most
def fits (z : Int) : Prop := z.natAbs < lim
instance (z : Int) : Decidable (fits z) := inferInstanceAs (Decidable (z.natAbs < lim))
theorem fits_len {z : Int} : fits z ↔ (Lib.decDigits z.natAbs).length ≤ 300 := (dec_len_le (n := most) (by rw [most_eq]; omega)).symm
def digs : List UInt8 → List UInt8
  | [] => []
  | c :: r => if c = 45 then r else c :: r
def valI (l : List UInt8) : Int := if l.head? = some 45 then -((dv (digs l) : Nat) : Int) else ((dv (digs l) : Nat) : Int)
def chkI (l : List UInt8) : Int := if digs l = [] ∨ ((digs l).head? = some 48 ∧ l ≠ [48]) ∨ ¬ (digs l).all isDg = true then 11 else if 300 < (digs l).length then 4 else 0
theorem itoa_cases (z : Int) : (z < 0 ∧ Lib.itoa z = 45 :: Lib.decDigits z.natAbs) ∨ (0 ≤ z ∧ Lib.itoa z = Lib.decDigits z.natAbs) := by
  unfold Lib.itoa
  by_cases h : z < 0
  · exact .inl ⟨h, if_pos h⟩
  · refine .inr ⟨by omega, ?_⟩
    rw [if_neg h]
    congr 1
    omega
theorem dec_head45 (u : Nat) : (Lib.decDigits u).head? ≠ some 45 := by
  intro h
  cases hd : Lib.decDigits u with
  | nil => exact decDigits_ne u hd
  | cons a b =>
    rw [hd] at h
    simp at h
    have := isDg_iff.1 (decDigits_dg u a (by rw [hd]; simp))
    rw [h] at this
    have e : (45 : UInt8).toNat = 45 := rfl
    omega
theorem digs_dec (u : Nat) : digs (Lib.decDigits u) = Lib.decDigits u := by
  have h := dec_head45 u
  cases hd : Lib.decDigits u with
  | nil => rfl
  | cons a b =>
    rw [hd] at h
    show (if a = 45 then b else a :: b) = a :: b
    rw [if_neg (by simpa using h)]
theorem digs_itoa (z : Int) : digs (Lib.itoa z) = Lib.decDigits z.natAbs := by
  rcases itoa_cases z with ⟨_, h⟩ | ⟨_, h⟩
  · rw [h]
    simp [digs]
  · rw [h, digs_dec]
theorem head_itoa (z : Int) : (Lib.itoa z).head? = some 45 ↔ z < 0 := by
  rcases itoa_cases z with ⟨h1, h⟩ | ⟨h1, h⟩
  · rw [h]
    simp [h1]
  · rw [h]
    have := dec_head45 z.natAbs
    constructor
    · intro h2; exact absurd h2 this
    · intro h2; omega
theorem val_itoa (z : Int) : valI (Lib.itoa z) = z := by
  unfold valI
  rw [digs_itoa, dv_decDigits]
  by_cases h : z < 0
  · rw [if_pos ((head_itoa z).2 h)]
    omega
  · rw [if_neg (fun h2 => h ((head_itoa z).1 h2))]
    omega
theorem itoa_inj {y z : Int} (h : Lib.itoa y = Lib.itoa z) : y = z := by rw [← val_itoa y, h, val_itoa]
theorem itoa_zero : Lib.itoa 0 = [48] := by
  rcases itoa_cases 0 with ⟨h1, _⟩ | ⟨_, h⟩
  · omega
  · rw [h]; exact dec_zero
theorem chk_itoa (z : Int) : chkI (Lib.itoa z) = if fits z then 0 else 4 := by
  unfold chkI
  rw [digs_itoa, if_neg]
  · by_cases h : fits z
    · rw [if_pos h, if_neg (by have := fits_len.1 h; omega)]
    · rw [if_neg h, if_pos (Nat.lt_of_not_le fun h2 => h (fits_len.2 h2))]
  · rintro (h | ⟨h1, h2⟩ | h)
    · exact decDigits_ne _ h
    · have h3 := dec_head _ h1
      have : z = 0 := by omega
      subst this
      exact h2 itoa_zero
    · exact h (List.all_eq_true.2 (decDigits_dg _))
theorem chk_ok {l : List UInt8} (h : chkI l = 0) : l = Lib.itoa (valI l) ∧ fits (valI l) := by
  have key : ∃ z, l = Lib.itoa z := by
    unfold chkI at h
    split at h
    · cases h
    · rename_i h1
      have h2 : digs l ≠ [] := fun e => h1 (.inl e)
      have h3 : ∀ c ∈ digs l, isDg c = true := by
        refine List.all_eq_true.1 ?_
        cases ha : (digs l).all isDg with
        | true => rfl
        | false => exact absurd (.inr (.inr (by rw [ha]; simp))) h1
      cases l with
      | nil => exact absurd rfl h2
      | cons c r =>
        by_cases hc : c = 45
        · subst hc
          have ed : digs (45 :: r) = r := by simp [digs]
          rw [ed] at h2 h3
          have h4 : r.head? ≠ some 48 := fun e => h1 (.inr (.inl ⟨by rw [ed]; exact e, by simp⟩))
          have h5 := dec_of h2 h3 (fun _ => h4)
          have hp : 1 ≤ dv r := by
            rcases Nat.eq_zero_or_pos (dv r) with h0 | h0
            · rw [h0, dec_zero] at h5
              rw [h5] at h4
              exact absurd rfl h4
            · exact h0
          refine ⟨-((dv r : Nat) : Int), ?_⟩
          rw [Lib.itoa_neg _ hp, ← h5]
        · have ed : digs (c :: r) = c :: r := by simp [digs, hc]
          rw [ed] at h2 h3
          refine ⟨((dv (c :: r) : Nat) : Int), ?_⟩
          rw [Lib.itoa_nonneg]
          refine dec_of h2 h3 (fun hl e => h1 (.inr (.inl ⟨by rw [ed]; exact e, fun e2 => ?_⟩)))
          rw [e2] at hl
          simp at hl
  obtain ⟨z, hz⟩ := key
  rw [hz, val_itoa]
  refine ⟨rfl, ?_⟩
  rw [hz, chk_itoa] at h
  by_cases hf : fits z
  · exact hf
  · rw [if_neg hf] at h
    cases h
theorem chk_fits {z : Int} (h : fits z) : chkI (Lib.itoa z) = 0 := by rw [chk_itoa, if_pos h]
def resS (z : Int) : List UInt8 := if fits z then Lib.itoa z else []
def resE (z : Int) : Int := if fits z then 0 else 4
def op2S (f : Int → Int → Int) (a b : List UInt8) : List UInt8 := if chkI a ≠ 0 then [] else if chkI b ≠ 0 then [] else resS (f (valI a) (valI b))
def op2E (f : Int → Int → Int) (a b : List UInt8) : Int := if chkI a ≠ 0 then chkI a else if chkI b ≠ 0 then chkI b else resE (f (valI a) (valI b))
theorem fits_of_le {y z : Int} (h : fits z) (hl : y.natAbs ≤ z.natAbs) : fits y := Nat.lt_of_le_of_lt hl h
theorem fits_small {z : Int} {n : Nat} (hn : n ≤ most) (h : z.natAbs < 10 ^ n) : fits z := Nat.lt_of_lt_of_le h (Nat.pow_le_pow_right (by omega) hn)
theorem short_val {l : List UInt8} {n : Nat} (h : chkI l = 0) (hl : l.length ≤ n) (hn : 1 ≤ n) : (valI l).natAbs < 10 ^ n := by
  obtain ⟨h1, _⟩ := chk_ok h
  refine (dec_len_le hn).1 ?_
  rcases itoa_cases (valI l) with ⟨_, h2⟩ | ⟨_, h2⟩
  · rw [h2] at h1
    have := congrArg List.length h1
    simp at this
    omega
  · rw [h2] at h1
    rw [← h1]
    exact hl
open Go

def lv (b : Nat) : List Nat → Nat
  | [] => 0
  | x :: r => x + b * lv b r
theorem lv_nil (b : Nat) : lv b [] = 0 := rfl
theorem lv_append (b : Nat) (y : List Nat) : ∀ x : List Nat, lv b (x ++ y) = lv b x + b ^ x.length * lv b y := by
  intro x
  induction x with
  | nil => simp [lv]
  | cons a r ih =>
    simp only [List.cons_append, lv, ih, List.length_cons]
    grind
theorem lv_snoc (b : Nat) (x : List Nat) (a : Nat) : lv b (x ++ [a]) = lv b x + b ^ x.length * a := by
  rw [lv_append]
  simp [lv]
theorem lv_zeros (b : Nat) : ∀ n : Nat, lv b (List.replicate n 0) = 0 := by
  intro n
  induction n with
  | zero => rfl
  | succ n ih => rw [List.replicate_succ]; simp [lv, ih]
def Lt (b : Nat) (l : List Nat) : Prop := ∀ x ∈ l, x < b
theorem lv_lt {b : Nat} : ∀ {l : List Nat}, Lt b l → lv b l < b ^ l.length := by
  intro l
  induction l with
  | nil => intro _; simp [lv]
  | cons a r ih =>
    intro h
    have h1 := ih (fun x hx => h x (List.mem_cons_of_mem _ hx))
    have h2 := h a (by simp)
    simp only [lv, List.length_cons, Nat.pow_succ]
    have h3 : b * (lv b r + 1) ≤ b * b ^ r.length := Nat.mul_le_mul_left b h1
    rw [Nat.mul_add, Nat.mul_one] at h3
    rw [Nat.mul_comm (b ^ r.length)]
    omega
def lat (l : List Nat) (i : Nat) : Nat := l[i]?.getD 0
theorem lat_lt {b : Nat} (hb : 0 < b) {l : List Nat} (h : Lt b l) (i : Nat) : lat l i < b := by
  unfold lat
  rcases Nat.lt_or_ge i l.length with hi | hi
  · rw [List.getElem?_eq_getElem hi]
    exact h _ (List.getElem_mem hi)
  · rw [List.getElem?_eq_none hi]
    exact hb
theorem lat_past {l : List Nat} {i : Nat} (h : l.length ≤ i) : lat l i = 0 := by
  unfold lat
  rw [List.getElem?_eq_none h]
  rfl
theorem lat_at {l : List Nat} {i : Nat} (h : i < l.length) : lat l i = l[i] := by
  unfold lat
  rw [List.getElem?_eq_getElem h]
  rfl
theorem lat_some {l : List Nat} {i : Nat} (h : i < l.length) : l[i]? = some (lat l i) := by
  rw [lat_at h]
  exact List.getElem?_eq_getElem h
def lvT (b : Nat) (l : List Nat) (i : Nat) : Nat := lv b (l.take i)
theorem lvT_zero (b : Nat) (l : List Nat) : lvT b l 0 = 0 := by simp [lvT, lv]
theorem lvT_succ (b : Nat) (l : List Nat) (i : Nat) : lvT b l (i + 1) = lvT b l i + b ^ i * lat l i := by
  unfold lvT
  rcases Nat.lt_or_ge i l.length with hi | hi
  · rw [List.take_succ_eq_append_getElem hi, lv_snoc, List.length_take, Nat.min_eq_left (by omega), lat_at hi]
  · rw [List.take_of_length_le (by omega), List.take_of_length_le hi, lat_past hi]
    simp
theorem lvT_all {b : Nat} {l : List Nat} {i : Nat} (h : l.length ≤ i) : lvT b l i = lv b l := by
  unfold lvT
  rw [List.take_of_length_le h]
theorem lvT_lt {b : Nat} (hb : 0 < b) {l : List Nat} (h : Lt b l) (i : Nat) : lvT b l i < b ^ i := by
  unfold lvT
  have h1 : lv b (l.take i) < b ^ (l.take i).length := lv_lt (fun x hx => h x (List.mem_of_mem_take hx))
  exact Nat.lt_of_lt_of_le h1 (Nat.pow_le_pow_right hb (List.length_take_le _ _))
theorem lv_split {b : Nat} {l : List Nat} {i : Nat} (h : i < l.length) : lv b l = lvT b l i + b ^ i * (lat l i + b * lv b (l.drop (i + 1))) := by
  have h1 := List.take_append_drop i l
  have h2 : l.drop i = l[i] :: l.drop (i + 1) := List.drop_eq_getElem_cons h
  unfold lvT
  conv => lhs; rw [← h1]
  rw [lv_append, h2, lat_at h, List.length_take, Nat.min_eq_left (by omega)]
  rfl
theorem lt_set {b : Nat} {l : List Nat} (h : Lt b l) {i v : Nat} (hv : v < b) : Lt b (l.set i v) := fun x hx => by
  rcases List.mem_or_eq_of_mem_set hx with h1 | h1
  · exact h x h1
  · rw [h1]; exact hv
theorem lv_set {b : Nat} : ∀ {l : List Nat} {i : Nat} (v : Nat), i < l.length → lv b (l.set i v) + b ^ i * lat l i = lv b l + b ^ i * v := by
  intro l
  induction l with
  | nil => intro i v h; simp at h
  | cons a r ih =>
    intro i v h
    cases i with
    | zero => simp [lv, lat]; omega
    | succ i =>
      have := ih v (by simpa using h)
      simp only [List.set_cons_succ, lv, lat, List.getElem?_cons_succ] at this ⊢
      grind
theorem lat_set {l : List Nat} {i j v : Nat} (h : i < l.length) : lat (l.set i v) j = if i = j then v else lat l j := by
  unfold lat
  rw [List.getElem?_set]
  by_cases hij : i = j
  · rw [if_pos hij, if_pos h, if_pos hij]
    rfl
  · rw [if_neg hij, if_neg hij]
structure Norm (b : Nat) (l : List Nat) : Prop where
  lt : Lt b l
  top : l = [] ∨ lat l (l.length - 1) ≠ 0
theorem Norm.nil (b : Nat) : Norm b [] := ⟨fun x hx => by simp at hx, .inl rfl⟩
theorem Norm.ge {b : Nat} {l : List Nat} (h : Norm b l) (hne : l ≠ []) : b ^ (l.length - 1) ≤ lv b l := by
  have ht := h.top.resolve_left hne
  have hl : 0 < l.length := List.length_pos_iff.2 hne
  rw [lv_split (i := l.length - 1) (by omega)]
  have h1 : 1 ≤ lat l (l.length - 1) := by omega
  have h2 : b ^ (l.length - 1) * 1 ≤ b ^ (l.length - 1) * (lat l (l.length - 1) + b * lv b (l.drop (l.length - 1 + 1))) := Nat.mul_le_mul_left _ (by omega)
  omega
theorem Norm.zero {b : Nat} (hb : 0 < b) {l : List Nat} (h : Norm b l) : lv b l = 0 ↔ l = [] := by
  constructor
  · intro h0
    rcases Decidable.em (l = []) with h1 | h1
    · exact h1
    · have := h.ge h1
      have h2 : 0 < b ^ (l.length - 1) := Nat.pow_pos hb
      omega
  · intro h0
    rw [h0]
    rfl
theorem norm_len_lt {b : Nat} (hb : 0 < b) {x y : List Nat} (hx : Lt b x) (hy : Norm b y) (h : x.length < y.length) : lv b x < lv b y := by
  have h1 := lv_lt hx
  have h2 := hy.ge (fun e => by rw [e] at h; simp at h)
  have h3 : b ^ x.length ≤ b ^ (y.length - 1) := Nat.pow_le_pow_right hb (by omega)
  omega
def trimTo (l : List Nat) : Nat → Nat
  | 0 => 0
  | n + 1 => if lat l n = 0 then trimTo l n else n + 1
def trimL (l : List Nat) : List Nat := l.take (trimTo l l.length)
theorem trimTo_le (l : List Nat) : ∀ n, trimTo l n ≤ n := by
  intro n
  induction n with
  | zero => exact Nat.le_refl _
  | succ n ih =>
    unfold trimTo
    split <;> omega
theorem trimTo_lv (b : Nat) (l : List Nat) : ∀ n, lvT b l (trimTo l n) = lvT b l n := by
  intro n
  induction n with
  | zero => rfl
  | succ n ih =>
    unfold trimTo
    split
    · rename_i h
      rw [ih, lvT_succ, h]
      simp
    · rfl
theorem trimTo_top (l : List Nat) : ∀ n, trimTo l n = 0 ∨ lat l (trimTo l n - 1) ≠ 0 := by
  intro n
  induction n with
  | zero => exact .inl rfl
  | succ n ih =>
    unfold trimTo
    split
    · exact ih
    · rename_i h
      exact .inr h
theorem trimL_len (l : List Nat) : (trimL l).length = trimTo l l.length := by
  unfold trimL
  rw [List.length_take]
  exact Nat.min_eq_left (trimTo_le _ _)
theorem trimL_lv (b : Nat) (l : List Nat) : lv b (trimL l) = lv b l := by
  have := trimTo_lv b l l.length
  rw [lvT_all (Nat.le_refl _)] at this
  exact this
theorem trimL_norm {b : Nat} {l : List Nat} (h : Lt b l) : Norm b (trimL l) := by
  refine ⟨fun x hx => h x (List.mem_of_mem_take hx), ?_⟩
  rcases trimTo_top l l.length with h0 | h0
  · left
    apply List.eq_nil_of_length_eq_zero
    rw [trimL_len, h0]
  · rcases Nat.eq_zero_or_pos (trimTo l l.length) with h1 | h1
    · left
      apply List.eq_nil_of_length_eq_zero
      rw [trimL_len, h1]
    · right
      rw [trimL_len]
      have hle := trimTo_le l l.length
      have e : lat (trimL l) (trimTo l l.length - 1) = lat l (trimTo l l.length - 1) := by
        unfold lat trimL
        rw [List.getElem?_take, if_pos (by omega)]
      rw [e]
      exact h0
theorem lv_top_lt {b : Nat} (hb : 0 < b) {x y : List Nat} (hx : Lt b x) (hl : x.length = y.length) {i : Nat} (hi : i < x.length) (hd : x.drop (i + 1) = y.drop (i + 1)) (h : lat x i < lat y i) : lv b x < lv b y := by
  rw [lv_split hi, lv_split (l := y) (i := i) (by omega), hd]
  have h1 := lvT_lt hb hx i
  have h2 : b ^ i * (lat x i + 1 + b * lv b (y.drop (i + 1))) ≤ b ^ i * (lat y i + b * lv b (y.drop (i + 1))) := Nat.mul_le_mul_left _ (by omega)
  have h3 : b ^ i * (lat x i + 1 + b * lv b (y.drop (i + 1))) = b ^ i * (lat x i + b * lv b (y.drop (i + 1))) + b ^ i := by grind
  omega
def CmpRes (r : Int) (x y : Nat) : Prop := (r < 0 ↔ x < y) ∧ (r = 0 ↔ x = y)
def valS (m : Bool) (n : Nat) : Int := if m then -(n : Int) else (n : Int)

theorem plus_step {b i o c c2 n x y X Y : Nat} (h : o + b ^ i * c = X + Y) (h2 : x + y + c = n + b * c2) : (o + b ^ i * n) + b ^ (i + 1) * c2 = (X + b ^ i * x) + (Y + b ^ i * y) := by
  rw [Nat.pow_succ]
  grind
theorem minus_step {b i o c c2 n x y X Y : Nat} (h : o + Y = X + b ^ i * c) (h2 : n + y + c = x + b * c2) : (o + b ^ i * n) + (Y + b ^ i * y) = (X + b ^ i * x) + b ^ (i + 1) * c2 := by
  rw [Nat.pow_succ]
  grind
open Go

def ratS (q : Rat) : List UInt8 := if q.den = 1 then Lib.itoa q.num else Lib.itoa q.num ++ 47 :: Lib.decDigits q.den
def numT (l : List UInt8) : List UInt8 := l.takeWhile (fun c => c != 47)
def denT (l : List UInt8) : List UInt8 := (l.dropWhile (fun c => c != 47)).drop 1
def numeral (l : List UInt8) : Prop := l ≠ [] ∧ l.all isDg = true ∧ (l.head? = some 48 → l = [48])
instance (l : List UInt8) : Decidable (numeral l) := inferInstanceAs (Decidable (_ ∧ _ ∧ _))
theorem numeral_dec {l : List UInt8} (h : numeral l) : l = Lib.decDigits (dv l) :=
  dec_of h.1 (List.all_eq_true.1 h.2.1) (fun h1 h2 => by rw [h.2.2 h2] at h1; simp at h1)
theorem dec_numeral (u : Nat) : numeral (Lib.decDigits u) := by
  refine ⟨decDigits_ne u, List.all_eq_true.2 (decDigits_dg u), fun h => ?_⟩
  rw [dec_head u h]
  exact dec_zero
def chkQ (l : List UInt8) : Int :=
  if chkI (numT l) = 11 ∨ (47 ∈ l ∧ (¬ numeral (denT l) ∨ denT l = [48] ∨ denT l = [49])) then 11
  else if chkI (numT l) = 4 ∨ (47 ∈ l ∧ 300 < (denT l).length) then 4
  else if 47 ∈ l ∧ Nat.gcd (valI (numT l)).natAbs (dv (denT l)) ≠ 1 then 11 else 0
def denQ (l : List UInt8) : Nat := if 47 ∈ l then dv (denT l) else 1
def valQ (l : List UInt8) : Rat := mkRat (valI (numT l)) (denQ l)
def fitsQ (q : Rat) : Prop := fits q.num ∧ fits (q.den : Int)
instance (q : Rat) : Decidable (fitsQ q) := inferInstanceAs (Decidable (_ ∧ _))
theorem dg_ne47 {c : UInt8} (h : isDg c = true) : (c != 47) = true := by
  have h1 := isDg_iff.1 h
  have : c ≠ 47 := fun e => by rw [e] at h1; exact absurd h1 (by decide)
  simpa using this
theorem dec_no47 (u : Nat) : ∀ c ∈ Lib.decDigits u, (c != 47) = true := fun c hc => dg_ne47 (decDigits_dg u c hc)
theorem itoa_no47 (z : Int) : ∀ c ∈ Lib.itoa z, (c != 47) = true := by
  rcases itoa_cases z with ⟨_, h⟩ | ⟨_, h⟩ <;> rw [h]
  · intro c hc
    rcases List.mem_cons.1 hc with h1 | h1
    · rw [h1]; rfl
    · exact dec_no47 _ c h1
  · exact dec_no47 _
theorem tw_all {p : UInt8 → Bool} : ∀ {a b : List UInt8}, (∀ c ∈ a, p c = true) → (a ++ b).takeWhile p = a ++ b.takeWhile p ∧ (a ++ b).dropWhile p = b.dropWhile p := by
  intro a
  induction a with
  | nil => intro b _; exact ⟨rfl, rfl⟩
  | cons x r ih =>
    intro b h
    obtain ⟨h1, h2⟩ := ih (b := b) (fun c hc => h c (by simp [hc]))
    simp [h x (by simp), h1, h2]
theorem cut_slash {a b : List UInt8} (h : ∀ c ∈ a, (c != 47) = true) : numT (a ++ 47 :: b) = a ∧ denT (a ++ 47 :: b) = b ∧ 47 ∈ a ++ 47 :: b := by
  obtain ⟨h1, h2⟩ := tw_all (b := 47 :: b) h
  refine ⟨?_, ?_, by simp⟩
  · unfold numT
    rw [h1]
    simp
  · unfold denT
    rw [h2]
    simp
theorem cut_plain {a : List UInt8} (h : ∀ c ∈ a, (c != 47) = true) : numT a = a ∧ ¬ 47 ∈ a := by
  obtain ⟨h1, _⟩ := tw_all (b := []) h
  refine ⟨?_, fun hm => by simpa using h 47 hm⟩
  unfold numT
  simpa using h1
theorem cut_eq {l : List UInt8} (h : 47 ∈ l) : l = numT l ++ 47 :: denT l := by
  unfold numT denT
  induction l with
  | nil => simp at h
  | cons c r ih =>
    by_cases hc : c = 47
    · simp [hc]
    · have : (c != 47) = true := by simpa using hc
      have hr : 47 ∈ r := by simpa [Ne.symm hc] using h
      simp only [List.takeWhile_cons, List.dropWhile_cons, this, if_true, List.cons_append]
      rw [← ih hr]
theorem cut_none {l : List UInt8} (h : ¬ 47 ∈ l) : numT l = l := by
  refine (cut_plain (fun c hc => ?_)).1
  have : c ≠ 47 := fun e => h (by rw [← e]; exact hc)
  simpa using this
theorem one_dec : Lib.decDigits 1 = [49] := by rw [Lib.decDigits_one (by omega)]; rfl
theorem chkI_int {l : List UInt8} (h : chkI l ≠ 11) : l = Lib.itoa (valI l) ∧ chkI l = (if fits (valI l) then 0 else 4) := by
  have key : ∃ z, l = Lib.itoa z := by
    unfold chkI at h
    split at h
    · exact absurd rfl h
    · rename_i h1
      have h2 : digs l ≠ [] := fun e => h1 (.inl e)
      have h3 : ∀ c ∈ digs l, isDg c = true := by
        refine List.all_eq_true.1 ?_
        cases ha : (digs l).all isDg with
        | true => rfl
        | false => exact absurd (.inr (.inr (by rw [ha]; simp))) h1
      cases l with
      | nil => exact absurd rfl h2
      | cons c r =>
        by_cases hc : c = 45
        · subst hc
          have ed : digs (45 :: r) = r := by simp [digs]
          rw [ed] at h2 h3
          have h4 : r.head? ≠ some 48 := fun e => h1 (.inr (.inl ⟨by rw [ed]; exact e, by simp⟩))
          have h5 := dec_of h2 h3 (fun _ => h4)
          have hp : 1 ≤ dv r := by
            rcases Nat.eq_zero_or_pos (dv r) with h0 | h0
            · rw [h0, dec_zero] at h5
              rw [h5] at h4
              exact absurd rfl h4
            · exact h0
          refine ⟨-((dv r : Nat) : Int), ?_⟩
          rw [Lib.itoa_neg _ hp, ← h5]
        · have ed : digs (c :: r) = c :: r := by simp [digs, hc]
          rw [ed] at h2 h3
          refine ⟨((dv (c :: r) : Nat) : Int), ?_⟩
          rw [Lib.itoa_nonneg]
          refine dec_of h2 h3 (fun hl e => h1 (.inr (.inl ⟨by rw [ed]; exact e, fun e2 => ?_⟩)))
          rw [e2] at hl
          simp at hl
  obtain ⟨z, hz⟩ := key
  rw [hz, val_itoa]
  exact ⟨rfl, chk_itoa z⟩
theorem fits_nat {u : Nat} : fits (u : Int) ↔ (Lib.decDigits u).length ≤ 300 := by
  have := @fits_len (u : Int)
  rwa [Int.natAbs_natCast] at this
theorem chkQ_ratS (q : Rat) : chkQ (ratS q) = if fitsQ q then 0 else 4 := by
  unfold ratS
  by_cases hd : q.den = 1
  · rw [if_pos hd]
    obtain ⟨h1, h2⟩ := cut_plain (itoa_no47 q.num)
    unfold chkQ
    rw [h1]
    simp only [h2, false_and, or_false, if_false]
    have hf : fitsQ q ↔ fits q.num := by
      unfold fitsQ
      rw [hd]
      exact ⟨fun h => h.1, fun h => ⟨h, fits_nat.2 (by rw [one_dec]; decide)⟩⟩
    rw [chk_itoa]
    by_cases hn : fits q.num
    · rw [if_pos hn, if_pos (hf.2 hn)]
      rfl
    · rw [if_neg hn, if_neg (fun h => hn (hf.1 h))]
      rfl
  · rw [if_neg hd]
    obtain ⟨h1, h2, h3⟩ := cut_slash (b := Lib.decDigits q.den) (itoa_no47 q.num)
    have hnum := dec_numeral q.den
    have hn0 : Lib.decDigits q.den ≠ [48] := fun e => q.den_nz (dec_inj (e.trans dec_zero.symm))
    have hn1 : Lib.decDigits q.den ≠ [49] := fun e => hd (dec_inj (e.trans one_dec.symm))
    unfold chkQ
    rw [h1, h2]
    simp only [h3, true_and, hnum, not_true_eq_false, hn0, hn1, or_false, val_itoa, dv_decDigits, q.reduced, ne_eq, if_false]
    rw [chk_itoa]
    have e11 : ¬ ((if fits q.num then (0 : Int) else 4) = 11) := by by_cases hn : fits q.num <;> simp [hn]
    rw [if_neg e11]
    by_cases hn : fits q.num
    · by_cases hdn : fits (q.den : Int)
      · rw [if_neg, if_pos ⟨hn, hdn⟩]
        rintro (h | h)
        · rw [if_pos hn] at h; cases h
        · have := fits_nat.1 hdn
          omega
      · rw [if_pos, if_neg (fun h => hdn h.2)]
        refine .inr (Nat.lt_of_not_le fun h => hdn (fits_nat.2 h))
    · rw [if_pos, if_neg (fun h => hn h.1)]
      exact .inl (if_neg hn)
theorem ratS_num (q : Rat) : valQ (ratS q) = q := by
  unfold valQ denQ ratS
  by_cases hd : q.den = 1
  · rw [if_pos hd]
    obtain ⟨h1, h2⟩ := cut_plain (itoa_no47 q.num)
    rw [h1, if_neg h2, val_itoa, ← hd, Rat.mkRat_self]
  · rw [if_neg hd]
    obtain ⟨h1, h2, h3⟩ := cut_slash (b := Lib.decDigits q.den) (itoa_no47 q.num)
    rw [h1, h2, if_pos h3, val_itoa, dv_decDigits, Rat.mkRat_self]
theorem ratS_inj {p q : Rat} (h : ratS p = ratS q) : p = q := by rw [← ratS_num p, h, ratS_num]
theorem chkQ_ok {l : List UInt8} (h : chkQ l = 0) : l = ratS (valQ l) ∧ fitsQ (valQ l) ∧ (valQ l).num = valI (numT l) ∧ (valQ l).den = denQ l := by
  have key : ∃ q : Rat, l = ratS q := by
    unfold chkQ at h
    split at h
    · cases h
    · rename_i h1
      split at h
      · cases h
      · split at h
        · cases h
        · rename_i h3
          obtain ⟨e1, _⟩ := chkI_int (fun e => h1 (.inl e))
          by_cases hs : 47 ∈ l
          · have hn : numeral (denT l) := Decidable.byContradiction fun e => h1 (.inr ⟨hs, .inl e⟩)
            have h0 : denT l ≠ [48] := fun e => h1 (.inr ⟨hs, .inr (.inl e)⟩)
            have h11 : denT l ≠ [49] := fun e => h1 (.inr ⟨hs, .inr (.inr e)⟩)
            have hg : Nat.gcd (valI (numT l)).natAbs (dv (denT l)) = 1 := Decidable.byContradiction fun e => h3 ⟨hs, e⟩
            have e2 := numeral_dec hn
            have hd0 : dv (denT l) ≠ 0 := fun e => h0 (by rw [e2, e]; exact dec_zero)
            have hd1 : dv (denT l) ≠ 1 := fun e => h11 (by rw [e2, e]; exact one_dec)
            refine ⟨⟨valI (numT l), dv (denT l), hd0, hg⟩, ?_⟩
            unfold ratS
            rw [if_neg hd1]
            show l = Lib.itoa (valI (numT l)) ++ 47 :: Lib.decDigits (dv (denT l))
            rw [← e1, ← e2]
            exact cut_eq hs
          · rw [cut_none hs] at e1
            refine ⟨((valI l : Int) : Rat), ?_⟩
            unfold ratS
            rw [Rat.den_intCast, if_pos rfl, Rat.num_intCast]
            exact e1
  obtain ⟨q, hq⟩ := key
  subst hq
  rw [ratS_num]
  have hc := chkQ_ratS q
  rw [h] at hc
  refine ⟨rfl, ?_, ?_⟩
  · by_cases hf : fitsQ q
    · exact hf
    · rw [if_neg hf] at hc
      cases hc
  · unfold denQ ratS
    by_cases hd : q.den = 1
    · rw [if_pos hd]
      obtain ⟨h1, h2⟩ := cut_plain (itoa_no47 q.num)
      rw [h1, if_neg h2, val_itoa]
      exact ⟨rfl, hd⟩
    · rw [if_neg hd]
      obtain ⟨h1, h2, h3⟩ := cut_slash (b := Lib.decDigits q.den) (itoa_no47 q.num)
      rw [h1, h2, if_pos h3, val_itoa, dv_decDigits]
      exact ⟨rfl, rfl⟩
theorem chkQ_fits {q : Rat} (h : fitsQ q) : chkQ (ratS q) = 0 := by rw [chkQ_ratS, if_pos h]
open Go

def bothQ (a b : List UInt8) : Int := if chkQ a = 0 then chkQ b else chkQ a
def addC (x y : Rat) : Prop := fits (x.num * y.den) ∧ fits (y.num * x.den) ∧ fits (x.num * y.den + y.num * x.den) ∧ fits ((x.den : Int) * y.den)
def subC (x y : Rat) : Prop := fits (x.num * y.den) ∧ fits (y.num * x.den) ∧ fits (x.num * y.den - y.num * x.den) ∧ fits ((x.den : Int) * y.den)
def mulC (x y : Rat) : Prop := fits (x.num * y.num) ∧ fits ((x.den : Int) * y.den)
def cmpC (x y : Rat) : Prop := fits (x.num * y.den) ∧ fits (y.num * x.den)
instance (x y : Rat) : Decidable (addC x y) := inferInstanceAs (Decidable (_ ∧ _))
instance (x y : Rat) : Decidable (subC x y) := inferInstanceAs (Decidable (_ ∧ _))
instance (x y : Rat) : Decidable (mulC x y) := inferInstanceAs (Decidable (_ ∧ _))
instance (x y : Rat) : Decidable (cmpC x y) := inferInstanceAs (Decidable (_ ∧ _))
theorem divInt_sub (x y : Rat) : Rat.divInt (x.num * y.den - y.num * x.den) ((x.den : Int) * y.den) = x - y := by
  rw [← Int.natCast_mul, Rat.divInt_ofNat, Rat.sub_def']
theorem divInt_mul (x y : Rat) : Rat.divInt (x.num * y.num) ((x.den : Int) * y.den) = x * y := by
  rw [← Int.natCast_mul, Rat.divInt_ofNat, Rat.mul_def']
theorem divInt_parts (n : Int) {d : Int} (hd : 0 < d) : (Rat.divInt n d).num = n / (Nat.gcd n.natAbs d.natAbs : Nat) ∧ ((Rat.divInt n d).den : Int) = d / (Nat.gcd n.natAbs d.natAbs : Nat) := by
  have hg : d.gcd n = Nat.gcd n.natAbs d.natAbs := by rw [Int.gcd_comm]; rfl
  constructor
  · rw [Rat.num_divInt, hg, Int.sign_eq_one_of_pos hd, Int.one_mul]
  · rw [Rat.den_divInt, if_neg (by omega), hg]
    rw [Int.natCast_ediv]
    congr 1
    omega
theorem ratS_of {n : Int} {d : Int} (hd : 0 < d) : ratS (Rat.divInt n d) = if d / (Nat.gcd n.natAbs d.natAbs : Nat) = 1 then Lib.itoa (n / (Nat.gcd n.natAbs d.natAbs : Nat)) else Lib.itoa (n / (Nat.gcd n.natAbs d.natAbs : Nat)) ++ 47 :: Lib.itoa (d / (Nat.gcd n.natAbs d.natAbs : Nat)) := by
  obtain ⟨h1, h2⟩ := divInt_parts n hd
  unfold ratS
  rw [← h1, ← h2, Lib.itoa_nonneg]
  by_cases h : (Rat.divInt n d).den = 1
  · rw [if_pos h, if_pos (by omega)]
  · rw [if_neg h, if_neg (by omega)]
theorem ratS_int (n : Int) : ratS (n : Rat) = Lib.itoa n := by
  unfold ratS
  rw [Rat.den_intCast, if_pos rfl, Rat.num_intCast]
theorem cmpQ (x y : Rat) : Lib.compareInt (x.num * y.den) (y.num * x.den) = if x < y then -1 else if y < x then 1 else 0 := by
  have h1 := Rat.lt_iff x y
  have h2 := Rat.lt_iff y x
  obtain ⟨u, hu⟩ : ∃ u, u = x.num * (y.den : Int) := ⟨_, rfl⟩
  obtain ⟨v, hv⟩ : ∃ v, v = y.num * (x.den : Int) := ⟨_, rfl⟩
  rw [← hu, ← hv] at h1 h2 ⊢
  unfold Lib.compareInt
  by_cases a : x < y
  · rw [if_pos a, if_pos (h1.1 a)]
  · rw [if_neg a, if_neg (fun h => a (h1.2 h))]
    by_cases c : y < x
    · rw [if_pos c, if_pos (h2.1 c)]
    · rw [if_neg c, if_neg (fun h => c (h2.2 h))]
def natQ (l : List UInt8) : Prop := chkQ l = 0 ∧ (digs (numT l)).length ≤ 8 ∧ (47 ∈ l → (denT l).length ≤ 8)
instance (l : List UInt8) : Decidable (natQ l) := inferInstanceAs (Decidable (_ ∧ _ ∧ _))
theorem natQ_lt {l : List UInt8} (h : natQ l) : (valQ l).num.natAbs < 100000000 ∧ (valQ l).den < 100000000 ∧ 0 < (valQ l).den := by
  obtain ⟨h1, h2, h3⟩ := h
  obtain ⟨e1, e2, e3, e4⟩ := chkQ_ok h1
  refine ⟨?_, ?_, (valQ l).den_pos⟩
  · rw [e3]
    have h5 : numT l = Lib.itoa (valQ l).num := by
      rw [e3]
      refine (chkI_int (fun e => ?_)).1
      unfold chkQ at h1
      rw [if_pos (.inl e)] at h1
      cases h1
    rw [h5, digs_itoa] at h2
    have h6 := (dec_len_le (u := (valQ l).num.natAbs) (n := 8) (by omega)).1 h2
    rw [e3] at h6
    exact h6
  · rw [e4]
    unfold denQ
    by_cases hs : 47 ∈ l
    · rw [if_pos hs]
      have h6 := h3 hs
      have h7 : ∀ c ∈ denT l, isDg c = true := by
        unfold chkQ at h1
        split at h1
        · cases h1
        · rename_i hn
          have h8 : numeral (denT l) := Decidable.byContradiction fun e => hn (.inr ⟨hs, .inl e⟩)
          exact List.all_eq_true.1 h8.2.1
      exact Nat.lt_of_lt_of_le (dv_lt _ h7) (Nat.pow_le_pow_right (by omega) h6)
    · rw [if_neg hs]
      omega
open Go

def lead (l : List UInt8) : List UInt8 := l.takeWhile isDg
def natI (l : List UInt8) : Option (Nat × List UInt8) :=
  if (lead l).length = 0 ∨ 8 < (lead l).length ∨ (1 < (lead l).length ∧ l.head? = some 48) then none else some (dv (lead l), l.drop (lead l).length)
def natOf (l : List UInt8) : Option (Int × Nat) :=
  match natI (digs l) with
  | none => none
  | some (n, rest) =>
    if (digs l).length < l.length ∧ n = 0 then none else
    match rest with
    | [] => some (if (digs l).length < l.length then -(n : Int) else (n : Int), 1)
    | c :: r => if c ≠ 47 then none else
      match natI r with
      | none => none
      | some (d, rest2) => if rest2 ≠ [] ∨ d < 2 ∨ Nat.gcd n d ≠ 1 then none else some (if (digs l).length < l.length then -(n : Int) else (n : Int), d)
theorem lead_app {a b : List UInt8} (h : ∀ c ∈ a, isDg c = true) (hb : ∀ c, b.head? = some c → isDg c = false) : lead (a ++ b) = a := by
  unfold lead
  rw [(tw_all (b := b) h).1]
  cases b with
  | nil => simp
  | cons c r =>
    have := hb c rfl
    simp [this]
theorem lead_eq (l : List UInt8) : l = lead l ++ l.drop (lead l).length ∧ (∀ c ∈ lead l, isDg c = true) ∧ (∀ c, (l.drop (lead l).length).head? = some c → isDg c = false) := by
  unfold lead
  induction l with
  | nil => simp
  | cons c r ih =>
    by_cases h : isDg c = true
    · simp only [List.takeWhile_cons, h, if_true, List.length_cons, List.drop_succ_cons, List.cons_append]
      refine ⟨by rw [← ih.1], ?_, ih.2.2⟩
      intro x hx
      rcases List.mem_cons.1 hx with h1 | h1
      · rw [h1]; exact h
      · exact ih.2.1 x h1
    · have h2 : isDg c = false := by simpa using h
      simp [h2]
theorem natI_some {l : List UInt8} {n : Nat} {rest : List UInt8} (h : natI l = some (n, rest)) : l = Lib.decDigits n ++ rest ∧ (Lib.decDigits n).length ≤ 8 ∧ (∀ c, rest.head? = some c → isDg c = false) := by
  unfold natI at h
  split at h
  · cases h
  · rename_i hc
    injection h with h
    injection h with h1 h2
    obtain ⟨e1, e2, e3⟩ := lead_eq l
    have hne : lead l ≠ [] := fun e => hc (.inl (by rw [e]; rfl))
    have hnum : lead l = Lib.decDigits (dv (lead l)) := dec_of hne e2 (fun hl hh => hc (.inr (.inr ⟨hl, by
      rw [e1]
      cases hlead : lead l with
      | nil => exact absurd hlead hne
      | cons a b => rw [hlead] at hh; simpa using hh⟩)))
    rw [h1] at hnum
    rw [← hnum, ← h2]
    exact ⟨e1, by omega, e3⟩
theorem natI_dec {u : Nat} {rest : List UInt8} (h : (Lib.decDigits u).length ≤ 8) (hr : ∀ c, rest.head? = some c → isDg c = false) : natI (Lib.decDigits u ++ rest) = some (u, rest) := by
  have hl := lead_app (a := Lib.decDigits u) (decDigits_dg u) hr
  unfold natI
  rw [hl, if_neg, dv_decDigits, List.drop_left]
  rintro (h1 | h1 | ⟨h1, h2⟩)
  · exact decDigits_ne u (List.eq_nil_of_length_eq_zero h1)
  · omega
  · have h3 : (Lib.decDigits u).head? = some 48 := by
      cases hd : Lib.decDigits u with
      | nil => exact absurd hd (decDigits_ne u)
      | cons a b => rw [hd] at h2; simpa using h2
    rw [dec_head u h3, dec_zero] at h1
    simp at h1
theorem dg47 : isDg 47 = false := by decide
theorem digs_ratS (q : Rat) : digs (ratS q) = Lib.decDigits q.num.natAbs ++ (if q.den = 1 then [] else 47 :: Lib.decDigits q.den) ∧ ((digs (ratS q)).length < (ratS q).length ↔ q.num < 0) := by
  have key : ∀ r : List UInt8, digs (Lib.itoa q.num ++ r) = Lib.decDigits q.num.natAbs ++ r ∧ ((digs (Lib.itoa q.num ++ r)).length < (Lib.itoa q.num ++ r).length ↔ q.num < 0) := by
    intro r
    rcases itoa_cases q.num with ⟨h1, h⟩ | ⟨h1, h⟩
    · rw [h]
      simp [digs, h1]
    · rw [h]
      have e : digs (Lib.decDigits q.num.natAbs ++ r) = Lib.decDigits q.num.natAbs ++ r := by
        have h2 := dec_head45 q.num.natAbs
        cases hd : Lib.decDigits q.num.natAbs with
        | nil => exact absurd hd (decDigits_ne _)
        | cons a b =>
          rw [hd] at h2
          have : a ≠ 45 := by simpa using h2
          simp [digs, this]
      rw [e]
      exact ⟨rfl, by omega⟩
  unfold ratS
  by_cases hd : q.den = 1
  · rw [if_pos hd, if_pos hd]
    have := key []
    simpa using this
  · rw [if_neg hd, if_neg hd]
    exact key _
theorem natOf_ratS (q : Rat) (h1 : (Lib.decDigits q.num.natAbs).length ≤ 8) (h2 : (Lib.decDigits q.den).length ≤ 8) : natOf (ratS q) = some (q.num, q.den) := by
  obtain ⟨e1, e2⟩ := digs_ratS q
  unfold natOf
  rw [e1, natI_dec h1 (by
    intro c hc
    by_cases hd : q.den = 1
    · rw [if_pos hd] at hc; cases hc
    · rw [if_neg hd] at hc; injection hc with hc; rw [← hc]; exact dg47)]
  simp only []
  rw [← e1]
  have hs : (if (digs (ratS q)).length < (ratS q).length then -((q.num.natAbs : Nat) : Int) else ((q.num.natAbs : Nat) : Int)) = q.num := by
    by_cases hn : q.num < 0
    · rw [if_pos (e2.2 hn)]; omega
    · rw [if_neg (fun h => hn (e2.1 h))]; omega
  rw [hs, if_neg (fun ⟨a, b⟩ => by have := e2.1 a; omega)]
  by_cases hd : q.den = 1
  · rw [if_pos hd, hd]
  · rw [if_neg hd]
    simp only [ne_eq, not_true_eq_false, if_false]
    have := natI_dec (rest := []) h2 (by intro c hc; cases hc)
    rw [List.append_nil] at this
    rw [this]
    simp only [not_true_eq_false, false_or]
    have hpos := q.den_pos
    rw [if_neg]
    rintro (h | h)
    · omega
    · exact h q.reduced
theorem natOf_eq (l : List UInt8) : natOf l = if natQ l then some ((valQ l).num, (valQ l).den) else none := by
  by_cases h : natQ l
  · rw [if_pos h]
    obtain ⟨e1, _, _, _⟩ := chkQ_ok h.1
    obtain ⟨b1, b2, _⟩ := natQ_lt h
    have g1 := (dec_len_le (u := (valQ l).num.natAbs) (n := 8) (by omega)).2 (by simpa using b1)
    have g2 := (dec_len_le (u := (valQ l).den) (n := 8) (by omega)).2 (by simpa using b2)
    have := natOf_ratS (valQ l) g1 g2
    rw [← e1] at this
    exact this
  · rw [if_neg h]
    cases hn : natOf l with
    | none => rfl
    | some p =>
      exfalso
      have key : ∃ q : Rat, l = ratS q ∧ (Lib.decDigits q.num.natAbs).length ≤ 8 ∧ (Lib.decDigits q.den).length ≤ 8 := by
        unfold natOf at hn
        split at hn
        · cases hn
        · rename_i n rest h1
          obtain ⟨e1, e2, e3⟩ := natI_some h1
          split at hn
          · cases hn
          · rename_i hz
            have hsig : ∀ r, digs l = Lib.decDigits n ++ r → l = Lib.itoa (if (digs l).length < l.length then -(n : Int) else (n : Int)) ++ r := by
              intro r hr
              cases l with
              | nil => simp [digs] at hr; exact absurd hr.1 (decDigits_ne n)
              | cons c t =>
                by_cases hc : c = 45
                · subst hc
                  have ed : digs (45 :: t) = t := by simp [digs]
                  rw [ed] at hr hz ⊢
                  have hl : t.length < (45 :: t).length := by simp
                  rw [if_pos hl, Lib.itoa_neg n (by
                    rcases Nat.eq_zero_or_pos n with h0 | h0
                    · exact absurd ⟨hl, h0⟩ hz
                    · exact h0), List.cons_append, ← hr]
                · have ed : digs (c :: t) = c :: t := by simp [digs, hc]
                  rw [ed] at hr ⊢
                  rw [if_neg (by omega), Lib.itoa_nonneg, hr]
            have habs : (if (digs l).length < l.length then -(n : Int) else (n : Int)).natAbs = n := by split <;> omega
            split at hn
            · refine ⟨(((if (digs l).length < l.length then -(n : Int) else (n : Int)) : Int) : Rat), ?_, ?_, ?_⟩
              · rw [ratS_int]
                have := hsig [] (by rw [e1])
                rw [List.append_nil] at this
                exact this
              · rw [Rat.num_intCast, habs]
                exact e2
              · rw [Rat.den_intCast, one_dec]
                decide
            · rename_i c r
              split at hn
              · cases hn
              · rename_i hc
                have hc47 : c = 47 := Decidable.byContradiction hc
                split at hn
                · cases hn
                · rename_i d rest2 h4
                  split at hn
                  · cases hn
                  · rename_i hcond
                    obtain ⟨f1, f2, _⟩ := natI_some h4
                    have hr2 : rest2 = [] := Decidable.byContradiction fun e => hcond (.inl e)
                    have hd2 : ¬ d < 2 := fun e => hcond (.inr (.inl e))
                    have hg : Nat.gcd n d = 1 := Decidable.byContradiction fun e => hcond (.inr (.inr e))
                    rw [hr2, List.append_nil] at f1
                    refine ⟨⟨if (digs l).length < l.length then -(n : Int) else (n : Int), d, by omega, by rw [habs]; exact hg⟩, ?_, ?_, f2⟩
                    · unfold ratS
                      rw [if_neg (by show ¬ d = 1; omega)]
                      refine hsig _ ?_
                      show digs l = Lib.decDigits n ++ 47 :: Lib.decDigits d
                      rw [e1, hc47, f1]
                    · show (Lib.decDigits (if (digs l).length < l.length then -(n : Int) else (n : Int)).natAbs).length ≤ 8
                      rw [habs]
                      exact e2
      obtain ⟨q, hq, g1, g2⟩ := key
      refine h ⟨?_, ?_, ?_⟩
      · rw [hq]
        exact chkQ_fits ⟨fits_len.2 (by omega), fits_nat.2 (by omega)⟩
      · rw [hq]
        unfold ratS
        by_cases hd : q.den = 1
        · rw [if_pos hd, (cut_plain (itoa_no47 q.num)).1, digs_itoa]
          exact g1
        · rw [if_neg hd, (cut_slash (itoa_no47 q.num)).1, digs_itoa]
          exact g1
      · intro hs
        rw [hq] at hs ⊢
        unfold ratS at hs ⊢
        by_cases hd : q.den = 1
        · rw [if_pos hd] at hs
          exact absurd hs (cut_plain (itoa_no47 q.num)).2
        · rw [if_neg hd, (cut_slash (itoa_no47 q.num)).2.1]
          exact g2
end Go.KI
namespace Go.Proofs
open Go.Shelf
def Tryz.lays169_ren : Go.Shelf.Ren := ⟨fun | 169 => 237 | n => n, fun | 70 => 259 | 9 => 9 | 0 => 0 | 72 => 261 | 37 => 49 | 127 => 294 | 3 => 3 | 5 => 5 | n => n, fun | n => n⟩
theorem Tryz.lays169 : Go.Proofs.Lays.n169 Tryz.prog Tryz.lays169_ren := {
  mixed := by kernel_rfl
  f169 := Tryz.func237.trans (congrArg some (by kernel_rfl))
  t0 := Tryz.underlying0
  a0 := Tryz.isAgg0
  z0 := Tryz.sizeOf0
  v0 := Tryz.zeroValue0
  t3 := Tryz.underlying3
  a3 := Tryz.isAgg3
  z3 := Tryz.sizeOf3
  v3 := Tryz.zeroValue3
  t9 := Tryz.underlying9
  a9 := Tryz.isAgg9
  z9 := Tryz.sizeOf9
  v9 := Tryz.zeroValue9
  t37 := Tryz.underlying49
  a37 := Tryz.isAgg49
  z37 := Tryz.sizeOf49
  v37 := Tryz.zeroValue49
  t70 := Tryz.underlying259
  a70 := Tryz.isAgg259
  z70 := Tryz.sizeOf259
  v70 := Tryz.zeroValue259
  t72 := Tryz.underlying261
  a72 := Tryz.isAgg261
  z72 := Tryz.sizeOf261
  v72 := Tryz.zeroValue261
  t127 := Tryz.underlying294
  a127 := Tryz.isAgg294
  z127 := Tryz.sizeOf294
  v127 := Tryz.zeroValue294 }
theorem Tryz.Builder_Extra_169 : Builder.Extra Tryz.prog Tryz.lays169_ren := {
  sizeBuilder := by kernel_rfl
  liesBuilder := by kernel_rfl
  t5 := Tryz.underlying5
  a5 := Tryz.isAgg5
  z5 := Tryz.sizeOf5
  v5 := Tryz.zeroValue5
  infoByte := by kernel_rfl
  cellsByte := by kernel_rfl
  sizeByte := by kernel_rfl
  neB5 := by decide }
def Tryz.lays160_ren : Go.Shelf.Ren := ⟨fun | 160 => 232 | 232 => 259 | 231 => 258 | 227 => 260 | 234 => 262 | 233 => 261 | 236 => 264 | 235 => 263 | 228 => 280 | 271 => 283 | 151 => 282 | 197 => 281 | 120 => 292 | 152 => 291 | 260 => 290 | 137 => 293 | 119 => 294 | 224 => 272 | 225 => 271 | 217 => 270 | 266 => 286 | n => n, fun | 9 => 9 | 4 => 4 | 3 => 3 | 5 => 5 | 117 => 286 | 116 => 285 | 0 => 0 | 124 => 289 | 21 => 21 | 105 => 304 | 46 => 227 | 119 => 314 | 139 => 317 | 138 => 316 | n => n, fun | 3 => 7 | 4 => 8 | n => n⟩
theorem Tryz.lays160 : Go.Proofs.Lays.n160 Tryz.prog Tryz.lays160_ren := {
  mixed := by kernel_rfl
  f119 := Tryz.func294.trans (congrArg some (by kernel_rfl))
  f120 := Tryz.func292.trans (congrArg some (by kernel_rfl))
  f137 := Tryz.func293.trans (congrArg some (by kernel_rfl))
  f151 := Tryz.func282.trans (congrArg some (by kernel_rfl))
  f152 := Tryz.func291.trans (congrArg some (by kernel_rfl))
  f160 := Tryz.func232.trans (congrArg some (by kernel_rfl))
  f197 := Tryz.func281.trans (congrArg some (by kernel_rfl))
  f217 := Tryz.func270.trans (congrArg some (by kernel_rfl))
  f224 := Tryz.func272.trans (congrArg some (by kernel_rfl))
  f225 := Tryz.func271.trans (congrArg some (by kernel_rfl))
  f227 := Tryz.func260.trans (congrArg some (by kernel_rfl))
  f228 := Tryz.func280.trans (congrArg some (by kernel_rfl))
  f231 := Tryz.func258.trans (congrArg some (by kernel_rfl))
  f232 := Tryz.func259.trans (congrArg some (by kernel_rfl))
  f233 := Tryz.func261.trans (congrArg some (by kernel_rfl))
  f234 := Tryz.func262.trans (congrArg some (by kernel_rfl))
  f235 := Tryz.func263.trans (congrArg some (by kernel_rfl))
  f236 := Tryz.func264.trans (congrArg some (by kernel_rfl))
  f260 := Tryz.func290.trans (congrArg some (by kernel_rfl))
  f266 := Tryz.func286.trans (congrArg some (by kernel_rfl))
  f271 := Tryz.func283.trans (congrArg some (by kernel_rfl))
  t0 := Tryz.underlying0
  a0 := Tryz.isAgg0
  z0 := Tryz.sizeOf0
  v0 := Tryz.zeroValue0
  t3 := Tryz.underlying3
  a3 := Tryz.isAgg3
  z3 := Tryz.sizeOf3
  v3 := Tryz.zeroValue3
  t4 := Tryz.underlying4
  a4 := Tryz.isAgg4
  z4 := Tryz.sizeOf4
  v4 := Tryz.zeroValue4
  t5 := Tryz.underlying5
  a5 := Tryz.isAgg5
  z5 := Tryz.sizeOf5
  v5 := Tryz.zeroValue5
  t9 := Tryz.underlying9
  a9 := Tryz.isAgg9
  z9 := Tryz.sizeOf9
  v9 := Tryz.zeroValue9
  t21 := Tryz.underlying21
  a21 := Tryz.isAgg21
  z21 := Tryz.sizeOf21
  v21 := Tryz.zeroValue21
  t46 := Tryz.underlying227
  a46 := Tryz.isAgg227
  z46 := Tryz.sizeOf227
  v46 := Tryz.zeroValue227
  t105 := Tryz.underlying304
  a105 := Tryz.isAgg304
  z105 := Tryz.sizeOf304
  v105 := Tryz.zeroValue304
  t116 := Tryz.underlying285
  a116 := Tryz.isAgg285
  z116 := Tryz.sizeOf285
  t117 := Tryz.underlying286
  a117 := Tryz.isAgg286
  z117 := Tryz.sizeOf286
  v117 := Tryz.zeroValue286
  t119 := Tryz.underlying314
  a119 := Tryz.isAgg314
  z119 := Tryz.sizeOf314
  t124 := Tryz.underlying289
  a124 := Tryz.isAgg289
  z124 := Tryz.sizeOf289
  v124 := Tryz.zeroValue289
  t138 := Tryz.underlying316
  a138 := Tryz.isAgg316
  z138 := Tryz.sizeOf316
  v138 := Tryz.zeroValue316
  t139 := Tryz.underlying317
  a139 := Tryz.isAgg317
  z139 := Tryz.sizeOf317
  v139 := Tryz.zeroValue317
  g3 := by kernel_rfl
  g4 := by kernel_rfl }
def Tryz.lays103_ren : Go.Shelf.Ren := ⟨fun | 103 => 213 | 210 => 247 | 206 => 203 | n => n, fun | 9 => 9 | 4 => 4 | 24 => 145 | 3 => 3 | n => n, fun | n => n⟩
theorem Tryz.lays103 : Go.Proofs.Lays.n103 Tryz.prog Tryz.lays103_ren := {
  mixed := by kernel_rfl
  f103 := Tryz.func213.trans (congrArg some (by kernel_rfl))
  f206 := Tryz.func203.trans (congrArg some (by kernel_rfl))
  f210 := Tryz.func247.trans (congrArg some (by kernel_rfl))
  t3 := Tryz.underlying3
  a3 := Tryz.isAgg3
  z3 := Tryz.sizeOf3
  v3 := Tryz.zeroValue3
  t4 := Tryz.underlying4
  a4 := Tryz.isAgg4
  z4 := Tryz.sizeOf4
  v4 := Tryz.zeroValue4
  t9 := Tryz.underlying9
  a9 := Tryz.isAgg9
  z9 := Tryz.sizeOf9
  v9 := Tryz.zeroValue9
  t24 := Tryz.underlying145
  a24 := Tryz.isAgg145
  z24 := Tryz.sizeOf145
  v24 := Tryz.zeroValue145 }
open Go.RowKit in
theorem Tryz.strings_CutPrefix (s p : ByteArray) (w : World) :
    Calls Tryz.prog 213 #[.string s, .string p] w fun e w' => e = .returned (.tuple #[.string ⟨(Lib.trimPrefix s.data.toList p.data.toList).toArray⟩, .bool (Lib.hasPrefix s.data.toList p.data.toList)]) ∧ w' = w := Any.strings_CutPrefix Tryz.lays103 s p w
def Tryz.lays122_ren : Go.Shelf.Ren := ⟨fun | 122 => 126 | 215 => 182 | n => n, fun | 3 => 3 | 4 => 4 | n => n, fun | n => n⟩
theorem Tryz.lays122 : Go.Proofs.Lays.n122 Tryz.prog Tryz.lays122_ren := {
  mixed := by kernel_rfl
  f122 := Tryz.func126.trans (congrArg some (by kernel_rfl))
  f215 := Tryz.func182.trans (congrArg some (by kernel_rfl))
  t3 := Tryz.underlying3
  a3 := Tryz.isAgg3
  z3 := Tryz.sizeOf3
  v3 := Tryz.zeroValue3
  t4 := Tryz.underlying4
  a4 := Tryz.isAgg4
  z4 := Tryz.sizeOf4
  v4 := Tryz.zeroValue4 }
open Go.RowKit in
theorem Tryz.cmp_Compare_int (x y : Int) (w : World) :
    Calls Tryz.prog 126 #[.int .i64 x, .int .i64 y] w fun e w' => e = .returned (.int .i64 (Lib.compareInt x y)) ∧ w' = w := Any.cmp_Compare_int Tryz.lays122 x y w
def Tryz.laysM171_ren : Go.Shelf.Ren := ⟨fun | 171 => 123 | 243 => 176 | 246 => 218 | 283 => 250 | 284 => 251 | 285 => 252 | 286 => 253 | 129 => 231 | 317 => 274 | 318 => 275 | 319 => 276 | 320 => 277 | 337 => 288 | 338 => 289 | n => n, fun | 3 => 3 | 9 => 9 | 2 => 2 | 4 => 4 | 171 => 274 | 0 => 0 | 53 => 256 | 37 => 49 | 5 => 5 | 173 => 276 | 212 => 297 | 51 => 254 | 20 => 20 | 213 => 298 | 46 => 227 | 232 => 312 | 233 => 313 | n => n, fun | 17 => 4 | 18 => 5 | 19 => 6 | n => n⟩
theorem Tryz.laysM171 : Go.Proofs.LaysM.n171 Tryz.prog Tryz.laysM171_ren := {
  mixed := by kernel_rfl
  f129 := Tryz.func231.trans (congrArg some (by kernel_rfl))
  f171 := Tryz.func123.trans (congrArg some (by kernel_rfl))
  f243 := Tryz.func176.trans (congrArg some (by kernel_rfl))
  f246 := Tryz.func218.trans (congrArg some (by kernel_rfl))
  f283 := Tryz.func250.trans (congrArg some (by kernel_rfl))
  f284 := Tryz.func251.trans (congrArg some (by kernel_rfl))
  f285 := Tryz.func252.trans (congrArg some (by kernel_rfl))
  f286 := Tryz.func253.trans (congrArg some (by kernel_rfl))
  f317 := Tryz.func274.trans (congrArg some (by kernel_rfl))
  f318 := Tryz.func275.trans (congrArg some (by kernel_rfl))
  f319 := Tryz.func276.trans (congrArg some (by kernel_rfl))
  f320 := Tryz.func277.trans (congrArg some (by kernel_rfl))
  f337 := Tryz.func288.trans (congrArg some (by kernel_rfl))
  f338 := Tryz.func289.trans (congrArg some (by kernel_rfl))
  t0 := Tryz.underlying0
  a0 := Tryz.isAgg0
  z0 := Tryz.sizeOf0
  v0 := Tryz.zeroValue0
  t2 := Tryz.underlying2
  a2 := Tryz.isAgg2
  z2 := Tryz.sizeOf2
  v2 := Tryz.zeroValue2
  t3 := Tryz.underlying3
  a3 := Tryz.isAgg3
  z3 := Tryz.sizeOf3
  v3 := Tryz.zeroValue3
  t4 := Tryz.underlying4
  a4 := Tryz.isAgg4
  z4 := Tryz.sizeOf4
  v4 := Tryz.zeroValue4
  t5 := Tryz.underlying5
  a5 := Tryz.isAgg5
  z5 := Tryz.sizeOf5
  v5 := Tryz.zeroValue5
  t9 := Tryz.underlying9
  a9 := Tryz.isAgg9
  z9 := Tryz.sizeOf9
  v9 := Tryz.zeroValue9
  t20 := Tryz.underlying20
  a20 := Tryz.isAgg20
  z20 := Tryz.sizeOf20
  v20 := Tryz.zeroValue20
  t37 := Tryz.underlying49
  a37 := Tryz.isAgg49
  z37 := Tryz.sizeOf49
  v37 := Tryz.zeroValue49
  t46 := Tryz.underlying227
  a46 := Tryz.isAgg227
  z46 := Tryz.sizeOf227
  v46 := Tryz.zeroValue227
  t51 := Tryz.underlying254
  a51 := Tryz.isAgg254
  z51 := Tryz.sizeOf254
  v51 := Tryz.zeroValue254
  t53 := Tryz.underlying256
  a53 := Tryz.isAgg256
  z53 := Tryz.sizeOf256
  v53 := Tryz.zeroValue256
  t171 := Tryz.underlying274
  a171 := Tryz.isAgg274
  z171 := Tryz.sizeOf274
  v171 := Tryz.zeroValue274
  t173 := Tryz.underlying276
  a173 := Tryz.isAgg276
  z173 := Tryz.sizeOf276
  v173 := Tryz.zeroValue276
  t212 := Tryz.underlying297
  a212 := Tryz.isAgg297
  z212 := Tryz.sizeOf297
  v212 := Tryz.zeroValue297
  t213 := Tryz.underlying298
  a213 := Tryz.isAgg298
  z213 := Tryz.sizeOf298
  t232 := Tryz.underlying312
  a232 := Tryz.isAgg312
  z232 := Tryz.sizeOf312
  v232 := Tryz.zeroValue312
  t233 := Tryz.underlying313
  a233 := Tryz.isAgg313
  z233 := Tryz.sizeOf313
  v233 := Tryz.zeroValue313
  g17 := by kernel_rfl
  g18 := by kernel_rfl
  g19 := by kernel_rfl
  i0 := by kernel_rfl
  i2 := by kernel_rfl
  i3 := by kernel_rfl
  i4 := by kernel_rfl
  i5 := by kernel_rfl
  i9 := by kernel_rfl
  i20 := by kernel_rfl
  i37 := by kernel_rfl
  i46 := by kernel_rfl
  i51 := by kernel_rfl
  i53 := by kernel_rfl
  i171 := by kernel_rfl
  i173 := by kernel_rfl
  i212 := by kernel_rfl
  i232 := by kernel_rfl
  i233 := by kernel_rfl
  m17 := by kernel_rfl
  m18 := by kernel_rfl
  m19 := by kernel_rfl }
open Go.RowKit Go.Sort Go.Lib in
theorem Tryz.strconv_Itoa (n : Int) (h0 : -9223372036854775808 ≤ n) (h1 : n ≤ 9223372036854775807) (w : World) (htab : Lib.TabIs Tryz.prog w "internal/strconv.uint64pow10" .u64 Lib.pow10Tab) :
    Calls Tryz.prog 123 #[.int .i64 n] w fun e w' => e = .returned (.string ⟨(Lib.itoa n).toArray⟩) ∧ ∃ k os, w' = grow (w.drewN k) os := Any.strconv_Itoa Tryz.laysM171 n h0 h1 w htab
def Tryz.laysC172_ren : Go.Shelf.Ren := ⟨fun | 172 => 144 | 244 => 190 | 245 => 191 | 247 => 225 | 279 => 226 | 280 => 227 | 281 => 228 | 282 => 229 | 287 => 255 | 316 => 256 | 171 => 123 | 205 => 257 | 321 => 278 | 322 => 279 | 243 => 176 | 246 => 218 | 283 => 250 | 284 => 251 | 285 => 252 | 286 => 253 | 129 => 231 | 317 => 274 | 318 => 275 | 319 => 276 | 320 => 277 | 337 => 288 | 338 => 289 | n => n, fun | 9 => 9 | 3 => 3 | 75 => 189 | 76 => 190 | 4 => 4 | 5 => 5 | 167 => 247 | 37 => 49 | 0 => 0 | 85 => 248 | 2 => 2 | 168 => 250 | 53 => 256 | 175 => 278 | 46 => 227 | 210 => 281 | 127 => 294 | 145 => 302 | 143 => 300 | 21 => 21 | 171 => 274 | 173 => 276 | 212 => 297 | 51 => 254 | 20 => 20 | 213 => 298 | 232 => 312 | 233 => 313 | 80 => 264 | n => n, fun | 15 => 1 | 16 => 2 | 17 => 4 | 18 => 5 | 19 => 6 | n => n⟩
theorem Tryz.laysC172 : Go.Proofs.LaysC.n172 Tryz.prog Tryz.laysC172_ren := {
  mixed := by kernel_rfl
  f129 := Tryz.func231.trans (congrArg some (by kernel_rfl))
  f171 := Tryz.func123.trans (congrArg some (by kernel_rfl))
  f172 := Tryz.func144.trans (congrArg some (by kernel_rfl))
  f205 := Tryz.func257.trans (congrArg some (by kernel_rfl))
  f243 := Tryz.func176.trans (congrArg some (by kernel_rfl))
  f244 := Tryz.func190.trans (congrArg some (by kernel_rfl))
  f245 := Tryz.func191.trans (congrArg some (by kernel_rfl))
  f246 := Tryz.func218.trans (congrArg some (by kernel_rfl))
  f247 := Tryz.func225.trans (congrArg some (by kernel_rfl))
  f279 := Tryz.func226.trans (congrArg some (by kernel_rfl))
  f280 := Tryz.func227.trans (congrArg some (by kernel_rfl))
  f281 := Tryz.func228.trans (congrArg some (by kernel_rfl))
  f282 := Tryz.func229.trans (congrArg some (by kernel_rfl))
  f283 := Tryz.func250.trans (congrArg some (by kernel_rfl))
  f284 := Tryz.func251.trans (congrArg some (by kernel_rfl))
  f285 := Tryz.func252.trans (congrArg some (by kernel_rfl))
  f286 := Tryz.func253.trans (congrArg some (by kernel_rfl))
  f287 := Tryz.func255.trans (congrArg some (by kernel_rfl))
  f316 := Tryz.func256.trans (congrArg some (by kernel_rfl))
  f317 := Tryz.func274.trans (congrArg some (by kernel_rfl))
  f318 := Tryz.func275.trans (congrArg some (by kernel_rfl))
  f319 := Tryz.func276.trans (congrArg some (by kernel_rfl))
  f320 := Tryz.func277.trans (congrArg some (by kernel_rfl))
  f321 := Tryz.func278.trans (congrArg some (by kernel_rfl))
  f322 := Tryz.func279.trans (congrArg some (by kernel_rfl))
  f337 := Tryz.func288.trans (congrArg some (by kernel_rfl))
  f338 := Tryz.func289.trans (congrArg some (by kernel_rfl))
  t0 := Tryz.underlying0
  a0 := Tryz.isAgg0
  z0 := Tryz.sizeOf0
  v0 := Tryz.zeroValue0
  t2 := Tryz.underlying2
  a2 := Tryz.isAgg2
  z2 := Tryz.sizeOf2
  v2 := Tryz.zeroValue2
  t3 := Tryz.underlying3
  a3 := Tryz.isAgg3
  z3 := Tryz.sizeOf3
  v3 := Tryz.zeroValue3
  t4 := Tryz.underlying4
  a4 := Tryz.isAgg4
  z4 := Tryz.sizeOf4
  v4 := Tryz.zeroValue4
  t5 := Tryz.underlying5
  a5 := Tryz.isAgg5
  z5 := Tryz.sizeOf5
  v5 := Tryz.zeroValue5
  t9 := Tryz.underlying9
  a9 := Tryz.isAgg9
  z9 := Tryz.sizeOf9
  v9 := Tryz.zeroValue9
  t20 := Tryz.underlying20
  a20 := Tryz.isAgg20
  z20 := Tryz.sizeOf20
  v20 := Tryz.zeroValue20
  t21 := Tryz.underlying21
  a21 := Tryz.isAgg21
  z21 := Tryz.sizeOf21
  v21 := Tryz.zeroValue21
  t37 := Tryz.underlying49
  a37 := Tryz.isAgg49
  z37 := Tryz.sizeOf49
  v37 := Tryz.zeroValue49
  t46 := Tryz.underlying227
  a46 := Tryz.isAgg227
  z46 := Tryz.sizeOf227
  v46 := Tryz.zeroValue227
  t51 := Tryz.underlying254
  a51 := Tryz.isAgg254
  z51 := Tryz.sizeOf254
  v51 := Tryz.zeroValue254
  t53 := Tryz.underlying256
  a53 := Tryz.isAgg256
  z53 := Tryz.sizeOf256
  v53 := Tryz.zeroValue256
  t75 := Tryz.underlying189
  a75 := Tryz.isAgg189
  z75 := Tryz.sizeOf189
  v75 := Tryz.zeroValue189
  t76 := Tryz.underlying190
  a76 := Tryz.isAgg190
  z76 := Tryz.sizeOf190
  v76 := Tryz.zeroValue190
  t85 := Tryz.underlying248
  a85 := Tryz.isAgg248
  z85 := Tryz.sizeOf248
  v85 := Tryz.zeroValue248
  t127 := Tryz.underlying294
  a127 := Tryz.isAgg294
  z127 := Tryz.sizeOf294
  v127 := Tryz.zeroValue294
  t143 := Tryz.underlying300
  a143 := Tryz.isAgg300
  z143 := Tryz.sizeOf300
  v143 := Tryz.zeroValue300
  t145 := Tryz.underlying302
  a145 := Tryz.isAgg302
  z145 := Tryz.sizeOf302
  v145 := Tryz.zeroValue302
  t167 := Tryz.underlying247
  a167 := Tryz.isAgg247
  z167 := Tryz.sizeOf247
  v167 := Tryz.zeroValue247
  t168 := Tryz.underlying250
  a168 := Tryz.isAgg250
  z168 := Tryz.sizeOf250
  v168 := Tryz.zeroValue250
  t171 := Tryz.underlying274
  a171 := Tryz.isAgg274
  z171 := Tryz.sizeOf274
  v171 := Tryz.zeroValue274
  t173 := Tryz.underlying276
  a173 := Tryz.isAgg276
  z173 := Tryz.sizeOf276
  v173 := Tryz.zeroValue276
  t175 := Tryz.underlying278
  a175 := Tryz.isAgg278
  z175 := Tryz.sizeOf278
  v175 := Tryz.zeroValue278
  t210 := Tryz.underlying281
  a210 := Tryz.isAgg281
  z210 := Tryz.sizeOf281
  v210 := Tryz.zeroValue281
  t212 := Tryz.underlying297
  a212 := Tryz.isAgg297
  z212 := Tryz.sizeOf297
  v212 := Tryz.zeroValue297
  t213 := Tryz.underlying298
  a213 := Tryz.isAgg298
  z213 := Tryz.sizeOf298
  t232 := Tryz.underlying312
  a232 := Tryz.isAgg312
  z232 := Tryz.sizeOf312
  v232 := Tryz.zeroValue312
  t233 := Tryz.underlying313
  a233 := Tryz.isAgg313
  z233 := Tryz.sizeOf313
  v233 := Tryz.zeroValue313
  g15 := by kernel_rfl
  g16 := by kernel_rfl
  g17 := by kernel_rfl
  g18 := by kernel_rfl
  g19 := by kernel_rfl
  t80 := Tryz.underlying264
  a80 := Tryz.isAgg264
  z80 := Tryz.sizeOf264
  v80 := Tryz.zeroValue264
  i0 := by kernel_rfl
  i2 := by kernel_rfl
  i3 := by kernel_rfl
  i4 := by kernel_rfl
  i5 := by kernel_rfl
  i9 := by kernel_rfl
  i20 := by kernel_rfl
  i21 := by kernel_rfl
  i37 := by kernel_rfl
  i46 := by kernel_rfl
  i51 := by kernel_rfl
  i53 := by kernel_rfl
  i75 := by kernel_rfl
  i76 := by kernel_rfl
  i80 := by kernel_rfl
  i85 := by kernel_rfl
  i127 := by kernel_rfl
  i143 := by kernel_rfl
  i145 := by kernel_rfl
  i167 := by kernel_rfl
  i168 := by kernel_rfl
  i171 := by kernel_rfl
  i173 := by kernel_rfl
  i175 := by kernel_rfl
  i210 := by kernel_rfl
  i212 := by kernel_rfl
  i232 := by kernel_rfl
  i233 := by kernel_rfl
  m15 := by kernel_rfl
  m16 := by kernel_rfl
  m17 := by kernel_rfl
  m18 := by kernel_rfl
  m19 := by kernel_rfl
  c0 := by kernel_rfl
  c2 := by kernel_rfl
  c3 := by kernel_rfl
  c4 := by kernel_rfl
  c5 := by kernel_rfl
  c9 := by kernel_rfl
  c20 := by kernel_rfl
  c21 := by kernel_rfl
  c37 := by kernel_rfl
  c46 := by kernel_rfl
  c51 := by kernel_rfl
  c53 := by kernel_rfl
  c75 := by kernel_rfl
  c76 := by kernel_rfl
  c80 := by kernel_rfl
  c85 := by kernel_rfl
  c127 := by kernel_rfl
  c143 := by kernel_rfl
  c145 := by kernel_rfl
  c167 := by kernel_rfl
  c168 := by kernel_rfl
  c171 := by kernel_rfl
  c173 := by kernel_rfl
  c175 := by kernel_rfl
  c210 := by kernel_rfl
  c212 := by kernel_rfl
  c213 := by kernel_rfl
  c232 := by kernel_rfl
  c233 := by kernel_rfl }
open Go.RowKit in
theorem Tryz.strconv_Atoi_ok (s : ByteArray) (hmax : s.size ≤ 9223372036854775806) (v : Int) (h : Lib.atoiAll s.data.toList = .ok v) (w : World) :
    Calls Tryz.prog 144 #[.string s] w fun e w' => e = .returned (.tuple #[.int .i64 v, .nilIface]) ∧ (w' = w ∨ ∃ t, w' = Lib.bytesWorld w 5 t) := Any.strconv_Atoi_ok Tryz.laysC172 s hmax v h w
def Tryz.lays145_ren : Go.Shelf.Ren := ⟨fun | 145 => 219 | 220 => 254 | 219 => 243 | 217 => 270 | 225 => 271 | 224 => 272 | 267 => 273 | 266 => 286 | 314 => 287 | n => n, fun | 9 => 9 | 4 => 4 | 59 => 244 | 3 => 3 | 5 => 5 | 46 => 227 | 146 => 290 | 51 => 254 | n => n, fun | 1 => 3 | n => n⟩
theorem Tryz.lays145 : Go.Proofs.Lays.n145 Tryz.prog Tryz.lays145_ren := {
  mixed := by kernel_rfl
  f145 := Tryz.func219.trans (congrArg some (by kernel_rfl))
  f217 := Tryz.func270.trans (congrArg some (by kernel_rfl))
  f219 := Tryz.func243.trans (congrArg some (by kernel_rfl))
  f220 := Tryz.func254.trans (congrArg some (by kernel_rfl))
  f224 := Tryz.func272.trans (congrArg some (by kernel_rfl))
  f225 := Tryz.func271.trans (congrArg some (by kernel_rfl))
  f266 := Tryz.func286.trans (congrArg some (by kernel_rfl))
  f267 := Tryz.func273.trans (congrArg some (by kernel_rfl))
  f314 := Tryz.func287.trans (congrArg some (by kernel_rfl))
  t3 := Tryz.underlying3
  a3 := Tryz.isAgg3
  z3 := Tryz.sizeOf3
  v3 := Tryz.zeroValue3
  t4 := Tryz.underlying4
  a4 := Tryz.isAgg4
  z4 := Tryz.sizeOf4
  v4 := Tryz.zeroValue4
  t5 := Tryz.underlying5
  a5 := Tryz.isAgg5
  z5 := Tryz.sizeOf5
  v5 := Tryz.zeroValue5
  t9 := Tryz.underlying9
  a9 := Tryz.isAgg9
  z9 := Tryz.sizeOf9
  v9 := Tryz.zeroValue9
  t46 := Tryz.underlying227
  a46 := Tryz.isAgg227
  z46 := Tryz.sizeOf227
  v46 := Tryz.zeroValue227
  t51 := Tryz.underlying254
  a51 := Tryz.isAgg254
  z51 := Tryz.sizeOf254
  v51 := Tryz.zeroValue254
  t59 := Tryz.underlying244
  a59 := Tryz.isAgg244
  z59 := Tryz.sizeOf244
  v59 := Tryz.zeroValue244
  t146 := Tryz.underlying290
  a146 := Tryz.isAgg290
  z146 := Tryz.sizeOf290
  v146 := Tryz.zeroValue290
  g1 := by kernel_rfl }
open Go.RowKit Go.Lib in
theorem Tryz.strings_Cut (s sep : ByteArray) (m : Int) (w : World) (hs : s.size < 4294967281) (hm : w.cell? ⟨3, 0, none⟩ = some (.int .i64 m)) :
    Calls Tryz.prog 219 #[.string s, .string sep] w fun e w' => e = .returned (.tuple #[.string ⟨(Lib.cut s.data.toList sep.data.toList).1.toArray⟩, .string ⟨(Lib.cut s.data.toList sep.data.toList).2.1.toArray⟩, .bool (Lib.cut s.data.toList sep.data.toList).2.2]) ∧ ∃ n, w' = w.drewN n := Any.strings_Cut Tryz.lays145 s sep m w hs hm
def Tryz.lays99_ren : Go.Shelf.Ren := ⟨fun | 99 => 151 | 206 => 203 | n => n, fun | 9 => 9 | 4 => 4 | 3 => 3 | n => n, fun | n => n⟩
theorem Tryz.lays99 : Go.Proofs.Lays.n99 Tryz.prog Tryz.lays99_ren := {
  mixed := by kernel_rfl
  f99 := Tryz.func151.trans (congrArg some (by kernel_rfl))
  f206 := Tryz.func203.trans (congrArg some (by kernel_rfl))
  t3 := Tryz.underlying3
  a3 := Tryz.isAgg3
  z3 := Tryz.sizeOf3
  v3 := Tryz.zeroValue3
  t4 := Tryz.underlying4
  a4 := Tryz.isAgg4
  z4 := Tryz.sizeOf4
  v4 := Tryz.zeroValue4
  t9 := Tryz.underlying9
  a9 := Tryz.isAgg9
  z9 := Tryz.sizeOf9
  v9 := Tryz.zeroValue9 }
open Go.RowKit Go.Lib in
theorem Tryz.strings_HasPrefix (s p : ByteArray) (w : World) :
    Calls Tryz.prog 151 #[.string s, .string p] w fun e w' => e = .returned (.bool (Lib.hasPrefix s.data.toList p.data.toList)) ∧ w' = w := Any.strings_HasPrefix Tryz.lays99 s p w
def Tryz.lays101_ren : Go.Shelf.Ren := ⟨fun | 101 => 120 | 208 => 173 | 206 => 203 | n => n, fun | 9 => 9 | 4 => 4 | 3 => 3 | n => n, fun | n => n⟩
theorem Tryz.lays101 : Go.Proofs.Lays.n101 Tryz.prog Tryz.lays101_ren := {
  mixed := by kernel_rfl
  f101 := Tryz.func120.trans (congrArg some (by kernel_rfl))
  f206 := Tryz.func203.trans (congrArg some (by kernel_rfl))
  f208 := Tryz.func173.trans (congrArg some (by kernel_rfl))
  t3 := Tryz.underlying3
  a3 := Tryz.isAgg3
  z3 := Tryz.sizeOf3
  v3 := Tryz.zeroValue3
  t4 := Tryz.underlying4
  a4 := Tryz.isAgg4
  z4 := Tryz.sizeOf4
  v4 := Tryz.zeroValue4
  t9 := Tryz.underlying9
  a9 := Tryz.isAgg9
  z9 := Tryz.sizeOf9
  v9 := Tryz.zeroValue9 }
open Go.RowKit Go.Lib in
theorem Tryz.strings_TrimPrefix (s p : ByteArray) (w : World) :
    Calls Tryz.prog 120 #[.string s, .string p] w fun e w' => e = .returned (.string ⟨(Lib.trimPrefix s.data.toList p.data.toList).toArray⟩) ∧ w' = w := Any.strings_TrimPrefix Tryz.lays101 s p w
def Tryz.lays105_ren : Go.Shelf.Ren := ⟨fun | 105 => 195 | 212 => 233 | 99 => 151 | 165 => 234 | 166 => 235 | 170 => 236 | 169 => 237 | 263 => 265 | 264 => 266 | 206 => 203 | 240 => 267 | 241 => 268 | 276 => 284 | 277 => 285 | n => n, fun | 9 => 9 | 3 => 3 | 4 => 4 | 20 => 20 | 0 => 0 | 46 => 227 | 109 => 257 | 5 => 5 | 72 => 261 | 76 => 190 | 51 => 254 | 146 => 290 | 53 => 256 | 148 => 292 | 70 => 259 | 37 => 49 | 75 => 189 | 127 => 294 | 164 => 307 | 80 => 264 | n => n, fun | n => n⟩
theorem Tryz.lays105 : Go.Proofs.Lays.n105 Tryz.prog Tryz.lays105_ren := {
  mixed := by kernel_rfl
  f99 := Tryz.func151.trans (congrArg some (by kernel_rfl))
  f105 := Tryz.func195.trans (congrArg some (by kernel_rfl))
  f165 := Tryz.func234.trans (congrArg some (by kernel_rfl))
  f166 := Tryz.func235.trans (congrArg some (by kernel_rfl))
  f169 := Tryz.func237.trans (congrArg some (by kernel_rfl))
  f170 := Tryz.func236.trans (congrArg some (by kernel_rfl))
  f206 := Tryz.func203.trans (congrArg some (by kernel_rfl))
  f212 := Tryz.func233.trans (congrArg some (by kernel_rfl))
  f240 := Tryz.func267.trans (congrArg some (by kernel_rfl))
  f241 := Tryz.func268.trans (congrArg some (by kernel_rfl))
  f263 := Tryz.func265.trans (congrArg some (by kernel_rfl))
  f264 := Tryz.func266.trans (congrArg some (by kernel_rfl))
  f276 := Tryz.func284.trans (congrArg some (by kernel_rfl))
  f277 := Tryz.func285.trans (congrArg some (by kernel_rfl))
  t0 := Tryz.underlying0
  a0 := Tryz.isAgg0
  z0 := Tryz.sizeOf0
  v0 := Tryz.zeroValue0
  t3 := Tryz.underlying3
  a3 := Tryz.isAgg3
  z3 := Tryz.sizeOf3
  v3 := Tryz.zeroValue3
  t4 := Tryz.underlying4
  a4 := Tryz.isAgg4
  z4 := Tryz.sizeOf4
  v4 := Tryz.zeroValue4
  t5 := Tryz.underlying5
  a5 := Tryz.isAgg5
  z5 := Tryz.sizeOf5
  v5 := Tryz.zeroValue5
  t9 := Tryz.underlying9
  a9 := Tryz.isAgg9
  z9 := Tryz.sizeOf9
  v9 := Tryz.zeroValue9
  t20 := Tryz.underlying20
  a20 := Tryz.isAgg20
  z20 := Tryz.sizeOf20
  v20 := Tryz.zeroValue20
  t37 := Tryz.underlying49
  a37 := Tryz.isAgg49
  z37 := Tryz.sizeOf49
  v37 := Tryz.zeroValue49
  t46 := Tryz.underlying227
  a46 := Tryz.isAgg227
  z46 := Tryz.sizeOf227
  v46 := Tryz.zeroValue227
  t51 := Tryz.underlying254
  a51 := Tryz.isAgg254
  z51 := Tryz.sizeOf254
  v51 := Tryz.zeroValue254
  t53 := Tryz.underlying256
  a53 := Tryz.isAgg256
  z53 := Tryz.sizeOf256
  v53 := Tryz.zeroValue256
  t70 := Tryz.underlying259
  a70 := Tryz.isAgg259
  z70 := Tryz.sizeOf259
  v70 := Tryz.zeroValue259
  t72 := Tryz.underlying261
  a72 := Tryz.isAgg261
  z72 := Tryz.sizeOf261
  v72 := Tryz.zeroValue261
  t75 := Tryz.underlying189
  a75 := Tryz.isAgg189
  z75 := Tryz.sizeOf189
  v75 := Tryz.zeroValue189
  t76 := Tryz.underlying190
  a76 := Tryz.isAgg190
  z76 := Tryz.sizeOf190
  v76 := Tryz.zeroValue190
  t109 := Tryz.underlying257
  a109 := Tryz.isAgg257
  z109 := Tryz.sizeOf257
  v109 := Tryz.zeroValue257
  t127 := Tryz.underlying294
  a127 := Tryz.isAgg294
  z127 := Tryz.sizeOf294
  v127 := Tryz.zeroValue294
  t146 := Tryz.underlying290
  a146 := Tryz.isAgg290
  z146 := Tryz.sizeOf290
  v146 := Tryz.zeroValue290
  t148 := Tryz.underlying292
  a148 := Tryz.isAgg292
  z148 := Tryz.sizeOf292
  v148 := Tryz.zeroValue292
  t164 := Tryz.underlying307
  a164 := Tryz.isAgg307
  z164 := Tryz.sizeOf307
  v164 := Tryz.zeroValue307 }
theorem Tryz.Builder_Extra_105 : Builder.Extra Tryz.prog Tryz.lays105_ren := {
  sizeBuilder := by kernel_rfl
  liesBuilder := by kernel_rfl
  t5 := Tryz.underlying5
  a5 := Tryz.isAgg5
  z5 := Tryz.sizeOf5
  v5 := Tryz.zeroValue5
  infoByte := by kernel_rfl
  cellsByte := by kernel_rfl
  sizeByte := by kernel_rfl
  neB5 := by decide }
open Go.RowKit Go.Lib in
theorem Tryz.strings_Repeat (s : ByteArray) (c : Nat) (w : World) (hc : c ≤ 9223372036854775807) (hlen : s.size * c ≤ 140737488355328) :
    Calls Tryz.prog 195 #[.string s, .int .i64 c] w fun e w' => e = .returned (.string ⟨(Lib.repeatL s.data.toList c).toArray⟩) ∧ Below w.heap.size w w' := Any.strings_Repeat Tryz.lays105 Tryz.Builder_Extra_105 s c w hc hlen
end Go.Proofs
namespace Go.Proofs.YtklgpilgalfckaaGreatDoor
open Go.Shelf Go.RowKit

theorem lays166 : Lays.n166 Tryz.prog Tryz.lays105_ren := {
  mixed := Tryz.lays105.mixed
  f166 := Tryz.lays105.f166
  f240 := Tryz.lays105.f240
  f276 := Tryz.lays105.f276
  t0 := Tryz.lays105.t0
  a0 := Tryz.lays105.a0
  z0 := Tryz.lays105.z0
  v0 := Tryz.lays105.v0
  t3 := Tryz.lays105.t3
  a3 := Tryz.lays105.a3
  z3 := Tryz.lays105.z3
  v3 := Tryz.lays105.v3
  t4 := Tryz.lays105.t4
  a4 := Tryz.lays105.a4
  z4 := Tryz.lays105.z4
  v4 := Tryz.lays105.v4
  t9 := Tryz.lays105.t9
  a9 := Tryz.lays105.a9
  z9 := Tryz.lays105.z9
  v9 := Tryz.lays105.v9
  t20 := Tryz.lays105.t20
  a20 := Tryz.lays105.a20
  z20 := Tryz.lays105.z20
  v20 := Tryz.lays105.v20
  t37 := Tryz.lays105.t37
  a37 := Tryz.lays105.a37
  z37 := Tryz.lays105.z37
  v37 := Tryz.lays105.v37
  t70 := Tryz.lays105.t70
  a70 := Tryz.lays105.a70
  z70 := Tryz.lays105.z70
  v70 := Tryz.lays105.v70
  t72 := Tryz.lays105.t72
  a72 := Tryz.lays105.a72
  z72 := Tryz.lays105.z72
  v72 := Tryz.lays105.v72
  t75 := Tryz.lays105.t75
  a75 := Tryz.lays105.a75
  z75 := Tryz.lays105.z75
  v75 := Tryz.lays105.v75
  t164 := Tryz.lays105.t164
  a164 := Tryz.lays105.a164
  z164 := Tryz.lays105.z164
  v164 := Tryz.lays105.v164
}
def ren167 : Go.Shelf.Ren := ⟨fun | 167 => 249 | n => Tryz.lays105_ren.f n, Tryz.lays105_ren.t, Tryz.lays105_ren.g⟩
theorem lays167 : Lays.n167 Tryz.prog ren167 := {
  mixed := Tryz.lays105.mixed
  f167 := Tryz.func249.trans (congrArg some (by kernel_rfl))
  f240 := Tryz.lays105.f240
  f276 := Tryz.lays105.f276
  t0 := Tryz.lays105.t0
  a0 := Tryz.lays105.a0
  z0 := Tryz.lays105.z0
  v0 := Tryz.lays105.v0
  t4 := Tryz.lays105.t4
  a4 := Tryz.lays105.a4
  z4 := Tryz.lays105.z4
  v4 := Tryz.lays105.v4
  t5 := Tryz.lays105.t5
  a5 := Tryz.lays105.a5
  z5 := Tryz.lays105.z5
  v5 := Tryz.lays105.v5
  t9 := Tryz.lays105.t9
  a9 := Tryz.lays105.a9
  z9 := Tryz.lays105.z9
  v9 := Tryz.lays105.v9
  t20 := Tryz.lays105.t20
  a20 := Tryz.lays105.a20
  z20 := Tryz.lays105.z20
  v20 := Tryz.lays105.v20
  t37 := Tryz.lays105.t37
  a37 := Tryz.lays105.a37
  z37 := Tryz.lays105.z37
  v37 := Tryz.lays105.v37
  t70 := Tryz.lays105.t70
  a70 := Tryz.lays105.a70
  z70 := Tryz.lays105.z70
  v70 := Tryz.lays105.v70
  t72 := Tryz.lays105.t72
  a72 := Tryz.lays105.a72
  z72 := Tryz.lays105.z72
  v72 := Tryz.lays105.v72
  t75 := Tryz.lays105.t75
  a75 := Tryz.lays105.a75
  z75 := Tryz.lays105.z75
  v75 := Tryz.lays105.v75
  t164 := Tryz.lays105.t164
  a164 := Tryz.lays105.a164
  z164 := Tryz.lays105.z164
  v164 := Tryz.lays105.v164
}
theorem extra167 : Builder.Extra Tryz.prog ren167 := {
  sizeBuilder := Tryz.Builder_Extra_105.sizeBuilder
  liesBuilder := Tryz.Builder_Extra_105.liesBuilder
  t5 := Tryz.Builder_Extra_105.t5
  a5 := Tryz.Builder_Extra_105.a5
  z5 := Tryz.Builder_Extra_105.z5
  v5 := Tryz.Builder_Extra_105.v5
  infoByte := Tryz.Builder_Extra_105.infoByte
  cellsByte := Tryz.Builder_Extra_105.cellsByte
  sizeByte := Tryz.Builder_Extra_105.sizeByte
  neB5 := Tryz.Builder_Extra_105.neB5
}
end Go.Proofs.YtklgpilgalfckaaGreatDoor
namespace Go.KP
open Go Go.RowKit

theorem hide {p : Prop} (h : p) : Hid p := h
theorem below_drewN {B : Nat} {a w : World} (h : Below B a w) (n : Nat) : Below B a (w.drewN n) := ⟨h.os, h.tape, h.output, h.size, h.block⟩
def SlAt (B : Nat) (w : World) (sz : Nat) (v : Value) (n : Nat) (xs : List Value) : Prop :=
  xs.length = n * sz ∧ ((∃ a c, v = .slice a 0 c ∧ n = 0) ∨ ∃ b o cap, v = .slice (some ⟨b, o, none⟩) n cap ∧ b < B ∧ ∀ i u, xs[i]? = some u → w.cell? ⟨b, o + i, none⟩ = some u)

theorem SlAt.below {B n0 : Nat} {w w2 : World} {sz : Nat} {v : Value} {n : Nat} {xs : List Value} (h : SlAt B w sz v n xs) (hb : Below n0 w w2) (hB : B ≤ n0) : SlAt B w2 sz v n xs := by
  refine ⟨h.1, h.2.imp id ?_⟩
  rintro ⟨b, o, cap, hv, hlt, hc⟩
  exact ⟨b, o, cap, hv, hlt, fun i u hu => (hb.cell (p := ⟨b, o + i, none⟩) (by simp; omega)).trans (hc i u hu)⟩
theorem SlAt.mono {B B2 : Nat} {w : World} {sz : Nat} {v : Value} {n : Nat} {xs : List Value} (h : SlAt B w sz v n xs) (hB : B ≤ B2) : SlAt B2 w sz v n xs := by
  refine ⟨h.1, h.2.imp id ?_⟩
  rintro ⟨b, o, cap, hv, hlt, hc⟩
  exact ⟨b, o, cap, hv, by omega, hc⟩
theorem SlAt.of_owns {w : World} {base : Nat} {e : TypeId} {sz : Nat} {v : Value} {n : Nat} {xs : List Value} (h : w.ownsRow base e sz v n xs) : SlAt w.heap.size w sz v n xs := by
  refine ⟨h.1, h.2.imp (fun ⟨h1, h2⟩ => ⟨none, 0, h1, h2⟩) ?_⟩
  rintro ⟨g, cap, cur, hv, hg, hh, _⟩
  refine ⟨g, 0, cap, hv, (Array.getElem?_eq_some_iff.1 hh).1, fun i u hu => ?_⟩
  have := h.cells (g := g) (by rw [hv]; rfl) i u hu
  rwa [Addr.add_lit] at this
theorem SlAt.moved {B : Nat} {w w2 : World} {sz : Nat} {v : Value} {n : Nat} {xs : List Value} (h : SlAt B w sz v n xs) (hb : ∀ i, i < B → i < w2.heap.size ∧ w2.heap[i]? = w.heap[i]?) : SlAt w2.heap.size w2 sz v n xs := by
  refine ⟨h.1, h.2.imp id ?_⟩
  rintro ⟨b, o, cap, hv, hlt, hc⟩
  exact ⟨b, o, cap, hv, (hb b hlt).1, fun i u hu => (World.cell?_of_block (hb b hlt).2).trans (hc i u hu)⟩
def Ret (w : World) (v : Value) (e : Ending) (w2 : World) : Prop := e = .returned v ∧ Below w.heap.size w w2
def RetEx (w : World) (F : Value → World → Prop) (e : Ending) (w2 : World) : Prop := ∃ v, e = .returned v ∧ Below w.heap.size w w2 ∧ F v w2
theorem owns_stay {w w2 : World} {base : Nat} {e : TypeId} {sz : Nat} {v : Value} {n : Nat} {xs : List Value} (h : w.ownsRow base e sz v n xs) (hb : ∀ r, v.ownBlock = some r → w2.heap[r]? = w.heap[r]?) : w2.ownsRow base e sz v n xs := by
  refine ⟨h.1, h.2.imp id ?_⟩
  rintro ⟨g, cap, cur, hv, hg, hh, r⟩
  exact ⟨g, cap, cur, hv, hg, (hb g (by rw [hv]; rfl)).trans hh, r⟩
def OwnOf (v : Value) : Nat → Prop := fun b => v.ownBlock = some b
theorem owns_lt {w : World} {base : Nat} {e : TypeId} {size : Nat} {v : Value} {n : Nat} {xs : List Value} (h : w.ownsRow base e size v n xs) : ∀ b, OwnOf v b → b < w.heap.size := fun b hb => (h.lt b hb).2
theorem owns_mono {w : World} {base base2 : Nat} {e : TypeId} {sz : Nat} {v : Value} {n : Nat} {xs : List Value} (h : w.ownsRow base e sz v n xs) (hb : base2 ≤ base) : w.ownsRow base2 e sz v n xs := by
  refine ⟨h.1, h.2.imp id ?_⟩
  rintro ⟨g, cap, cur, hv, hg, r⟩
  exact ⟨g, cap, cur, hv, Nat.le_trans hb hg, r⟩
theorem owns_ne {w : World} {base : Nat} {e : TypeId} {size : Nat} {v : Value} {n : Nat} {xs : List Value} (h : w.ownsRow base e size v n xs) {b : Nat} (hb : b < base) : some b ≠ v.ownBlock := fun he => by have := (h.lt b he.symm).1; omega
theorem owns_ge {w : World} {base : Nat} {e : TypeId} {size : Nat} {v : Value} {n : Nat} {xs : List Value} (h : w.ownsRow base e size v n xs) {B : Nat} (hB : B ≤ base) : ∀ k, v.ownBlock = some k → B ≤ k := fun k hk => Nat.le_trans hB (h.lt k hk).1
theorem below_ahead {B : Nat} {a w : World} (h : Below B a.drew w) : Below B a w := ⟨h.os, h.tape, h.output, h.size, h.block⟩
theorem SlAt.nil (B : Nat) (w : World) (sz : Nat) : SlAt B w sz (.slice none 0 0) 0 [] := ⟨by simp, .inl ⟨none, 0, rfl, rfl⟩⟩
theorem SlAt.cases {B : Nat} {w : World} {sz : Nat} {v : Value} {n : Nat} {xs : List Value} (h : SlAt B w sz v n xs) :
    (∃ a c, v = .slice a 0 c ∧ n = 0 ∧ xs = []) ∨ ∃ b o cap, v = .slice (some ⟨b, o, none⟩) n cap ∧ b < B ∧ ∀ i u, xs[i]? = some u → w.cell? ⟨b, o + i, none⟩ = some u := by
  rcases h.2 with ⟨a, c, h1, h2⟩ | h2
  · exact .inl ⟨a, c, h1, h2, List.eq_nil_of_length_eq_zero (by rw [h.1, h2]; simp)⟩
  · exact .inr h2

theorem heap1 (w : World) (o1 : Obj) : (w.alloc o1).heap[w.heap.size]? = some o1 ∧ (w.alloc o1).heap.size = w.heap.size + 1 ∧ Below w.heap.size w (w.alloc o1) :=
  ⟨heap_alloc_new w o1, by simp, (Below.refl _ _).alloc (Nat.le_refl _) _⟩
theorem heap2 (w : World) (o1 o2 : Obj) : ((w.alloc o1).alloc o2).heap[w.heap.size]? = some o1 ∧ ((w.alloc o1).alloc o2).heap[w.heap.size + 1]? = some o2 ∧
    ((w.alloc o1).alloc o2).heap.size = w.heap.size + 2 ∧ Below w.heap.size w ((w.alloc o1).alloc o2) := by
  obtain ⟨a1, a2, a3⟩ := heap1 w o1
  obtain ⟨b1, b2, b3⟩ := heap1 (w.alloc o1) o2
  rw [a2] at b1
  exact ⟨(Below.heap_alloc _ _ _ (by omega)).trans a1, b1, by omega, a3.trans (b3.mono (by omega))⟩
theorem heap3 (w : World) (o1 o2 o3 : Obj) : (((w.alloc o1).alloc o2).alloc o3).heap[w.heap.size]? = some o1 ∧ (((w.alloc o1).alloc o2).alloc o3).heap[w.heap.size + 1]? = some o2 ∧
    (((w.alloc o1).alloc o2).alloc o3).heap[w.heap.size + 2]? = some o3 ∧ (((w.alloc o1).alloc o2).alloc o3).heap.size = w.heap.size + 3 ∧ Below w.heap.size w (((w.alloc o1).alloc o2).alloc o3) := by
  obtain ⟨a1, a2, a3, a4⟩ := heap2 w o1 o2
  obtain ⟨b1, b2, b3⟩ := heap1 ((w.alloc o1).alloc o2) o3
  rw [a3] at b1
  exact ⟨(Below.heap_alloc _ _ _ (by omega)).trans a1, (Below.heap_alloc _ _ _ (by omega)).trans a2, b1, by omega, a4.trans (b3.mono (by omega))⟩
theorem cell_blk {w : World} {b : Nat} {cs : Array Value} {t : TypeId} (h : w.heap[b]? = some (.cells cs t (0, 0))) (o : Nat) : w.cell? ⟨b, o, none⟩ = cs[o]? := by simp [World.cell?, h]
theorem froz_blk {w : World} {b : Nat} {cs : Array Value} {t : TypeId} (h : w.heap[b]? = some (.cells cs t (0, 0))) (o : Nat) : w.frozen? ⟨b, o, none⟩ = false := by simp [World.frozen?, h]
theorem lt_blk {w : World} {b : Nat} {o : Obj} (h : w.heap[b]? = some o) : b < w.heap.size := (Array.getElem?_eq_some_iff.1 h).1
theorem below_blk {B : Nat} {w w2 : World} (hb : Below B w w2) {b : Nat} {o : Obj} (h : w.heap[b]? = some o) (hl : b < B) : w2.heap[b]? = some o := (hb.block b hl).trans h
end Go.KP
