/-
  Texts laid together.
-/
import Derived.Test.YtklgpilgalfckaaGreatDoorMN1
import Derived.Test.YtklgpilgalfckaaGreatDoorMN4
import Derived.Test.YtklgpilgalfckaaGreatDoorMN3
import Derived.Lib.IndexMore
set_option maxRecDepth 100000
set_option maxHeartbeats 4000000
namespace Go.KI
open Go

def sz (p : Nat) (x : Rat) : Prop := x.num.natAbs < 10 ^ p ∧ x.den < 10 ^ p
theorem sz_mono {p q : Nat} {x : Rat} (h : sz p x) (hp : p ≤ q) : sz q x :=
  ⟨Nat.lt_of_lt_of_le h.1 (Nat.pow_le_pow_right (by omega) hp), Nat.lt_of_lt_of_le h.2 (Nat.pow_le_pow_right (by omega) hp)⟩
theorem sz_fits {p : Nat} {x : Rat} (h : sz p x) (hp : p ≤ most) : fitsQ x :=
  ⟨fits_small hp h.1, fits_small hp (by rw [Int.natAbs_natCast]; exact h.2)⟩
theorem mul_pow_lt {a b p q : Nat} (ha : a < 10 ^ p) (hb : b < 10 ^ q) : a * b < 10 ^ (p + q) := by
  rw [Nat.pow_add]
  exact Nat.mul_lt_mul'' ha hb
theorem add_pow_lt {a b p : Nat} (ha : a < 10 ^ p) (hb : b < 10 ^ p) : a + b < 10 ^ (p + 1) := by
  have : (10 : Nat) ^ (p + 1) = 10 ^ p * 10 := Nat.pow_succ ..
  omega
theorem divInt_sz {n d : Int} {p : Nat} (hd : 0 < d) (hn : n.natAbs < 10 ^ p) (hd2 : d.natAbs < 10 ^ p) : sz p (Rat.divInt n d) := by
  obtain ⟨h1, h2⟩ := divInt_parts n hd
  refine ⟨?_, ?_⟩
  · rw [h1]
    refine Nat.lt_of_le_of_lt ?_ hn
    exact Int.natAbs_ediv_le_natAbs _ _
  · have h3 : ((Rat.divInt n d).den : Int).natAbs ≤ d.natAbs := by
      rw [h2]
      exact Int.natAbs_ediv_le_natAbs _ _
    rw [Int.natAbs_natCast] at h3
    omega
theorem den_ne (x : Rat) : (x.den : Int) ≠ 0 := by have := x.den_pos; omega
theorem dens_pos (x y : Rat) : 0 < (x.den : Int) * y.den := by
  have h1 := x.den_pos
  have h2 := y.den_pos
  exact Int.mul_pos (by omega) (by omega)
theorem num_den_lt {p q : Nat} {x y : Rat} (hx : sz p x) (hy : sz q y) : (x.num * (y.den : Int)).natAbs < 10 ^ (p + q) ∧ (y.num * (x.den : Int)).natAbs < 10 ^ (p + q) ∧ ((x.den : Int) * y.den).natAbs < 10 ^ (p + q) ∧ (x.num * y.num).natAbs < 10 ^ (p + q) := by
  refine ⟨?_, ?_, ?_, ?_⟩
  · rw [Int.natAbs_mul, Int.natAbs_natCast]
    exact mul_pow_lt hx.1 hy.2
  · rw [Int.natAbs_mul, Int.natAbs_natCast, Nat.add_comm]
    exact mul_pow_lt hy.1 hx.2
  · rw [Int.natAbs_mul, Int.natAbs_natCast, Int.natAbs_natCast]
    exact mul_pow_lt hx.2 hy.2
  · rw [Int.natAbs_mul]
    exact mul_pow_lt hx.1 hy.1
theorem sz_sub {p q : Nat} {x y : Rat} (hx : sz p x) (hy : sz q y) : sz (p + q + 1) (x - y) := by
  obtain ⟨h1, h2, h3, _⟩ := num_den_lt hx hy
  rw [← divInt_sub]
  refine divInt_sz (dens_pos x y) ?_ (Nat.lt_of_lt_of_le h3 (Nat.pow_le_pow_right (by omega) (by omega)))
  have := add_pow_lt h1 h2
  omega
theorem sz_mul {p q : Nat} {x y : Rat} (hx : sz p x) (hy : sz q y) : sz (p + q) (x * y) := by
  obtain ⟨_, _, h3, h4⟩ := num_den_lt hx hy
  rw [← divInt_mul]
  exact divInt_sz (dens_pos x y) h4 h3
theorem subC_of {p q : Nat} {x y : Rat} (hx : sz p x) (hy : sz q y) (h : p + q + 1 ≤ most) : subC x y := by
  obtain ⟨h1, h2, h3, _⟩ := num_den_lt hx hy
  have h4 := add_pow_lt h1 h2
  exact ⟨fits_small (by omega) h1, fits_small (by omega) h2, fits_small h (by omega), fits_small (by omega) h3⟩
theorem mulC_of {p q : Nat} {x y : Rat} (hx : sz p x) (hy : sz q y) (h : p + q ≤ most) : mulC x y := by
  obtain ⟨_, _, h3, h4⟩ := num_den_lt hx hy
  exact ⟨fits_small h h4, fits_small h h3⟩
theorem cmpC_of {p q : Nat} {x y : Rat} (hx : sz p x) (hy : sz q y) (h : p + q ≤ most) : cmpC x y := by
  obtain ⟨h1, h2, _, _⟩ := num_den_lt hx hy
  exact ⟨fits_small h h1, fits_small h h2⟩
theorem natQ_sz {l : List UInt8} (h : natQ l) : sz 8 (valQ l) := by
  obtain ⟨h1, h2, _⟩ := natQ_lt h
  exact ⟨by simpa using h1, by simpa using h2⟩
theorem chkQ_sz {l : List UInt8} {p : Nat} (h : chkQ l = 0) (hl : l.length ≤ p) (hp : 1 ≤ p) : sz p (valQ l) := by
  obtain ⟨e, _, _, _⟩ := chkQ_ok h
  have key : (Lib.decDigits (valQ l).num.natAbs).length ≤ p ∧ (Lib.decDigits (valQ l).den).length ≤ p := by
    have h1 : (ratS (valQ l)).length ≤ p := by rw [← e]; exact hl
    have h2 : (Lib.decDigits (valQ l).num.natAbs).length ≤ (Lib.itoa (valQ l).num).length := by
      rcases itoa_cases (valQ l).num with ⟨_, h⟩ | ⟨_, h⟩ <;> rw [h] <;> simp
    unfold ratS at h1
    by_cases hd : (valQ l).den = 1
    · rw [if_pos hd] at h1
      refine ⟨by omega, ?_⟩
      rw [hd, one_dec]
      exact hp
    · rw [if_neg hd] at h1
      simp only [List.length_append, List.length_cons] at h1
      exact ⟨by omega, by omega⟩
  exact ⟨(dec_len_le hp).1 key.1, (dec_len_le hp).1 key.2⟩
open Go

theorem lead_all {l : List UInt8} (h : ∀ c ∈ l, isDg c = true) : lead l = l := by
  have := lead_app (a := l) (b := []) h (by intro c hc; cases hc)
  rwa [List.append_nil] at this
theorem lead_full {l : List UInt8} (h : l.length ≤ (lead l).length) : ∀ c ∈ l, isDg c = true := by
  obtain ⟨e1, e2, _⟩ := lead_eq l
  have h1 : l.drop (lead l).length = [] := List.drop_eq_nil_of_le h
  rw [h1, List.append_nil] at e1
  rw [e1]
  exact e2
def digN (l : List UInt8) : Nat := if 1 < (lead l).length ∧ l.head? = some 48 then 0 else (lead l).length
theorem digN_le (l : List UInt8) : digN l ≤ l.length := by
  have h1 := congrArg List.length (lead_eq l).1
  rw [List.length_append] at h1
  unfold digN
  split <;> omega
theorem digN_numeral (l : List UInt8) : (digN l = 0 ∨ digN l < l.length) ↔ ¬ numeral l := by
  constructor
  · rintro h ⟨h1, h2, h3⟩
    have h4 := lead_all (List.all_eq_true.1 h2)
    have h5 : 0 < l.length := List.length_pos_iff.2 h1
    unfold digN at h
    rw [h4] at h
    by_cases hc : 1 < l.length ∧ l.head? = some 48
    · rw [h3 hc.2] at hc
      exact absurd hc.1 (by decide)
    · rw [if_neg hc] at h
      omega
  · intro h
    refine Decidable.byContradiction fun hn => h ?_
    have h0 : digN l ≠ 0 := fun e => hn (.inl e)
    have h1 : l.length ≤ digN l := Nat.le_of_not_lt fun e => hn (.inr e)
    unfold digN at h0 h1
    by_cases hc : 1 < (lead l).length ∧ l.head? = some 48
    · rw [if_pos hc] at h0
      exact absurd rfl h0
    · rw [if_neg hc] at h0 h1
      have h2 := lead_full h1
      have h3 := lead_all h2
      rw [h3] at h0 hc
      refine ⟨fun e => h0 (by rw [e]; rfl), List.all_eq_true.2 h2, fun hh => ?_⟩
      have h4 : ¬ 1 < l.length := fun e => hc ⟨e, hh⟩
      cases l with
      | nil => simp at hh
      | cons a b =>
        simp only [List.length_cons] at h4
        have : b = [] := List.eq_nil_of_length_eq_zero (by omega)
        rw [this]
        injection hh with hh
        rw [hh]
theorem chkI_11 (l : List UInt8) : chkI l = 11 ↔ (¬ numeral (digs l) ∨ (l.head? = some 45 ∧ digs l = [48])) := by
  have e : chkI l = 11 ↔ (digs l = [] ∨ ((digs l).head? = some 48 ∧ l ≠ [48]) ∨ ¬ (digs l).all isDg = true) := by
    unfold chkI
    split
    · rename_i h
      exact ⟨fun _ => h, fun _ => rfl⟩
    · rename_i h
      refine ⟨fun h2 => ?_, fun h2 => absurd h2 h⟩
      split at h2 <;> cases h2
  rw [e]
  have key : l.head? ≠ some 45 → digs l = l := by
    intro h
    cases l with
    | nil => rfl
    | cons c r =>
      have : c ≠ 45 := by simpa using h
      simp [digs, this]
  constructor
  · rintro (h | ⟨h1, h2⟩ | h)
    · exact .inl fun hn => hn.1 h
    · by_cases hd : digs l = [48]
      · by_cases h45 : l.head? = some 45
        · exact .inr ⟨h45, hd⟩
        · rw [key h45] at hd
          exact absurd hd h2
      · exact .inl fun hn => hd (hn.2.2 h1)
    · exact .inl fun hn => h hn.2.1
  · rintro (h | ⟨h1, h2⟩)
    · refine Decidable.byContradiction fun hn => h ⟨fun e => hn (.inl e), Decidable.byContradiction fun e => hn (.inr (.inr e)), fun hh => ?_⟩
      have hl : l = [48] := Decidable.byContradiction fun e => hn (.inr (.inl ⟨hh, e⟩))
      rw [hl]
      rfl
    · refine .inr (.inl ⟨by rw [h2]; rfl, fun e => ?_⟩)
      rw [e] at h1
      cases h1
def cutOK (l : List UInt8) : Prop := ¬ (chkI (numT l) = 11 ∨ (47 ∈ l ∧ (¬ numeral (denT l) ∨ denT l = [48] ∨ denT l = [49])))
instance (l : List UInt8) : Decidable (cutOK l) := inferInstanceAs (Decidable (¬ _))
def denS (l : List UInt8) : List UInt8 := if 47 ∈ l then denT l else [49]
theorem cutOK_of {l : List UInt8} (h : chkQ l = 0) : cutOK l := by
  intro hn
  unfold chkQ at h
  rw [if_pos hn] at h
  cases h
theorem numT_of {l : List UInt8} (h : chkQ l = 0) : numT l = Lib.itoa (valQ l).num ∧ denS l = Lib.itoa ((valQ l).den : Int) := by
  obtain ⟨e1, _, e3, e4⟩ := chkQ_ok h
  constructor
  · rw [e3]
    exact (chkI_int (fun e => cutOK_of h (.inl e))).1
  · rw [e4, Lib.itoa_nonneg]
    unfold denS denQ
    by_cases hs : 47 ∈ l
    · rw [if_pos hs, if_pos hs]
      exact numeral_dec (Decidable.byContradiction fun e => cutOK_of h (.inr ⟨hs, .inl e⟩))
    · rw [if_neg hs, if_neg hs, one_dec]
theorem chkQ_form {l : List UInt8} (h : cutOK l) : chkQ l = if 300 < (digs (numT l)).length ∨ 300 < (denS l).length then 4 else if 47 ∈ l ∧ Nat.gcd (valI (numT l)).natAbs (dv (denT l)) ≠ 1 then 11 else 0 := by
  unfold chkQ
  rw [if_neg h]
  obtain ⟨e1, e2⟩ := chkI_int (fun e => h (.inl e))
  have h4 : chkI (numT l) = 4 ↔ 300 < (digs (numT l)).length := by
    rw [e2]
    have h5 := @fits_len (valI (numT l))
    have h6 : (digs (numT l)).length = (Lib.decDigits (valI (numT l)).natAbs).length := by
      conv => lhs; rw [e1]
      rw [digs_itoa]
    rw [h6]
    by_cases hf : fits (valI (numT l))
    · rw [if_pos hf]
      have := h5.1 hf
      exact ⟨fun e => (by cases e), fun e => (by omega)⟩
    · rw [if_neg hf]
      exact ⟨fun _ => Nat.lt_of_not_le fun e => hf (h5.2 e), fun _ => rfl⟩
  have h7 : (47 ∈ l ∧ 300 < (denT l).length) ↔ 300 < (denS l).length := by
    unfold denS
    by_cases hs : 47 ∈ l
    · rw [if_pos hs]
      exact ⟨fun e => e.2, fun e => ⟨hs, e⟩⟩
    · rw [if_neg hs]
      exact ⟨fun e => absurd e.1 hs, fun e => absurd e (by decide)⟩
  simp only [h4, h7]
end Go.KI
namespace Go.Proofs.YtklgpilgalfckaaGreatDoor
open Go.RowKit Go.KP Go.KI Go.Shelf
attribute [local go_sem] Oper.semAt_some

theorem qdigits_any (s : ByteArray) (hs : s.size ≤ 1000000) (w : World) :
    Calls Tryz.prog 220 #[.string s] w (Ret w (.int .i64 (digN s.data.toList : Nat))) := by
  obtain ⟨L, hL⟩ : ∃ L, L = (lead s.data.toList).length := ⟨_, rfl⟩
  have hLs : L ≤ s.size := by rw [hL, ← bytes_len]; exact lead_le _
  have HLE := hide hL
  clear hL
  go_enter Tryz.func220, Tryz.ntmps220
  go_wp2_with fail
  go_loopw [3] (fun i wr => ∃ k : Nat, k ≤ L ∧ i = .int .i64 k ∧ wr = w) (fun i _ => s.size - (intOf i).toNat)
  case atStart => exact ⟨0, by omega, rfl, rfl⟩
  case round =>
    obtain ⟨k, hkL, rfl, rfl⟩ := hrel
    by_cases hkl : k < L
    · have hlt : k < s.size := by omega
      have hki : (k : Int) < (s.size : Int) := by omega
      have hk0 : (0 : Int) ≤ (k : Int) := by omega
      obtain ⟨c, hc, hcd⟩ := lead_at (l := s.data.toList) (k := k) (by rw [← HLE.out]; exact hkl)
      have hat : s.data.toList[k]? = some (s[k]'hlt) := by
        have h1 : s.data.toList[k]? = some s.data[k] := by simp
        exact h1
      obtain ⟨y, hyv⟩ : ∃ y : Nat, y = (s[k]'hlt).toNat := ⟨_, rfl⟩
      have hyv2 : (s[k]'hlt).toNat = y := hyv.symm
      have hdg : 48 ≤ y ∧ y ≤ 57 := by
        rw [hat] at hc
        injection hc with hc
        rw [hyv, hc]
        exact isDg_iff.1 hcd
      have y0 : (48 : Int) ≤ (y : Int) := by omega
      have y1 : (y : Int) ≤ 57 := by omega
      clear hat hyv hdg hc hcd
      go_wp2_with fail
      go_roundw
      case rel => exact ⟨k + 1, by omega, by go_num, trivial⟩
      case measure => simp [intOf]; omega
    · have hkL2 : k = L := by omega
      have hstop : ((k : Int) < (s.size : Int)) = False ∨ (∃ h : k < s.size, ∃ y : Nat, (s[k]'h).toNat = y ∧ (y < 48 ∨ 57 < y)) := by
        by_cases h1 : k < s.size
        · obtain ⟨c, hc⟩ : ∃ c, s[k]'h1 = c := ⟨_, rfl⟩
          have hat : s.data.toList[k]? = some c := by
            have h3 : s.data.toList[k]? = some s.data[k] := by simp
            rw [h3]
            exact congrArg some hc
          have hat2 : s.data.toList[(lead s.data.toList).length]? = some c := by rw [← HLE.out, ← hkL2]; exact hat
          have h4 := lead_end hat2
          have h5 : ¬ (48 ≤ c.toNat ∧ c.toNat ≤ 57) := fun h => by
            have h6 := isDg_iff.2 h
            rw [h4] at h6
            cases h6
          exact .inr ⟨h1, c.toNat, by rw [hc], by omega⟩
        · exact .inl (eq_false (by omega))
      have hres : (((1 : Int) < (k : Int)) = False ∧ digN s.data.toList = k) ∨ (∃ h : 0 < s.size, (1 : Int) < (k : Int) ∧ (((s[0]'h).toNat : Int) == 48) = true ∧ digN s.data.toList = 0) ∨ (∃ h : 0 < s.size, (1 : Int) < (k : Int) ∧ (((s[0]'h).toNat : Int) == 48) = false ∧ digN s.data.toList = k) := by
        unfold digN
        rw [← HLE.out, ← hkL2]
        by_cases h : 1 < k
        · have hp : 0 < s.size := by omega
          have hh : s.data.toList.head? = some (s[0]'hp) := by
            have h3 : s.data.toList[0]? = some s.data[0] := by simp
            rw [List.head?_eq_getElem?]
            exact h3
          by_cases h48 : s[0]'hp = 48
          · exact .inr (.inl ⟨hp, by omega, by rw [h48]; rfl, if_pos ⟨h, by rw [hh, h48]⟩⟩)
          · refine .inr (.inr ⟨hp, by omega, ?_, if_neg (fun h2 => ?_)⟩)
            · have : (s[0]'hp).toNat ≠ 48 := fun e => h48 (UInt8.toNat_inj.1 e)
              simp only [beq_eq_false_iff_ne, ne_eq]
              omega
            · rw [hh] at h2
              have h3 := h2.2
              injection h3 with h3
              exact h48 h3
        · exact .inl ⟨eq_false (by omega), if_neg (fun h2 => h h2.1)⟩
      clear hkl hkL2
      have hk0 : (0 : Int) ≤ (k : Int) := by omega
      rcases hstop with h1 | ⟨h1, y, hy, h3⟩
      case' inr =>
        have h1i : (k : Int) < (s.size : Int) := by omega
        rcases h3 with h3 | h3
        case' inl => have h4 : ((48 : Int) ≤ (y : Int)) = False := eq_false (by omega)
        case' inr =>
          have h4 : (48 : Int) ≤ (y : Int) := by omega
          have h5 : ((y : Int) ≤ 57) = False := eq_false (by omega)
      all_goals
        rcases hres with ⟨r0, r2⟩ | ⟨hp, r0, r1, r2⟩ | ⟨hp, r0, r1, r2⟩
      all_goals have HR := hide r2
      all_goals clear r2
      all_goals
        go_wp2_with fail
        go_ret
        rw [HR.out]
        exact ⟨rfl, Below.refl _ _⟩
open Go.RowKit Go.KP Go.KI Go.Shelf
attribute [local go_sem] Oper.semAt_some

abbrev natV (n d : Int) : Value := .agg #[.int .i64 n, .int .i64 d]
abbrev natO (n d : Int) : Obj := .cells #[.int .i64 n, .int .i64 d] 164
theorem tdiv_natc (a b : Nat) : (a : Int).tdiv (b : Int) = ((a / b : Nat) : Int) := by
  rw [Int.tdiv_eq_ediv_of_nonneg (by omega), Int.natCast_ediv]
theorem nat_quo {n : Int} {g : Nat} (h : (g : Int) ∣ n) : n.tdiv (g : Int) = n / (g : Int) := Int.tdiv_eq_ediv_of_dvd h
theorem itoa_short {z : Int} (h : z.natAbs < 100000000000000000) : (strB (Lib.itoa z)).size ≤ 18 := by
  rw [strB_size]
  have h1 := (dec_len_le (u := z.natAbs) (n := 17) (by omega)).2 (by simpa using h)
  rcases itoa_cases z with ⟨_, h2⟩ | ⟨_, h2⟩ <;> rw [h2]
  · rw [List.length_cons]
    omega
  · omega
theorem nnumber_any (n d : Int) (hn : n.natAbs < 100000000000000000) (hd : d.natAbs < 100000000000000000) (h0 : d ≠ 0) (B : Nat) (w : World) (hB : B ≤ w.heap.size) (hT : P10 B w) :
    Calls Tryz.prog 165 #[natV n d] w (Ret w (.string (strB (ratS (Rat.divInt n d))))) := by
  have HT := hide hT
  obtain ⟨b0, bs0, bb0⟩ := heap1 w (natO n d)
  have P0 := hide b0; have PB := hide bb0
  have k0 := cell_blk b0 0
  have k1 := cell_blk b0 1
  have f0 := froz_blk b0 0
  have f1 := froz_blk b0 1
  have hsz := lt_blk b0
  obtain ⟨N, D, hND, hsign⟩ : ∃ (N : Int) (D : Nat), Rat.divInt n d = Rat.divInt N D ∧ ((d < 0 ∧ N = -n ∧ (D : Int) = -d) ∨ ((d < 0) = False ∧ N = n ∧ (D : Int) = d)) := by
    rcases Int.lt_or_lt_of_ne h0 with h | h
    · exact ⟨-n, d.natAbs, by rw [show ((d.natAbs : Nat) : Int) = -d by omega, Rat.neg_divInt_neg], .inl ⟨h, rfl, by omega⟩⟩
    · exact ⟨n, d.natAbs, by rw [show ((d.natAbs : Nat) : Int) = d by omega], .inr ⟨eq_false (by omega), rfl, by omega⟩⟩
  rw [hND]
  have hDp : 0 < D := by rcases hsign with ⟨h1, h2, h3⟩ | ⟨h1, h2, h3⟩ <;> omega
  have hDl : D < 100000000000000000 := by rcases hsign with ⟨h1, h2, h3⟩ | ⟨h1, h2, h3⟩ <;> omega
  have hNl : N.natAbs < 100000000000000000 := by rcases hsign with ⟨h1, h2, h3⟩ | ⟨h1, h2, h3⟩ <;> omega
  obtain ⟨g, hg⟩ : ∃ g, g = Nat.gcd N.natAbs D := ⟨_, rfl⟩
  have hgp : 0 < g := by rw [hg]; exact Nat.gcd_pos_of_pos_right _ hDp
  have hgl : g ≤ D := by rw [hg]; exact Nat.gcd_le_right _ hDp
  have hgn : (g : Int) ∣ N := by rw [hg]; exact Int.ofNat_dvd_left.2 (Nat.gcd_dvd_left _ _)
  obtain ⟨Nq, hNq⟩ : ∃ Nq : Int, Nq = N / (g : Int) := ⟨_, rfl⟩
  obtain ⟨Dq, hDq⟩ : ∃ Dq : Nat, Dq = D / g := ⟨_, rfl⟩
  have q1 : N.tdiv (g : Int) = Nq := by rw [nat_quo hgn, hNq]
  have q2 : (D : Int) / (g : Int) = (Dq : Int) := by rw [hDq, Int.natCast_ediv]
  have q3 : (D : Int).tdiv (g : Int) = (Dq : Int) := by rw [tdiv_natc, hDq]
  have nq0 := hide q1; have dq0 := hide q2
  have HTX := hide (show ratS (Rat.divInt N D) = if Dq = 1 then Lib.itoa Nq else Lib.itoa Nq ++ 47 :: Lib.itoa (Dq : Int) by
    have h := ratS_of (n := N) (d := (D : Int)) (by omega)
    rw [Int.natAbs_natCast, ← hg, ← hNq, q2] at h
    rw [h]
    by_cases h1 : Dq = 1
    · rw [if_pos h1, if_pos (by omega)]
    · rw [if_neg h1, if_neg (by omega)])
  have hmx : max N (-N) = ((N.natAbs : Nat) : Int) := by omega
  have hNql : Nq.natAbs ≤ N.natAbs := by rw [hNq]; exact Int.natAbs_ediv_le_natAbs _ _
  have hDql : Dq ≤ D := by rw [hDq]; exact Nat.div_le_self _ _
  have HG := hide (fun w => qgcd_any N.natAbs D (by omega) (by omega) w)
  rw [← hg] at HG
  have hg0 : ((g : Int) == 0) = false := by
    simp only [beq_eq_false_iff_ne, ne_eq]
    omega
  clear hNq hDq hg hgn hND b0 bb0 hT
  obtain ⟨tx, htx⟩ : ∃ tx, tx = strB (ratS (Rat.divInt N D)) := ⟨_, rfl⟩
  rw [← htx]
  have HX := hide htx
  clear htx
  have H1 := hide (heap1 w (natO N D))
  rcases hsign with ⟨h1, h2, h3⟩ | ⟨h1, h2, h3⟩
  case' inl =>
    have e1 : -n = N := h2.symm
    have e2 : -d = (D : Int) := h3.symm
    have MX := hide hmx
    clear h2 h3 q2 q3 hmx q1
    go_enter Tryz.func165, Tryz.ntmps165
    go_wp2_with fail
    clear e1 e2
  case' inr =>
    subst h2
    subst h3
    have MX := hide hmx
    clear q2 q3 hmx q1
    go_enter Tryz.func165, Tryz.ntmps165
    go_wp2_with fail
  all_goals
    rw [MX.out]
    refine (HG.out _).mono ?_
    rintro e w1 ⟨rfl, hb1⟩
    have G1 := hide (below_blk hb1 H1.out.1 (lt_blk H1.out.1))
    have HB1 := hide (H1.out.2.2.trans (hb1.mono H1.out.2.2.size))
    have c0 := cell_blk G1.out 0
    have c1 := cell_blk G1.out 1
    have hlt1 := lt_blk G1.out
    have q1 : N.tdiv (g : Int) = Nq := nq0.out
    have q2 : (D : Int) / (g : Int) = (Dq : Int) := dq0.out
    clear hb1 k0 k1 f0 f1
    go_wp2_with fail
    go_quiet (fail)
    have HB2 := hide (below_drewN HB1.out nq)
    clear q1 q2 c0 c1 hg0
    by_cases hd1 : Dq = 1
    · have hde : ((Dq : Int) == 1) = true := by rw [hd1]; rfl
      have HE := hide (show tx = strB (Lib.itoa Nq) by rw [HX.out, HTX.out, if_pos hd1])
      clear hd1
      go_wp2_with fail
      refine (itoa_any Nq (by omega) (by omega) B _ (HT.out.on HB2.out hB)).mono ?_
      rintro e w3 ⟨rfl, hb3⟩
      have HB3 := hide (HB2.out.trans (hb3.mono HB2.out.size))
      clear hb3
      go_wp2_with fail
      go_ret
      rw [HE.out]
      exact ⟨rfl, HB3.out⟩
    · have hde : ((Dq : Int) == 1) = false := by
        simp only [beq_eq_false_iff_ne, ne_eq]
        omega
      have s1 := itoa_short (z := Nq) (by omega)
      have s2 := itoa_short (z := (Dq : Int)) (by omega)
      have HE := hide (show tx = strB (Lib.itoa Nq) ++ ⟨#[47]⟩ ++ strB (Lib.itoa (Dq : Int)) by
        rw [HX.out, HTX.out, if_neg hd1]
        apply bytes_eq
        simp [strB])
      have I1 := hide (fun w h => itoa_any Nq (by omega) (by omega) B w h)
      have I2 := hide (fun w h => itoa_any (Dq : Int) (by omega) (by omega) B w h)
      obtain ⟨t1, ht1⟩ : ∃ t, t = strB (Lib.itoa Nq) := ⟨_, rfl⟩
      obtain ⟨t2, ht2⟩ : ∃ t, t = strB (Lib.itoa (Dq : Int)) := ⟨_, rfl⟩
      rw [← ht1] at s1 HE I1
      rw [← ht2] at s2 HE I2
      have v1 : (9223372036854775807 < t1.size + 1) = False := eq_false (by omega)
      have v2 : (9223372036854775807 < t1.size + 1 + t2.size) = False := eq_false (by omega)
      clear hd1 ht1 ht2
      go_wp2_with fail
      refine (I1.out _ (HT.out.on HB2.out hB)).mono ?_
      rintro e w3 ⟨rfl, hb3⟩
      have HB3 := hide (HB2.out.trans (hb3.mono HB2.out.size))
      clear hb3
      go_wp2_with fail
      refine (I2.out _ (HT.out.on HB3.out hB)).mono ?_
      rintro e w4 ⟨rfl, hb4⟩
      have HB4 := hide (HB3.out.trans (hb4.mono HB3.out.size))
      clear hb4
      go_wp2_with fail
      go_ret
      rw [HE.out]
      exact ⟨rfl, HB4.out⟩
end Go.Proofs.YtklgpilgalfckaaGreatDoor
namespace Go.KI
open Go

def allDg (l : List UInt8) : Prop := l ≠ [] ∧ ∀ c ∈ l, isDg c = true
instance (l : List UInt8) : Decidable (allDg l) := inferInstanceAs (Decidable (_ ∧ _))
def ahead (c : UInt8) (l : List UInt8) : List UInt8 := l.takeWhile (fun x => x != c)
def behind (c : UInt8) (l : List UInt8) : List UInt8 := (l.dropWhile (fun x => x != c)).drop 1
theorem cut_not {c : UInt8} {a : List UInt8} (h : ¬ c ∈ a) : ahead c a = a := by
  obtain ⟨h1, _⟩ := tw_all (p := fun x => x != c) (a := a) (b := []) (fun x hx => by
    have : x ≠ c := fun e => h (by rw [← e]; exact hx)
    simpa using this)
  unfold ahead
  simpa using h1
def own (m : Int) (p : Nat) : List UInt8 := List.replicate (p + 1 - (Lib.decDigits m.natAbs).length) 48 ++ Lib.decDigits m.natAbs
open Go

theorem split_eq {c : UInt8} : ∀ {l : List UInt8}, c ∈ l → l = ahead c l ++ c :: behind c l := by
  intro l
  induction l with
  | nil => intro h; simp at h
  | cons x r ih =>
    intro h
    by_cases hx : x = c
    · simp [ahead, behind, hx]
    · have h1 : (x != c) = true := by simpa using hx
      have h2 : c ∈ r := by simpa [Ne.symm hx] using h
      have h3 := ih h2
      unfold ahead behind at h3 ⊢
      simp only [List.takeWhile_cons, List.dropWhile_cons, h1, if_true, List.cons_append]
      rw [← h3]
theorem ahead_ne {c : UInt8} (l : List UInt8) : ∀ x ∈ ahead c l, x ≠ c := by
  intro x hx
  unfold ahead at hx
  induction l with
  | nil => simp at hx
  | cons y r ih =>
    by_cases h : (y != c) = true
    · simp only [List.takeWhile_cons, h, if_true, List.mem_cons] at hx
      rcases hx with h1 | h1
      · rw [h1]; simpa using h
      · exact ih h1
    · simp [h] at hx
theorem lib_cut (c : UInt8) (l : List UInt8) : Lib.cut l [c] = if c ∈ l then (ahead c l, behind c l, true) else (l, [], false) := by
  unfold Lib.cut
  by_cases h : c ∈ l
  · have e := split_eq h
    have hna := ahead_ne (c := c) l
    rw [if_pos h]
    obtain ⟨a, ha⟩ : ∃ a, a = ahead c l := ⟨_, rfl⟩
    obtain ⟨b, hb⟩ : ∃ b, b = behind c l := ⟨_, rfl⟩
    rw [← ha] at e hna ⊢
    rw [← hb] at e ⊢
    clear ha hb h
    subst e
    have hi : Lib.index (a ++ c :: b) [c] = (a.length : Int) := by
      refine Lib.index_first (by simp) ?_ ?_
      · unfold Lib.occAt
        rw [List.drop_left]
        simp
      · intro j hj
        cases ho : Lib.occAt (a ++ c :: b) [c] j with
        | false => rfl
        | true =>
          have h1 := Lib.occAt_head rfl ho
          rw [List.getElem?_append_left hj] at h1
          exact absurd rfl (hna c (List.mem_of_getElem? h1))
    rw [hi, if_pos (by omega), Int.toNat_natCast]
    have e2 : (a ++ c :: b).drop (a.length + [c].length) = b := by
      rw [List.drop_append]
      simp
    rw [List.take_left, e2]
  · rw [if_neg h, if_neg]
    intro hn
    have hnone : Lib.index l [c] = -1 := Lib.index_none (fun j _ => by
      cases ho : Lib.occAt l [c] j with
      | false => rfl
      | true => exact absurd (List.mem_of_getElem? (Lib.occAt_head rfl ho)) h)
    omega
end Go.KI
namespace Go.Proofs.YtklgpilgalfckaaGreatDoor
open Go.RowKit Go.KP Go.KI Go.Shelf
attribute [local go_sem] Oper.semAt_some

structure PQ (B : Nat) (w : World) : Prop where
  p10 : P10 B w
  lt : 3 < B
  len : ∃ m, w.cell? ⟨3, 0, none⟩ = some (.int .i64 m)
theorem PQ.on {B n : Nat} {w w2 : World} (h : PQ B w) (hb : Below n w w2) (hB : B ≤ n) : PQ B w2 := by
  refine ⟨h.p10.on hb hB, h.lt, ?_⟩
  obtain ⟨m, hm⟩ := h.len
  have := h.lt
  exact ⟨m, (hb.cell (p := ⟨3, 0, none⟩) (show 3 < n by omega)).trans hm⟩
theorem PQ.mono {B B2 : Nat} {w : World} (h : PQ B w) (hB : B ≤ B2) : PQ B2 w := ⟨h.p10.mono hB, Nat.lt_of_lt_of_le h.lt hB, h.len⟩
theorem scut_any (c : UInt8) (s : ByteArray) (hl : s.size ≤ 1000000) (B : Nat) (w : World) (hT : PQ B w) :
    Calls Tryz.prog 219 #[.string s, .string ⟨#[c]⟩] w (Ret w (.tuple #[.string (strB (KI.ahead c s.data.toList)), .string (strB (if c ∈ s.data.toList then KI.behind c s.data.toList else [])), .bool (decide (c ∈ s.data.toList))])) := by
  obtain ⟨m, hm⟩ := hT.len
  refine (Tryz.strings_Cut s ⟨#[c]⟩ m w (by omega) hm).mono ?_
  rintro e w' ⟨he, n, rfl⟩
  have e1 : Lib.cut s.data.toList (⟨#[c]⟩ : ByteArray).data.toList = Lib.cut s.data.toList [c] := rfl
  rw [e1, lib_cut] at he
  refine ⟨?_, below_drewN (Below.refl _ _) n⟩
  rw [he]
  by_cases h : c ∈ s.data.toList
  · simp [h, strB]
  · rw [cut_not h]
    simp [h, strB]
abbrev partsV (n d : ByteArray) : Value := .agg #[.string n, .string d]
abbrev partsO (n d : ByteArray) : Obj := .cells #[.string n, .string d] 177
theorem exit_cut {R : Ending → World → Prop} {a : Act} {W : World} {b : Nat} {n d : ByteArray} {ok : Bool} (hb : W.heap[b]? = some (partsO n d)) (h2 : a.tmps[2]? = some (.pointer (some ⟨b, 0, none⟩))) (h3 : a.tmps[3]? = some (.bool ok)) (hd : a.defers = []) (hR : R (.returned (.tuple #[partsV n d, .bool ok])) W) :
    bodyPost Tryz.prog Tryz.f183 R .ret a W := by
  have hcell := fun o => cell_blk hb o
  refine bodyPost_ret ?_ hd hR
  simp [results, go_sem, hcell, h2, h3]
theorem exit_cutSet {R : Ending → World → Prop} {a : Act} {W : World} {b : Nat} {n d u0 u1 : ByteArray} {ok : Bool} (hb : W.heap[b]? = some (partsO u0 u1)) (h2 : a.tmps[2]? = some (.pointer (some ⟨b, 0, none⟩))) (h3 : a.tmps[3]? = some (.bool ok)) (hd : a.defers = [])
    (hR : Below b W ((W.setCell ⟨b, 0, none⟩ (.string n)).setCell ⟨b, 1, none⟩ (.string d)) → R (.returned (.tuple #[partsV n d, .bool ok])) ((W.setCell ⟨b, 0, none⟩ (.string n)).setCell ⟨b, 1, none⟩ (.string d))) :
    bodyPost Tryz.prog Tryz.f183 R .ret a ((W.setCell ⟨b, 0, none⟩ (.string n)).setCell ⟨b, 1, none⟩ (.string d)) := by
  obtain ⟨s1, s2⟩ := set2 hb (.string n) (.string d)
  exact exit_cut s1 h2 h3 hd (hR s2)
theorem exit_readQ {R : Ending → World → Prop} {a : Act} {W : World} {b : Nat} {n d : ByteArray} {z : Int} (hb : W.heap[b]? = some (partsO n d)) (h2 : a.tmps[2]? = some (.pointer (some ⟨b, 0, none⟩))) (h3 : a.tmps[3]? = some (.int .i64 z)) (hd : a.defers = []) (hR : R (.returned (.tuple #[partsV n d, .int .i64 z])) W) :
    bodyPost Tryz.prog Tryz.f127 R .ret a W := by
  have hcell := fun o => cell_blk hb o
  refine bodyPost_ret ?_ hd hR
  simp [results, go_sem, hcell, h2, h3]
theorem exit_readQSet {R : Ending → World → Prop} {a : Act} {W : World} {b : Nat} {n d u0 u1 : ByteArray} {z : Int} (hb : W.heap[b]? = some (partsO u0 u1)) (h2 : a.tmps[2]? = some (.pointer (some ⟨b, 0, none⟩))) (h3 : a.tmps[3]? = some (.int .i64 z)) (hd : a.defers = [])
    (hR : Below b W ((W.setCell ⟨b, 0, none⟩ (.string n)).setCell ⟨b, 1, none⟩ (.string d)) → R (.returned (.tuple #[partsV n d, .int .i64 z])) ((W.setCell ⟨b, 0, none⟩ (.string n)).setCell ⟨b, 1, none⟩ (.string d))) :
    bodyPost Tryz.prog Tryz.f127 R .ret a ((W.setCell ⟨b, 0, none⟩ (.string n)).setCell ⟨b, 1, none⟩ (.string d)) := by
  obtain ⟨s1, s2⟩ := set2 hb (.string n) (.string d)
  exact exit_readQ s1 h2 h3 hd (hR s2)
theorem beq0 {k : Nat} : (k = 0 → ((k : Int) == 0) = true) ∧ (k ≠ 0 → ((k : Int) == 0) = false) := by
  constructor
  · intro h; rw [h]; rfl
  · intro h
    simp only [beq_eq_false_iff_ne, ne_eq]
    omega
theorem lit_eq {s : ByteArray} {l m : List UInt8} (h : s.data.toList = l) : (l = m → (s.toList == m) = true) ∧ (l ≠ m → (s.toList == m) = false) := by
  rw [ByteArray.toList_eq, h]
  exact ⟨fun e => by rw [e]; simp, fun e => by simpa using e⟩
theorem itoa_len (z : Int) : (Lib.itoa z).length ≤ (Lib.decDigits z.natAbs).length + 1 := by
  rcases itoa_cases z with ⟨_, h⟩ | ⟨_, h⟩ <;> rw [h]
  · rw [List.length_cons]
    omega
  · omega
theorem fits_size {s : ByteArray} {z : Int} (h : s.data.toList = Lib.itoa z) (hf : fits z) : s.size ≤ 301 := by
  have h1 := itoa_len z
  have h2 := fits_len.1 hf
  rw [← bytes_len, h]
  omega
theorem itoa_head (z : Int) : (Lib.itoa z).head? = some 45 ↔ z < 0 := by
  rcases itoa_cases z with ⟨h1, h⟩ | ⟨h1, h⟩ <;> rw [h]
  · exact ⟨fun _ => h1, fun _ => rfl⟩
  · exact ⟨fun e => absurd e (dec_head45 _), fun e => by omega⟩
theorem itoa_is_one (z : Int) : Lib.itoa z = [49] ↔ z = 1 := by
  constructor
  · intro h
    have := val_itoa z
    rw [h] at this
    exact this.symm.trans (by decide)
  · intro h
    rw [h, show (1 : Int) = ((1 : Nat) : Int) from rfl, Lib.itoa_nonneg, one_dec]
end Go.Proofs.YtklgpilgalfckaaGreatDoor
