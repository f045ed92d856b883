/-
 Texts laid together.
-/
import Derived.Test.YtklgpilgalfckaaGreatDoorMA4
import Derived.Test.YtklgpilgalfckaaGreatDoorMA3
import Derived.Test.YtklgpilgalfckaaGreatDoorMA1
import Derived.Lib.IndexMore
set_option maxRecDepth 100000
set_option maxHeartbeats 4000000
namespace Go.KI
open Go

theorem ybJ {l : List UInt8} (h : ∀ c ∈ l, isDg c = true) : lead l = l := by
 have := ydZ (a := l) (b := []) h (by intro c hc; cases hc)
 rwa [List.append_nil] at this
theorem ybV {l : List UInt8} (h : l.length ≤ (lead l).length) : ∀ c ∈ l, isDg c = true := by
 obtain ⟨e1, e2, _⟩ := ji l
 have h1 : l.drop (lead l).length = [] := List.drop_eq_nil_of_le h
 rw [h1, List.append_nil] at e1
 rw [e1]
 exact e2
def digN (l : List UInt8) : Nat := if 1 < (lead l).length ∧ l.head? = some 48 then 0 else (lead l).length
theorem yfh (l : List UInt8) : digN l ≤ l.length := by
 have h1 := congrArg List.length (ji l).1
 rw [List.length_append] at h1
 unfold digN
 split <;> omega
theorem kG (l : List UInt8) : (digN l = 0 ∨ digN l < l.length) ↔ ¬ numeral l := by
 constructor
 ·rintro h ⟨h1, h2, h3⟩
  have h4 := ybJ (List.all_eq_true.1 h2)
  have h5 : 0 < l.length := List.length_pos_iff.2 h1
  unfold digN at h
  rw [h4] at h
  by_cases hc : 1 < l.length ∧ l.head? = some 48
  ·rw [h3 hc.2] at hc
   exact absurd hc.1 (by decide)
  ·rw [if_neg hc] at h
   omega
 ·intro h
  refine Decidable.byContradiction fun hn => h ?_
  have h0 : digN l ≠ 0 := fun e => hn (.inl e)
  have h1 : l.length ≤ digN l := Nat.le_of_not_lt fun e => hn (.inr e)
  unfold digN at h0 h1
  by_cases hc : 1 < (lead l).length ∧ l.head? = some 48
  ·rw [if_pos hc] at h0
   exact absurd rfl h0
  ·rw [if_neg hc] at h0 h1
   have h2 := ybV h1
   have h3 := ybJ h2
   rw [h3] at h0 hc
   refine ⟨fun e => h0 (by rw [e]; rfl), List.all_eq_true.2 h2, fun hh => ?_⟩
   have h4 : ¬ 1 < l.length := fun e => hc ⟨e, hh⟩
   cases l with
   |nil => simp at hh
   |cons a b =>
    simp only [List.length_cons] at h4
    have : b = [] := List.eq_nil_of_length_eq_zero (by omega)
    rw [this]
    injection hh with hh
    rw [hh]
theorem yf3 (l : List UInt8) : chkI l = 11 ↔ (¬ numeral (digs l) ∨ (l.head? = some 45 ∧ digs l = [48])) := by
 have e : chkI l = 11 ↔ (digs l = [] ∨ ((digs l).head? = some 48 ∧ l ≠ [48]) ∨ ¬ (digs l).all isDg = true) := by
  unfold chkI
  split
  ·rename_i h
   exact ⟨fun _ => h, fun _ => rfl⟩
  ·rename_i h
   refine ⟨fun h2 => ?_, fun h2 => absurd h2 h⟩
   split at h2 <;> cases h2
 rw [e]
 have key : l.head? ≠ some 45 → digs l = l := by
  intro h
  cases l with
  |nil => rfl
  |cons c r =>
   have : c ≠ 45 := by simpa using h
   simp [digs, this]
 constructor
 ·rintro (h | ⟨h1, h2⟩ | h)
  ·exact .inl fun hn => hn.1 h
  ·by_cases hd : digs l = [48]
   ·by_cases h45 : l.head? = some 45
    ·exact .inr ⟨h45, hd⟩
    ·rw [key h45] at hd
     exact absurd hd h2
   ·exact .inl fun hn => hd (hn.2.2 h1)
  ·exact .inl fun hn => h hn.2.1
 ·rintro (h | ⟨h1, h2⟩)
  ·refine Decidable.byContradiction fun hn => h ⟨fun e => hn (.inl e), Decidable.byContradiction fun e => hn (.inr (.inr e)), fun hh => ?_⟩
   have hl : l = [48] := Decidable.byContradiction fun e => hn (.inr (.inl ⟨hh, e⟩))
   rw [hl]
   rfl
  ·refine .inr (.inl ⟨by rw [h2]; rfl, fun e => ?_⟩)
   rw [e] at h1
   cases h1
def cutOK (l : List UInt8) : Prop := ¬ (chkI (numT l) = 11 ∨ (47 ∈ l ∧ (¬ numeral (denT l) ∨ denT l = [48] ∨ denT l = [49])))
instance (l : List UInt8) : Decidable (cutOK l) := inferInstanceAs (Decidable (¬ _))
def denS (l : List UInt8) : List UInt8 := if 47 ∈ l then denT l else [49]
theorem yeg {l : List UInt8} (h : chkQ l = 0) : cutOK l := by
 intro hn
 unfold chkQ at h
 rw [if_pos hn] at h
 cases h
theorem yhS {l : List UInt8} (h : chkQ l = 0) : numT l = Lib.itoa (valQ l).num ∧ denS l = Lib.itoa ((valQ l).den : Int) := by
 obtain ⟨e1, _, e3, e4⟩ := qj h
 constructor
 ·rw [e3]
  exact (xH (fun e => yeg h (.inl e))).1
 ·rw [e4, Lib.itoa_nonneg]
  unfold denS denQ
  by_cases hs : 47 ∈ l
  ·rw [if_pos hs, if_pos hs]
   exact jD (Decidable.byContradiction fun e => yeg h (.inr ⟨hs, .inl e⟩))
  ·rw [if_neg hs, if_neg hs, qC]
theorem ycl {l : List UInt8} (h : cutOK l) : chkQ l = if 300 < (digs (numT l)).length ∨ 300 < (denS l).length then 4 else if 47 ∈ l ∧ Nat.gcd (valI (numT l)).natAbs (dv (denT l)) ≠ 1 then 11 else 0 := by
 unfold chkQ
 rw [if_neg h]
 obtain ⟨e1, e2⟩ := xH (fun e => h (.inl e))
 have h4 : chkI (numT l) = 4 ↔ 300 < (digs (numT l)).length := by
  rw [e2]
  have h5 := @zb (valI (numT l))
  have h6 : (digs (numT l)).length = (Lib.decDigits (valI (numT l)).natAbs).length := by
   conv => lhs; rw [e1]
   rw [yQ]
  rw [h6]
  by_cases hf : fits (valI (numT l))
  ·rw [if_pos hf]
   have := h5.1 hf
   exact ⟨fun e => (by cases e), fun e => (by omega)⟩
  ·rw [if_neg hf]
   exact ⟨fun _ => Nat.lt_of_not_le fun e => hf (h5.2 e), fun _ => rfl⟩
 have h7 : (47 ∈ l ∧ 300 < (denT l).length) ↔ 300 < (denS l).length := by
  unfold denS
  by_cases hs : 47 ∈ l
  ·rw [if_pos hs]
   exact ⟨fun e => e.2, fun e => ⟨hs, e⟩⟩
  ·rw [if_neg hs]
   exact ⟨fun e => absurd e.1 hs, fun e => absurd e (by decide)⟩
 simp only [h4, h7]
end Go.KI
namespace Go.Proofs.YtklgpilgalfckaaGreatDoor
open Go.RowKit Go.KP Go.KI Go.Shelf
attribute [local go_sem] Oper.semAt_some

theorem wv (s : ByteArray) (hs : s.size ≤ 1000000) (w : World) :
 Calls Tryz.prog 220 #[.string s] w (Ret w (.int .i64 (digN s.data.toList : Nat))) := by
 obtain ⟨L, hL⟩ := xe ((lead s.data.toList).length)
 have hLs : L ≤ s.size := by rw [hL, ← yg]; exact ydc _
 have HLE := hide hL
 clear hL
 go_enter Tryz.func220, Tryz.ntmps220
 go_wp2_with fail
 go_loopw [3] (fun i wr => ∃ k : Nat, k ≤ L ∧ i = .int .i64 k ∧ wr = w) (fun i _ => s.size - (intOf i).toNat)
 case atStart => exact ⟨0, by omega, rfl, rfl⟩
 case round =>
  obtain ⟨k, hkL, rfl, rfl⟩ := hrel
  by_cases hkl : k < L
  ·have hlt : k < s.size := by omega
   have hki : (k : Int) < (s.size : Int) := by omega
   have hk0 : (0 : Int) ≤ (k : Int) := by omega
   obtain ⟨c, hc, hcd⟩ := yds (l := s.data.toList) (k := k) (by rw [← HLE.out]; exact hkl)
   have hat : s.data.toList[k]? = some (s[k]'hlt) := by
    have h1 : s.data.toList[k]? = some s.data[k] := by simp
    exact h1
   obtain ⟨y, hyv⟩ : ∃ y : Nat, y = (s[k]'hlt).toNat := ⟨_, rfl⟩
   have hyv2 : (s[k]'hlt).toNat = y := hyv.symm
   have hdg : 48 ≤ y ∧ y ≤ 57 := by
    rw [hat] at hc
    injection hc with hc
    rw [hyv, hc]
    exact yH.1 hcd
   have y0 : (48 : Int) ≤ (y : Int) := by omega
   have y1 : (y : Int) ≤ 57 := by omega
   clear hat hyv hdg hc hcd
   go_wp2_with fail
   go_roundw
   case rel => exact ⟨k + 1, by omega, by go_num, trivial⟩
   case measure => simp [intOf]; omega
  ·have hkL2 : k = L := by omega
   have hstop : ((k : Int) < (s.size : Int)) = False ∨ (∃ h : k < s.size, ∃ y : Nat, (s[k]'h).toNat = y ∧ (y < 48 ∨ 57 < y)) := by
    by_cases h1 : k < s.size
    ·obtain ⟨c, hc⟩ : ∃ c, s[k]'h1 = c := ⟨_, rfl⟩
     have hat : s.data.toList[k]? = some c := by
      have h3 : s.data.toList[k]? = some s.data[k] := by simp
      rw [h3]
      exact congrArg some hc
     have hat2 : s.data.toList[(lead s.data.toList).length]? = some c := by rw [← HLE.out, ← hkL2]; exact hat
     have h4 := ya9 hat2
     have h5 : ¬ (48 ≤ c.toNat ∧ c.toNat ≤ 57) := fun h => by
      have h6 := yH.2 h
      rw [h4] at h6
      cases h6
     exact .inr ⟨h1, c.toNat, by rw [hc], by omega⟩
    ·exact .inl (eq_false (by omega))
   have hres : (((1 : Int) < (k : Int)) = False ∧ digN s.data.toList = k) ∨ (∃ h : 0 < s.size, (1 : Int) < (k : Int) ∧ (((s[0]'h).toNat : Int) == 48) = true ∧ digN s.data.toList = 0) ∨ (∃ h : 0 < s.size, (1 : Int) < (k : Int) ∧ (((s[0]'h).toNat : Int) == 48) = false ∧ digN s.data.toList = k) := by
    unfold digN
    rw [← HLE.out, ← hkL2]
    by_cases h : 1 < k
    ·have hp : 0 < s.size := by omega
     have hh : s.data.toList.head? = some (s[0]'hp) := by
      have h3 : s.data.toList[0]? = some s.data[0] := by simp
      rw [List.head?_eq_getElem?]
      exact h3
     by_cases h48 : s[0]'hp = 48
     ·exact .inr (.inl ⟨hp, by omega, by rw [h48]; rfl, if_pos ⟨h, by rw [hh, h48]⟩⟩)
     ·refine .inr (.inr ⟨hp, by omega, ?_, if_neg (fun h2 => ?_)⟩)
      ·have : (s[0]'hp).toNat ≠ 48 := fun e => h48 (UInt8.toNat_inj.1 e)
       simp only [beq_eq_false_iff_ne, ne_eq]
       omega
      ·rw [hh] at h2
       have h3 := h2.2
       injection h3 with h3
       exact h48 h3
    ·exact .inl ⟨eq_false (by omega), if_neg (fun h2 => h h2.1)⟩
   clear hkl hkL2
   have hk0 : (0 : Int) ≤ (k : Int) := by omega
   rcases hstop with h1 | ⟨h1, y, hy, h3⟩
   case' inr =>
    have h1i : (k : Int) < (s.size : Int) := by omega
    rcases h3 with h3 | h3
    case' inl => have h4 : ((48 : Int) ≤ (y : Int)) = False := eq_false (by omega)
    case' inr =>
     have h4 : (48 : Int) ≤ (y : Int) := by omega
     have h5 : ((y : Int) ≤ 57) = False := eq_false (by omega)
   all_goals
    rcases hres with ⟨r0, r2⟩ | ⟨hp, r0, r1, r2⟩ | ⟨hp, r0, r1, r2⟩
   all_goals have HR := hide r2
   all_goals clear r2
   all_goals
    go_wp2_with fail
    go_ret
    rw [HR.out]
    exact ⟨rfl, Below.refl _ _⟩

abbrev natV (n d : Int) : Value := .agg #[.int .i64 n, .int .i64 d]
abbrev natO (n d : Int) : Obj := .cells #[.int .i64 n, .int .i64 d] 164
theorem wD (a b : Nat) : (a : Int).tdiv (b : Int) = ((a / b : Nat) : Int) := by
 rw [Int.tdiv_eq_ediv_of_nonneg (by omega), Int.natCast_ediv]
theorem yik {n : Int} {g : Nat} (h : (g : Int) ∣ n) : n.tdiv (g : Int) = n / (g : Int) := Int.tdiv_eq_ediv_of_dvd h
theorem ya0 {z : Int} (h : z.natAbs < 100000000000000000) : (strB (Lib.itoa z)).size ≤ 18 := by
 rw [yu]
 have h1 := (yn (u := z.natAbs) (n := 17) (by omega)).2 (by simpa using h)
 rcases yo z with ⟨_, h2⟩ | ⟨_, h2⟩ <;> rw [h2]
 ·rw [List.length_cons]
  omega
 ·omega
theorem ycX (n d : Int) (hn : n.natAbs < 100000000000000000) (hd : d.natAbs < 100000000000000000) (h0 : d ≠ 0) (B : Nat) (w : World) (hB : B ≤ w.heap.size) (hT : P10 B w) :
 Calls Tryz.prog 165 #[natV n d] w (Ret w (.string (strB (ratS (Rat.divInt n d))))) := by
 have HT := hide hT
 obtain ⟨b0, bs0, bb0⟩ := heap1 w (natO n d)
 have P0 := hide b0; have PB := hide bb0
 have k0 := ya b0 0
 have k1 := ya b0 1
 have f0 := yf b0 0
 have f1 := yf b0 1
 have hsz := yd b0
 obtain ⟨N, D, hND, hsign⟩ : ∃ (N : Int) (D : Nat), Rat.divInt n d = Rat.divInt N D ∧ ((d < 0 ∧ N = -n ∧ (D : Int) = -d) ∨ ((d < 0) = False ∧ N = n ∧ (D : Int) = d)) := by
  rcases Int.lt_or_lt_of_ne h0 with h | h
  ·exact ⟨-n, d.natAbs, by rw [show ((d.natAbs : Nat) : Int) = -d by omega, Rat.neg_divInt_neg], .inl ⟨h, rfl, by omega⟩⟩
  ·exact ⟨n, d.natAbs, by rw [show ((d.natAbs : Nat) : Int) = d by omega], .inr ⟨eq_false (by omega), rfl, by omega⟩⟩
 rw [hND]
 have hDp : 0 < D := by rcases hsign with ⟨h1, h2, h3⟩ | ⟨h1, h2, h3⟩ <;> omega
 have hDl : D < 100000000000000000 := by rcases hsign with ⟨h1, h2, h3⟩ | ⟨h1, h2, h3⟩ <;> omega
 have hNl : N.natAbs < 100000000000000000 := by rcases hsign with ⟨h1, h2, h3⟩ | ⟨h1, h2, h3⟩ <;> omega
 obtain ⟨g, hg⟩ := xe (Nat.gcd N.natAbs D)
 have hgp : 0 < g := by rw [hg]; exact Nat.gcd_pos_of_pos_right _ hDp
 have hgl : g ≤ D := by rw [hg]; exact Nat.gcd_le_right _ hDp
 have hgn : (g : Int) ∣ N := by rw [hg]; exact Int.ofNat_dvd_left.2 (Nat.gcd_dvd_left _ _)
 obtain ⟨Nq, hNq⟩ : ∃ Nq : Int, Nq = N / (g : Int) := ⟨_, rfl⟩
 obtain ⟨Dq, hDq⟩ : ∃ Dq : Nat, Dq = D / g := ⟨_, rfl⟩
 have q1 : N.tdiv (g : Int) = Nq := by rw [yik hgn, hNq]
 have q2 : (D : Int) / (g : Int) = (Dq : Int) := by rw [hDq, Int.natCast_ediv]
 have q3 : (D : Int).tdiv (g : Int) = (Dq : Int) := by rw [wD, hDq]
 have nq0 := hide q1; have dq0 := hide q2
 have HTX := hide (show ratS (Rat.divInt N D) = if Dq = 1 then Lib.itoa Nq else Lib.itoa Nq ++ 47 :: Lib.itoa (Dq : Int) by
  have h := ybh (n := N) (d := (D : Int)) (by omega)
  rw [Int.natAbs_natCast, ← hg, ← hNq, q2] at h
  rw [h]
  by_cases h1 : Dq = 1
  ·rw [if_pos h1, if_pos (by omega)]
  ·rw [if_neg h1, if_neg (by omega)])
 have hmx : max N (-N) = ((N.natAbs : Nat) : Int) := by omega
 have hNql : Nq.natAbs ≤ N.natAbs := by rw [hNq]; exact Int.natAbs_ediv_le_natAbs _ _
 have hDql : Dq ≤ D := by rw [hDq]; exact Nat.div_le_self _ _
 have HG := hide (fun w => yen N.natAbs D (by omega) (by omega) w)
 rw [← hg] at HG
 have hg0 : ((g : Int) == 0) = false := by
  simp only [beq_eq_false_iff_ne, ne_eq]
  omega
 clear hNq hDq hg hgn hND b0 bb0 hT
 obtain ⟨tx, htx⟩ := xe (strB (ratS (Rat.divInt N D)))
 rw [← htx]
 have HX := hide htx
 clear htx
 have H1 := hide (heap1 w (natO N D))
 rcases hsign with ⟨h1, h2, h3⟩ | ⟨h1, h2, h3⟩
 case' inl =>
  have e1 : -n = N := h2.symm
  have e2 : -d = (D : Int) := h3.symm
  have MX := hide hmx
  clear h2 h3 q2 q3 hmx q1
  go_enter Tryz.func165, Tryz.ntmps165
  go_wp2_with fail
  clear e1 e2
 case' inr =>
  subst h2
  subst h3
  have MX := hide hmx
  clear q2 q3 hmx q1
  go_enter Tryz.func165, Tryz.ntmps165
  go_wp2_with fail
 all_goals
  rw [MX.out]
  refine (HG.out _).mono ?_
  rintro e w1 ⟨rfl, hb1⟩
  have G1 := hide (yc hb1 H1.out.1 (yd H1.out.1))
  have HB1 := hide (H1.out.2.2.trans (hb1.mono H1.out.2.2.size))
  have c0 := ya G1.out 0
  have c1 := ya G1.out 1
  have hlt1 := yd G1.out
  have q1 : N.tdiv (g : Int) = Nq := nq0.out
  have q2 : (D : Int) / (g : Int) = (Dq : Int) := dq0.out
  clear hb1 k0 k1 f0 f1
  go_wp2_with fail
  go_quiet (fail)
  have HB2 := hide (below_drewN HB1.out nq)
  clear q1 q2 c0 c1 hg0
  by_cases hd1 : Dq = 1
  ·have hde : ((Dq : Int) == 1) = true := by rw [hd1]; rfl
   have HE := hide (show tx = strB (Lib.itoa Nq) by rw [HX.out, HTX.out, if_pos hd1])
   clear hd1
   go_wp2_with fail
   refine (yl Nq (by omega) (by omega) B _ (HT.out.on HB2.out hB)).mono ?_
   rintro e w3 ⟨rfl, hb3⟩
   have HB3 := bt HB2 hb3
   clear hb3
   go_wp2_with fail
   go_ret
   rw [HE.out]
   exact ⟨rfl, HB3.out⟩
  ·have hde : ((Dq : Int) == 1) = false := by
    simp only [beq_eq_false_iff_ne, ne_eq]
    omega
   have s1 := ya0 (z := Nq) (by omega)
   have s2 := ya0 (z := (Dq : Int)) (by omega)
   have HE := hide (show tx = strB (Lib.itoa Nq) ++ ⟨#[47]⟩ ++ strB (Lib.itoa (Dq : Int)) by
    rw [HX.out, HTX.out, if_neg hd1]
    apply yp
    simp [strB])
   have I1 := hide (fun w h => yl Nq (by omega) (by omega) B w h)
   have I2 := hide (fun w h => yl (Dq : Int) (by omega) (by omega) B w h)
   obtain ⟨t1, ht1⟩ := xe (strB (Lib.itoa Nq))
   obtain ⟨t2, ht2⟩ := xe (strB (Lib.itoa (Dq : Int)))
   rw [← ht1] at s1 HE I1
   rw [← ht2] at s2 HE I2
   have v1 : (9223372036854775807 < t1.size + 1) = False := eq_false (by omega)
   have v2 : (9223372036854775807 < t1.size + 1 + t2.size) = False := eq_false (by omega)
   clear hd1 ht1 ht2
   go_wp2_with fail
   refine (I1.out _ (HT.out.on HB2.out hB)).mono ?_
   rintro e w3 ⟨rfl, hb3⟩
   have HB3 := bt HB2 hb3
   clear hb3
   go_wp2_with fail
   refine (I2.out _ (HT.out.on HB3.out hB)).mono ?_
   rintro e w4 ⟨rfl, hb4⟩
   have HB4 := bt HB3 hb4
   clear hb4
   go_wp2_with fail
   go_ret
   rw [HE.out]
   exact ⟨rfl, HB4.out⟩
end Go.Proofs.YtklgpilgalfckaaGreatDoor
namespace Go.KI
open Go

def allDg (l : List UInt8) : Prop := l ≠ [] ∧ ∀ c ∈ l, isDg c = true
instance (l : List UInt8) : Decidable (allDg l) := inferInstanceAs (Decidable (_ ∧ _))
def ahead (c : UInt8) (l : List UInt8) : List UInt8 := l.takeWhile (fun x => x != c)
def behind (c : UInt8) (l : List UInt8) : List UInt8 := (l.dropWhile (fun x => x != c)).drop 1
theorem yiu {c : UInt8} {a b : List UInt8} (h : ∀ x ∈ a, x ≠ c) : ahead c (a ++ c :: b) = a ∧ behind c (a ++ c :: b) = b ∧ c ∈ a ++ c :: b := by
 obtain ⟨h1, h2⟩ := ybL (p := fun x => x != c) (a := a) (b := c :: b) (fun x hx => by simpa using h x hx)
 refine ⟨?_, ?_, by simp⟩
 ·unfold ahead; rw [h1]; simp
 ·unfold behind; rw [h2]; simp
theorem ybx {c : UInt8} {a : List UInt8} (h : ¬ c ∈ a) : ahead c a = a := by
 obtain ⟨h1, _⟩ := ybL (p := fun x => x != c) (a := a) (b := []) (fun x hx => by
  have : x ≠ c := fun e => h (by rw [← e]; exact hx)
  simpa using this)
 unfold ahead
 simpa using h1
def isNeg (l : List UInt8) : Bool := decide (l.head? = some 45)
def own (m : Int) (p : Nat) : List UInt8 := List.replicate (p + 1 - (Lib.decDigits m.natAbs).length) 48 ++ Lib.decDigits m.natAbs

theorem kU {c : UInt8} : ∀ {l : List UInt8}, c ∈ l → l = ahead c l ++ c :: behind c l := by
 intro l
 induction l with
 |nil => intro h; simp at h
 |cons x r ih =>
  intro h
  by_cases hx : x = c
  ·simp [ahead, behind, hx]
  ·have h1 : (x != c) = true := by simpa using hx
   have h2 : c ∈ r := by simpa [Ne.symm hx] using h
   have h3 := ih h2
   unfold ahead behind at h3 ⊢
   simp only [List.takeWhile_cons, List.dropWhile_cons, h1, if_true, List.cons_append]
   rw [← h3]
theorem yeo {c : UInt8} (l : List UInt8) : ∀ x ∈ ahead c l, x ≠ c := by
 intro x hx
 unfold ahead at hx
 induction l with
 |nil => simp at hx
 |cons y r ih =>
  by_cases h : (y != c) = true
  ·simp only [List.takeWhile_cons, h, if_true, List.mem_cons] at hx
   rcases hx with h1 | h1
   ·rw [h1]; simpa using h
   ·exact ih h1
  ·simp [h] at hx
theorem yhZ (c : UInt8) (l : List UInt8) : Lib.cut l [c] = if c ∈ l then (ahead c l, behind c l, true) else (l, [], false) := by
 unfold Lib.cut
 by_cases h : c ∈ l
 ·have e := kU h
  have hna := yeo (c := c) l
  rw [if_pos h]
  obtain ⟨a, ha⟩ := xe (ahead c l)
  obtain ⟨b, hb⟩ := xe (behind c l)
  rw [← ha] at e hna ⊢
  rw [← hb] at e ⊢
  clear ha hb h
  subst e
  have hi : Lib.index (a ++ c :: b) [c] = (a.length : Int) := by
   refine Lib.index_first (by simp) ?_ ?_
   ·unfold Lib.occAt
    rw [List.drop_left]
    simp
   ·intro j hj
    cases ho : Lib.occAt (a ++ c :: b) [c] j with
    |false => rfl
    |true =>
     have h1 := Lib.occAt_head rfl ho
     rw [List.getElem?_append_left hj] at h1
     exact absurd rfl (hna c (List.mem_of_getElem? h1))
  rw [hi, if_pos (by omega), Int.toNat_natCast]
  have e2 : (a ++ c :: b).drop (a.length + [c].length) = b := by
   rw [List.drop_append]
   simp
  rw [List.take_left, e2]
 ·rw [if_neg h, if_neg]
  intro hn
  have hnone : Lib.index l [c] = -1 := Lib.index_none (fun j _ => by
   cases ho : Lib.occAt l [c] j with
   |false => rfl
   |true => exact absurd (List.mem_of_getElem? (Lib.occAt_head rfl ho)) h)
  omega
end Go.KI
namespace Go.Proofs.YtklgpilgalfckaaGreatDoor
open Go.RowKit Go.KP Go.KI Go.Shelf
attribute [local go_sem] Oper.semAt_some

structure PQ (B : Nat) (w : World) : Prop where
 p10 : P10 B w
 lt : 3 < B
 len : ∃ m, w.cell? ⟨3, 0, none⟩ = some (.int .i64 m)
theorem PQ.on {B n : Nat} {w w2 : World} (h : PQ B w) (hb : Below n w w2) (hB : B ≤ n) : PQ B w2 := by
 refine ⟨h.p10.on hb hB, h.lt, ?_⟩
 obtain ⟨m, hm⟩ := h.len
 have := h.lt
 exact ⟨m, (hb.cell (p := ⟨3, 0, none⟩) (show 3 < n by omega)).trans hm⟩
theorem PQ.mono {B B2 : Nat} {w : World} (h : PQ B w) (hB : B ≤ B2) : PQ B2 w := ⟨h.p10.mono hB, Nat.lt_of_lt_of_le h.lt hB, h.len⟩
theorem yg3 (c : UInt8) (s : ByteArray) (hl : s.size ≤ 1000000) (B : Nat) (w : World) (hT : PQ B w) :
 Calls Tryz.prog 219 #[.string s, .string ⟨#[c]⟩] w (Ret w (.tuple #[.string (strB (KI.ahead c s.data.toList)), .string (strB (if c ∈ s.data.toList then KI.behind c s.data.toList else [])), .bool (decide (c ∈ s.data.toList))])) := by
 obtain ⟨m, hm⟩ := hT.len
 refine (Tryz.strings_Cut s ⟨#[c]⟩ m w (by omega) hm).mono ?_
 rintro e w' ⟨he, n, rfl⟩
 have e1 : Lib.cut s.data.toList (⟨#[c]⟩ : ByteArray).data.toList = Lib.cut s.data.toList [c] := rfl
 rw [e1, yhZ] at he
 refine ⟨?_, below_drewN (Below.refl _ _) n⟩
 rw [he]
 by_cases h : c ∈ s.data.toList
 ·simp [h, strB]
 ·rw [ybx h]
  simp [h, strB]
abbrev partsV (n d : ByteArray) : Value := .agg #[.string n, .string d]
abbrev partsO (n d : ByteArray) : Obj := .cells #[.string n, .string d] 177
theorem yg5 {R : Ending → World → Prop} {a : Act} {W : World} {b : Nat} {n d : ByteArray} {ok : Bool} (hb : W.heap[b]? = some (partsO n d)) (h2 : a.tmps[2]? = some (.pointer (some ⟨b, 0, none⟩))) (h3 : a.tmps[3]? = some (.bool ok)) (hd : a.defers = []) (hR : R (.returned (.tuple #[partsV n d, .bool ok])) W) :
 bodyPost Tryz.prog Tryz.f183 R .ret a W := by
 have hcell := fun o => ya hb o
 refine bodyPost_ret ?_ hd hR
 simp [results, go_sem, hcell, h2, h3]
theorem vR {R : Ending → World → Prop} {a : Act} {W : World} {b : Nat} {n d u0 u1 : ByteArray} {ok : Bool} (hb : W.heap[b]? = some (partsO u0 u1)) (h2 : a.tmps[2]? = some (.pointer (some ⟨b, 0, none⟩))) (h3 : a.tmps[3]? = some (.bool ok)) (hd : a.defers = [])
 (hR : Below b W ((W.setCell ⟨b, 0, none⟩ (.string n)).setCell ⟨b, 1, none⟩ (.string d)) → R (.returned (.tuple #[partsV n d, .bool ok])) ((W.setCell ⟨b, 0, none⟩ (.string n)).setCell ⟨b, 1, none⟩ (.string d))) :
 bodyPost Tryz.prog Tryz.f183 R .ret a ((W.setCell ⟨b, 0, none⟩ (.string n)).setCell ⟨b, 1, none⟩ (.string d)) := by
 obtain ⟨s1, s2⟩ := set2 hb (.string n) (.string d)
 exact yg5 s1 h2 h3 hd (hR s2)
theorem yaG {R : Ending → World → Prop} {a : Act} {W : World} {b : Nat} {n d : ByteArray} {z : Int} (hb : W.heap[b]? = some (partsO n d)) (h2 : a.tmps[2]? = some (.pointer (some ⟨b, 0, none⟩))) (h3 : a.tmps[3]? = some (.int .i64 z)) (hd : a.defers = []) (hR : R (.returned (.tuple #[partsV n d, .int .i64 z])) W) :
 bodyPost Tryz.prog Tryz.f127 R .ret a W := by
 have hcell := fun o => ya hb o
 refine bodyPost_ret ?_ hd hR
 simp [results, go_sem, hcell, h2, h3]
theorem ybz {R : Ending → World → Prop} {a : Act} {W : World} {b : Nat} {n d u0 u1 : ByteArray} {z : Int} (hb : W.heap[b]? = some (partsO u0 u1)) (h2 : a.tmps[2]? = some (.pointer (some ⟨b, 0, none⟩))) (h3 : a.tmps[3]? = some (.int .i64 z)) (hd : a.defers = [])
 (hR : Below b W ((W.setCell ⟨b, 0, none⟩ (.string n)).setCell ⟨b, 1, none⟩ (.string d)) → R (.returned (.tuple #[partsV n d, .int .i64 z])) ((W.setCell ⟨b, 0, none⟩ (.string n)).setCell ⟨b, 1, none⟩ (.string d))) :
 bodyPost Tryz.prog Tryz.f127 R .ret a ((W.setCell ⟨b, 0, none⟩ (.string n)).setCell ⟨b, 1, none⟩ (.string d)) := by
 obtain ⟨s1, s2⟩ := set2 hb (.string n) (.string d)
 exact yaG s1 h2 h3 hd (hR s2)
theorem beq0 {k : Nat} : (k = 0 → ((k : Int) == 0) = true) ∧ (k ≠ 0 → ((k : Int) == 0) = false) := by
 constructor
 ·intro h; rw [h]; rfl
 ·intro h
  simp only [beq_eq_false_iff_ne, ne_eq]
  omega
theorem zz {s : ByteArray} {l m : List UInt8} (h : s.data.toList = l) : (l = m → (s.toList == m) = true) ∧ (l ≠ m → (s.toList == m) = false) := by
 rw [ByteArray.toList_eq, h]
 exact ⟨fun e => by rw [e]; simp, fun e => by simpa using e⟩
theorem yei (z : Int) : (Lib.itoa z).length ≤ (Lib.decDigits z.natAbs).length + 1 := by
 rcases yo z with ⟨_, h⟩ | ⟨_, h⟩ <;> rw [h]
 ·rw [List.length_cons]
  omega
 ·omega
theorem qF {s : ByteArray} {z : Int} (h : s.data.toList = Lib.itoa z) (hf : fits z) : s.size ≤ 301 := by
 have h1 := yei z
 have h2 := zb.1 hf
 rw [← yg, h]
 omega
theorem yac (z : Int) : (Lib.itoa z).head? = some 45 ↔ z < 0 := by
 rcases yo z with ⟨h1, h⟩ | ⟨h1, h⟩ <;> rw [h]
 ·exact ⟨fun _ => h1, fun _ => rfl⟩
 ·exact ⟨fun e => absurd e (zU _), fun e => by omega⟩
theorem vV (z : Int) : Lib.itoa z = [49] ↔ z = 1 := by
 constructor
 ·intro h
  have := ym z
  rw [h] at this
  exact this.symm.trans (by decide)
 ·intro h
  rw [h, show (1 : Int) = ((1 : Nat) : Int) from rfl, Lib.itoa_nonneg, qC]

theorem yfj (s t : ByteArray) (B : Nat) (w : World) (c1 : chkI s.data.toList = 0) (c2 : chkI t.data.toList = 0) (hs : s.size ≤ 18) (ht : t.size ≤ 18) (hB : B ≤ w.heap.size) (hT : P10 B w) :
 Calls Tryz.prog 178 #[.string s, .string t] w (Ret w (pairV (Lib.itoa ((Nat.gcd (valI s.data.toList).natAbs (valI t.data.toList).natAbs : Nat) : Int)) 0)) := by
 have H1 := hide (qN s t (by omega) (by omega) w)
 have hb0 : bothI s.data.toList t.data.toList = 0 := by unfold bothI; rw [if_pos c1, c2]
 rw [hb0] at H1
 have HT := hide hT
 have H2 := hide (fun w => jf s t c1 c2 hs ht w)
 have v1 := yK (n := 18) c1 (by rw [yg]; exact hs) (by omega)
 have v2 := yK (n := 18) c2 (by rw [yg]; exact ht) (by omega)
 rw [pow18] at v1 v2
 obtain ⟨x, hx⟩ := xe (valI s.data.toList)
 obtain ⟨y, hy⟩ := xe (valI t.data.toList)
 rw [← hx, ← hy] at H2 ⊢
 rw [← hx] at v1
 rw [← hy] at v2
 obtain ⟨G, hG⟩ := xe (Nat.gcd x.natAbs y.natAbs)
 rw [← hG]
 have HG := hide hG
 have V1 := hide v1; have V2 := hide v2
 clear c1 c2 hs ht hT hx hy hb0 hG v1 v2
 go_enter Tryz.func178, Tryz.ntmps178
 go_wp2_with fail
 refine H1.out.mono ?_
 rintro e w1 ⟨rfl, hb1⟩
 have HB1 := hide hb1
 clear hb1 H1
 go_wp2_with fail
 refine (H2.out _).mono ?_
 rintro e w2 ⟨rfl, hb2⟩
 have HB2 := bt HB1 hb2
 clear hb2 H2 HB1
 go_wp2_with fail
 go_loopw [7, 8] (fun a b wr => ∃ p q : Int, a = .int .i64 p ∧ b = .int .i64 q ∧ p.natAbs < 1000000000000000000 ∧ q.natAbs < 1000000000000000000 ∧ Hid (Nat.gcd p.natAbs q.natAbs = G ∧ Below w.heap.size w wr)) (fun _ b _ => (intOf b).natAbs)
 case atStart => exact ⟨x, y, rfl, rfl, V1.out, V2.out, HG.out.symm, HB2.out⟩
 case round =>
  obtain ⟨p, q, rfl, rfl, hp, hq, hin⟩ := hrel
  have IN := hide hin.out
  clear hin
  by_cases hq0 : q = 0
  ·subst hq0
   have hqq : ((0 : Int) != 0) = false := rfl
   have hG : (p.natAbs : Nat) = G := by have := IN.out.1; simpa using this
   have GG := hide hG
   clear hq hG
   go_wp2_with fail
   have hmx : max p (-p) = (G : Int) := by have := GG.out; omega
   rw [hmx]
   have hG1 : (G : Int) ≤ 9223372036854775807 := by have := GG.out; omega
   clear hmx hqq
   refine (yl G (by omega) hG1 B _ (HT.out.on IN.out.2 hB)).mono ?_
   rintro e w3 ⟨rfl, hb3⟩
   have HB3 := hide (IN.out.2.trans (hb3.mono IN.out.2.size))
   clear hb3
   go_wp2_with fail
   refine bodyPost_ret (results_tmp2 rfl _ _ _) rfl ?_
   exact ⟨rfl, HB3.out⟩
  ·have hqq : (q != 0) = true := by simpa using hq0
   have hyq : (q == 0) = false := by simpa using hq0
   have hr := zk p hq0
   have hgc : Nat.gcd q.natAbs (p.tmod q).natAbs = G := by
    rw [Int.natAbs_tmod, ← IN.out.1, Nat.gcd_comm q.natAbs, ← Nat.gcd_rec, Nat.gcd_comm]
   have GG := hide hgc
   clear hq0 hgc
   go_wp2_with fail
   go_quiet (fail)
   clear hyq hqq
   go_wp2_with fail
   go_roundw
   case rel => exact ⟨q, p.tmod q, rfl, rfl, hq, by omega, GG.out, ⟨IN.out.2.os, IN.out.2.tape, IN.out.2.output, IN.out.2.size, IN.out.2.block⟩⟩
   case measure => simpa [intOf] using hr
end Go.Proofs.YtklgpilgalfckaaGreatDoor
namespace Go.KI

def rootN : Nat → Nat
 | 0 => 0
 |n + 1 => if (rootN n + 1) * (rootN n + 1) ≤ n + 1 then rootN n + 1 else rootN n
theorem yX : ∀ n, rootN n * rootN n ≤ n ∧ n < (rootN n + 1) * (rootN n + 1) := by
 intro n
 induction n with
 |zero => exact ⟨Nat.le_refl _, by show 0 < (0 + 1) * (0 + 1); decide⟩
 |succ n ih =>
  rw [rootN]
  split
  ·refine ⟨by assumption, ?_⟩
   have : (rootN n + 1 + 1) * (rootN n + 1 + 1) = (rootN n + 1) * (rootN n + 1) + 2 * (rootN n + 1) + 1 := by grind
   omega
  ·exact ⟨by omega, by omega⟩
theorem kR {n r : Nat} (h1 : r * r ≤ n) (h2 : n < (r + 1) * (r + 1)) : rootN n = r := by
 obtain ⟨g1, g2⟩ := yX n
 rcases Nat.lt_trichotomy (rootN n) r with h | h | h
 ·have := Nat.mul_le_mul (show rootN n + 1 ≤ r from h) (show rootN n + 1 ≤ r from h)
  omega
 ·exact h
 ·have := Nat.mul_le_mul (show r + 1 ≤ rootN n from h) (show r + 1 ≤ rootN n from h)
  omega
theorem xX {n x : Nat} (h : n < (x + 1) * (x + 1)) : rootN n ≤ x := by
 obtain ⟨g1, g2⟩ := yX n
 rcases Nat.lt_or_ge x (rootN n) with h1 | h1
 ·have := Nat.mul_le_mul (show x + 1 ≤ rootN n from h1) (show x + 1 ≤ rootN n from h1)
  omega
 ·exact h1
theorem xJ {n x : Nat} (hx : 0 < x) : rootN n ≤ (x + n / x) / 2 := by
 obtain ⟨g1, g2⟩ := yX n
 rw [Nat.le_div_iff_mul_le (by omega)]
 rcases Nat.lt_or_ge (2 * rootN n) x with h | h
 ·refine Nat.le_trans ?_ (Nat.le_add_right x _)
  omega
 ·have h1 : 2 * rootN n - x ≤ n / x := by
   rw [Nat.le_div_iff_mul_le hx]
   obtain ⟨d, hd⟩ : ∃ d, 2 * rootN n = x + d := ⟨2 * rootN n - x, by omega⟩
   rw [hd, Nat.add_sub_cancel_left]
   have h4 : 4 * (d * x) ≤ (x + d) * (x + d) := by
    rcases Nat.le_total d x with hl | hl
    ·obtain ⟨e, rfl⟩ : ∃ e, x = d + e := ⟨x - d, by omega⟩
     have : (d + e + d) * (d + e + d) = 4 * (d * (d + e)) + e * e := by grind
     omega
    ·obtain ⟨e, rfl⟩ : ∃ e, d = x + e := ⟨d - x, by omega⟩
     have : (x + (x + e)) * (x + (x + e)) = 4 * ((x + e) * x) + e * e := by grind
     omega
   rw [← hd] at h4
   have h5 : 2 * rootN n * (2 * rootN n) = 4 * (rootN n * rootN n) := by grind
   omega
  omega
theorem ko {n x : Nat} (hx : 0 < x) (h : rootN n ≤ x) (he : x ≤ (x + n / x) / 2) : rootN n = x := by
 have h1 : x ≤ n / x := by omega
 have h2 := (Nat.le_div_iff_mul_le hx).1 h1
 obtain ⟨g1, g2⟩ := yX n
 have h3 : x ≤ rootN n := by
  rcases Nat.lt_or_ge (rootN n) x with h4 | h4
  ·have := Nat.mul_le_mul (show rootN n + 1 ≤ x from h4) (show rootN n + 1 ≤ x from h4)
   omega
  ·exact h4
 omega
theorem qS {n : Nat} (h : 0 < n) : 0 < rootN n := by
 obtain ⟨g1, g2⟩ := yX n
 rcases Nat.eq_zero_or_pos (rootN n) with h0 | h0
 ·rw [h0] at g2
  omega
 ·exact h0
theorem ygF {n x : Nat} (hx : 0 < x) (h : n / x ≤ x) : rootN n ≤ x := by
 refine xX ?_
 have h1 : n < (x + 1) * x := by
  rw [← Nat.div_lt_iff_lt_mul hx]
  omega
 have : (x + 1) * (x + 1) = (x + 1) * x + (x + 1) := by grind
 omega
end Go.KI
namespace Go.Proofs.YtklgpilgalfckaaGreatDoor
open Go.RowKit Go.KP Go.KI Go.Shelf
attribute [local go_sem] Oper.semAt_some
theorem ybk (s : ByteArray) (n : Nat) (B : Nat) (w : World) (c1 : chkI s.data.toList = 0) (hs : s.size ≤ 18) (hn : valI s.data.toList = (n : Int)) (h0 : 0 < n) (hB : B ≤ w.heap.size) (hT : P10 B w) :
 Calls Tryz.prog 194 #[.string s] w (Ret w (pairV (Lib.itoa ((rootN n : Nat) : Int)) 0)) := by
 have HT := hide hT
 have H1 := hide (jo s c1 hs w)
 have v1 := yK (n := 18) c1 (by rw [yg]; exact hs) (by omega)
 rw [pow18] at v1
 rw [hn] at v1 H1
 have hn1 : n < 1000000000000000000 := by omega
 clear c1 hs hn v1 hT
 have H0 := hide h0
 go_enter Tryz.func194, Tryz.ntmps194
 go_wp2_with fail
 refine H1.out.mono ?_
 rintro e w1 ⟨rfl, hb1⟩
 have HB1 := hide hb1
 clear hb1 H1
 go_wp2_with fail
 go_loopw [6] (fun a wr => ∃ x : Nat, a = .int .i64 x ∧ 0 < x ∧ x ≤ 2000000000 ∧ wr = w1) (fun a _ => 2000000000 - (intOf a).toNat)
 case atStart => exact ⟨1, rfl, by omega, by omega, rfl⟩
 case round =>
  obtain ⟨x, rfl, hx0, hx1, rfl⟩ := hrel
  have hxq : ((x : Int) == 0) = false := by
   have : (x : Int) ≠ 0 := by omega
   simpa using this
  obtain ⟨q, hq⟩ : ∃ q : Nat, q = n / x := ⟨_, rfl⟩
  have hd : (n : Int) / (x : Int) = (q : Int) := by rw [hq, Int.natCast_ediv]
  have hdl : q ≤ n := by rw [hq]; exact Nat.div_le_self _ _
  have hx2 : x < q → x < 1000000000 := fun hl => by
   rcases Nat.lt_or_ge x 1000000000 with h1 | h1
   ·exact h1
   ·exfalso
    have h2 := (Nat.le_div_iff_mul_le hx0).1 (Nat.le_of_lt (hq ▸ hl))
    have h3 := Nat.mul_le_mul h1 h1
    omega
  have HQ := hide hq; have HX := hide hx2
  clear hq hx2
  by_cases hlt : x < q
  ·have hl : (x : Int) < (q : Int) := by omega
   have hx3 := HX.out hlt
   clear hlt
   go_wp2_with fail
   go_roundw
   case rel => exact ⟨x * 2, rfl, by omega, by omega, trivial⟩
   case measure => simp [intOf]; omega
  ·have hl : ((x : Int) < (q : Int)) = False := eq_false (by omega)
   have HR := hide (ygF (n := n) hx0 (by rw [← HQ.out]; omega))
   clear hlt
   go_wp2_with fail
   clear hd hdl hxq hl HQ HX
   go_loopw [6] (fun a wr2 => ∃ x : Nat, a = .int .i64 x ∧ 0 < x ∧ x ≤ 2000000000 ∧ Hid (rootN n ≤ x) ∧ wr2 = wr) (fun a _ => (intOf a).toNat)
   case atStart => exact ⟨x, rfl, hx0, hx1, HR, rfl⟩
   clear hx0 hx1 HR
   case round =>
    obtain ⟨x, rfl, hx0, hx1, hr, rfl⟩ := hrel
    have hxq : ((x : Int) == 0) = false := by
     have : (x : Int) ≠ 0 := by omega
     simpa using this
    obtain ⟨q, hq⟩ : ∃ q : Nat, q = n / x := ⟨_, rfl⟩
    have hd : (n : Int) / (x : Int) = (q : Int) := by rw [hq, Int.natCast_ediv]
    have hdl : q ≤ n := by rw [hq]; exact Nat.div_le_self _ _
    obtain ⟨y, hy⟩ : ∃ y : Nat, y = (x + q) / 2 := ⟨_, rfl⟩
    have hd2 : ((x : Int) + (q : Int)) / 2 = (y : Int) := by omega
    have HG := hide (xJ (n := n) hx0)
    have HE := hide (ko (n := n) hx0 hr.out)
    rw [← hq, ← hy] at HG HE
    have hyl : y ≤ 600000000000000000 := by omega
    clear hr hq hy
    by_cases hge : x ≤ y
    ·have hg : (x : Int) ≤ (y : Int) := by omega
     have HRE := hide (HE.out hge)
     clear hge
     go_wp2_with fail
     refine (yl x (by omega) (by omega) B _ (HT.out.on HB1.out hB)).mono ?_
     rintro e w3 ⟨rfl, hb3⟩
     have HB3 := bt HB1 hb3
     clear hb3 hd hd2 hg
     go_wp2_with fail
     refine bodyPost_ret (results_tmp2 rfl _ _ _) rfl ?_
     exact ⟨by rw [HRE.out]; rfl, HB3.out⟩
    ·have hg : ((x : Int) ≤ (y : Int)) = False := eq_false (by omega)
     have hyx : y < x := by omega
     have hyp : 0 < y := Nat.lt_of_lt_of_le (qS H0.out) HG.out
     clear hge
     go_wp2_with fail
     go_roundw
     case rel => exact ⟨y, by rw [hd2], hyp, by omega, HG, trivial⟩
     case measure => simp only [intOf]; omega
end Go.Proofs.YtklgpilgalfckaaGreatDoor
namespace Go.KI

def strip (q : Nat) : Nat → Nat → Nat → Nat × Nat
 | 0, c, m => (c, m)
 |f + 1, c, m => if m % (q * q) = 0 then strip q f (c * q) (m / (q * q)) else (c, m)
theorem yiF {q : Nat} (hq : 2 ≤ q) : 4 ≤ q * q := Nat.mul_le_mul hq hq
theorem zh {q m : Nat} (hq : 2 ≤ q) (hm : 0 < m) (h : m % (q * q) = 0) : 0 < m / (q * q) ∧ m / (q * q) < m := by
 have h4 := yiF hq
 have hd := Nat.div_add_mod m (q * q)
 rw [h, Nat.add_zero] at hd
 refine ⟨?_, Nat.div_lt_self hm (by omega)⟩
 rcases Nat.eq_zero_or_pos (m / (q * q)) with h0 | h0
 ·rw [h0, Nat.mul_zero] at hd
  omega
 ·exact h0
theorem yfb {q : Nat} (hq : 2 ≤ q) : ∀ (f g c m : Nat), 0 < m → m ≤ f → m ≤ g → strip q f c m = strip q g c m := by
 intro f
 induction f with
 |zero => intro g c m h0 h1; omega
 |succ f ih =>
  intro g c m h0 h1 h2
  cases g with
  |zero => omega
  |succ g =>
   rw [strip, strip]
   split
   ·next h =>
    obtain ⟨p1, p2⟩ := zh hq h0 h
    exact ih g _ _ p1 (by omega) (by omega)
   ·rfl
def stripD (q c m : Nat) : Nat × Nat := strip q m c m
theorem jz {q c m : Nat} (hq : 2 ≤ q) (hm : 0 < m) (h : m % (q * q) = 0) : stripD q c m = stripD q (c * q) (m / (q * q)) := by
 obtain ⟨p1, p2⟩ := zh hq hm h
 unfold stripD
 obtain ⟨f, rfl⟩ : ∃ f, m = f + 1 := ⟨m - 1, by omega⟩
 rw [strip, if_pos h]
 exact yfb hq _ _ _ _ p1 (by omega) (Nat.le_refl _)
theorem qA {q c m : Nat} (hm : 0 < m) (h : ¬ m % (q * q) = 0) : stripD q c m = (c, m) := by
 unfold stripD
 obtain ⟨f, rfl⟩ : ∃ f, m = f + 1 := ⟨m - 1, by omega⟩
 rw [strip, if_neg h]
theorem yae {q : Nat} (hq : 2 ≤ q) : ∀ (n c m : Nat), m ≤ n → 0 < m → 0 < c → (stripD q c m).1 * (stripD q c m).1 * (stripD q c m).2 = c * c * m ∧ 0 < (stripD q c m).2 ∧ ¬ (stripD q c m).2 % (q * q) = 0 ∧ (stripD q c m).2 ∣ m ∧ 0 < (stripD q c m).1 := by
 intro n
 induction n with
 |zero => intro c m h0 h1; omega
 |succ n ih =>
  intro c m h0 h1 hc
  by_cases h : m % (q * q) = 0
  ·obtain ⟨p1, p2⟩ := zh hq h1 h
   rw [jz hq h1 h]
   obtain ⟨i1, i2, i3, i4, i5⟩ := ih (c * q) (m / (q * q)) (by omega) p1 (Nat.mul_pos hc (by omega))
   have hd := Nat.div_add_mod m (q * q)
   rw [h, Nat.add_zero] at hd
   refine ⟨?_, i2, i3, Nat.dvd_trans i4 (Nat.div_dvd_of_dvd (Nat.dvd_of_mod_eq_zero h)), i5⟩
   rw [i1]
   have : c * c * m = c * c * (q * q * (m / (q * q))) := by rw [hd]
   rw [this]
   grind
  ·rw [qA h1 h]
   exact ⟨rfl, h1, h, Nat.dvd_refl _, hc⟩
def strips : List Nat → Nat → Nat → Nat × Nat
 | [], c, m => (c, m)
 |q :: l, c, m => strips l (stripD q c m).1 (stripD q c m).2
theorem wq : ∀ (l : List Nat) (c m : Nat), (∀ q ∈ l, 2 ≤ q) → 0 < m → 0 < c → (strips l c m).1 * (strips l c m).1 * (strips l c m).2 = c * c * m ∧ 0 < (strips l c m).2 ∧ (∀ q ∈ l, ¬ (strips l c m).2 % (q * q) = 0) ∧ (strips l c m).2 ∣ m ∧ 0 < (strips l c m).1 := by
 intro l
 induction l with
 |nil => intro c m _ hm hc; exact ⟨rfl, hm, by simp, Nat.dvd_refl _, hc⟩
 |cons q l ih =>
  intro c m hl hm hc
  obtain ⟨s1, s2, s3, s4, s5⟩ := yae (hl q (by simp)) m c m (Nat.le_refl _) hm hc
  obtain ⟨i1, i2, i3, i4, i5⟩ := ih (stripD q c m).1 (stripD q c m).2 (fun x hx => hl x (by simp [hx])) s2 s5
  show (strips l _ _).1 * (strips l _ _).1 * (strips l _ _).2 = _ ∧ _
  refine ⟨i1.trans s1, i2, ?_, Nat.dvd_trans i4 s4, i5⟩
  intro x hx
  rcases List.mem_cons.1 hx with rfl | hx
  ·intro h
   exact s3 (Nat.mod_eq_zero_of_dvd (Nat.dvd_trans (Nat.dvd_of_mod_eq_zero h) i4))
  ·exact i3 x hx
def primes25 : List Nat := [2, 3, 5, 7, 11, 13, 17, 19, 23, 29, 31, 37, 41, 43, 47, 53, 59, 61, 67, 71, 73, 79, 83, 89, 97]
def closeN (s : Nat × Nat) : Nat × Nat := if rootN s.2 * rootN s.2 = s.2 then (s.1 * rootN s.2, 1) else s
def normN (m : Nat) : Nat × Nat := closeN (strips primes25 1 m)
theorem yfI {a b t : Nat} (ha : 0 < a) (h : a * a * b = t * t) : ∃ u, u * u = b := by
 have hd : a ^ 2 ∣ t ^ 2 := ⟨b, by rw [Nat.pow_two, Nat.pow_two]; exact h.symm⟩
 obtain ⟨u, rfl⟩ := (Nat.pow_dvd_pow_iff (by omega)).1 hd
 refine ⟨u, ?_⟩
 have h2 : a * a * (u * u) = a * a * b := by rw [h]; grind
 exact Nat.eq_of_mul_eq_mul_left (Nat.mul_pos ha ha) h2
theorem jd {m : Nat} (hm : 0 < m) : (normN m).1 * (normN m).1 * (normN m).2 = m ∧ 0 < (normN m).2 ∧ 0 < (normN m).1 ∧ (∀ q ∈ primes25, ¬ (normN m).2 % (q * q) = 0) ∧ ((normN m).2 = 1 ↔ ∃ t, t * t = m) := by
 obtain ⟨i1, i2, i3, i4, i5⟩ := wq primes25 1 m (by decide) hm (by omega)
 unfold normN closeN
 obtain ⟨s, hs⟩ := xe (strips primes25 1 m)
 rw [← hs] at i1 i2 i3 i4 i5 ⊢
 split
 ·next h =>
  have e : s.1 * rootN s.2 * (s.1 * rootN s.2) = m := by
   have : s.1 * rootN s.2 * (s.1 * rootN s.2) = s.1 * s.1 * (rootN s.2 * rootN s.2) := by grind
   rw [this, h, i1]
   omega
  refine ⟨by show s.1 * rootN s.2 * (s.1 * rootN s.2) * 1 = m; omega, by show 0 < 1; omega, Nat.mul_pos i5 (qS i2), ?_, fun _ => ⟨_, e⟩, fun _ => rfl⟩
  show ∀ q ∈ primes25, ¬ 1 % (q * q) = 0
  decide
 ·next h =>
  refine ⟨by omega, i2, i5, i3, ?_, ?_⟩
  ·intro e
   exfalso
   apply h
   rw [e]
   decide
  ·rintro ⟨t, ht⟩
   exfalso
   obtain ⟨u, hu⟩ := yfI (t := t) i5 (by rw [i1, ht]; omega)
   exact h (by rw [kR (r := u) (by omega) (by have : (u + 1) * (u + 1) = u * u + 2 * u + 1 := by grind
                                              omega)]; exact hu)
theorem yfR : normN 2 = (1, 2) := by decide +kernel
theorem yfw : normN 169 = (13, 1) := by decide +kernel
open Go
theorem prefix45 (l : List UInt8) : Lib.hasPrefix l [45] = (l.head? == some 45) := by
 unfold Lib.hasPrefix
 cases l with
 |nil => rfl
 |cons c r =>
  by_cases h : c = 45
  ·subst h
   rfl
  ·have e1 : (c == 45) = false := by simpa using h
   have e2 : ((45 : UInt8) == c) = false := by simpa using Ne.symm h
   show ((45 : UInt8) == c && true) = (some c == some 45)
   rw [e2]
   show false = (c == 45)
   rw [e1]
theorem qI {q : Rat} : (ratS q).head? = some 45 ↔ q.num < 0 := by
 have h : ∀ z : Int, (Lib.itoa z).head? = some 45 ↔ z < 0 := fun z => by
  rcases yo z with ⟨h1, h⟩ | ⟨h1, h⟩ <;> rw [h]
  ·exact ⟨fun _ => h1, fun _ => rfl⟩
  ·exact ⟨fun e => absurd e (zU _), fun e => by omega⟩
 unfold ratS
 split
 ·exact h _
 ·rw [← h q.num]
  cases hz : Lib.itoa q.num with
  |nil => exact absurd hz (by
      rcases yo q.num with ⟨_, h⟩ | ⟨_, h⟩ <;> rw [h]
      ·simp
      ·exact yw _)
  |cons c r => rfl
end Go.KI
namespace Go.Proofs.YtklgpilgalfckaaGreatDoor
open Go.RowKit Go.KP Go.KI Go.Shelf
attribute [local go_sem] Oper.semAt_some

theorem kM (s : ByteArray) (w : World) :
 Calls Tryz.prog 143 #[.string s] w (fun e w' => e = .returned (.bool (s.data.toList.head? == some 45)) ∧ w' = w) := by
 have H := hide (Tryz.strings_HasPrefix s ⟨#[45]⟩ w)
 obtain ⟨r, hr⟩ := xe (s.data.toList.head? == some 45)
 have e : Lib.hasPrefix s.data.toList (⟨#[45]⟩ : ByteArray).data.toList = r := (prefix45 _).trans hr.symm
 rw [e] at H
 rw [← hr]
 clear hr e
 go_enter Tryz.func143, Tryz.ntmps143
 go_wp2_with fail
 refine H.out.mono ?_
 rintro e w1 ⟨rfl, rfl⟩
 go_wp2_with fail
 go_ret
 exact ⟨rfl, rfl⟩
theorem vZ (s : ByteArray) (h : chkI s.data.toList = 0) (hl : s.size ≤ 17) (w : World) :
 Calls Tryz.prog 92 #[.string s] w (Ret w (.tuple #[.int .i64 (valI s.data.toList), .bool true])) := by
 have H1 := hide (jo s h (by omega) w)
 have e1 : ((17 : Int) < (s.size : Int)) = False := eq_false (by omega)
 obtain ⟨v, hv⟩ := xe (valI s.data.toList)
 rw [← hv] at H1 ⊢
 clear h hv hl
 go_enter Tryz.func92, Tryz.ntmps92
 go_wp2_with fail
 refine H1.out.mono ?_
 rintro e w1 ⟨rfl, hb⟩
 have HB1 := hide hb
 clear hb H1
 go_wp2_with fail
 go_quiet (fail)
 go_wp2_with fail
 refine bodyPost_ret (results_tmp2 rfl _ _ _) rfl ?_
 exact ⟨rfl, below_drewN HB1.out _⟩
theorem yeK (s : ByteArray) (hl : 17 < s.size) (w : World) :
 Calls Tryz.prog 92 #[.string s] w (Ret w (.tuple #[.int .i64 0, .bool false])) := by
 have e1 : (17 : Int) < (s.size : Int) := by omega
 clear hl
 go_enter Tryz.func92, Tryz.ntmps92
 go_wp2_with fail
 refine bodyPost_ret (results_tmp2 rfl _ _ _) rfl ?_
 exact ⟨rfl, Below.refl _ _⟩
theorem yfE {n : Nat} (h0 : 2 ≤ n) (h1 : n < 1000000000000000000) : rootN n ≤ 2 ^ ((Lib.bitLen n + 1) / 2) ∧ 1 ≤ Lib.bitLen n ∧ Lib.bitLen n ≤ 60 := by
 obtain ⟨b1, b2, b3⟩ := Lib.bitLenAux_bounds 64 n (by omega) (by omega)
 obtain ⟨L, hL⟩ := xe (Lib.bitLen n)
 have e : Lib.bitLenAux 64 n = L := hL.symm
 rw [e] at b1 b2 b3
 rw [← hL]
 refine ⟨?_, b1, ?_⟩
 ·obtain ⟨k, hk⟩ := xe ((L + 1) / 2)
  rw [← hk]
  refine xX (Nat.lt_of_lt_of_le b3 ?_)
  have h2 : 2 ^ L ≤ 2 ^ (k + k) := Nat.pow_le_pow_right (by omega) (by omega)
  rw [Nat.pow_add] at h2
  refine Nat.le_trans h2 (Nat.mul_le_mul (by omega) (by omega))
 ·rcases Nat.lt_or_ge 60 L with h | h
  ·have : 2 ^ 60 ≤ 2 ^ (L - 1) := Nat.pow_le_pow_right (by omega) (by omega)
   have h60 : (2 : Nat) ^ 60 = 1152921504606846976 := by decide
   omega
  ·exact h
theorem jH (n : Nat) (hn : n < 1000000000000000000) (w : World) :
 Calls Tryz.prog 145 #[.int .i64 n] w (Ret w (.int .i64 (rootN n))) := by
 by_cases h2 : n < 2
 ·have e : rootN n = n := by
   have : n = 0 ∨ n = 1 := by omega
   rcases this with rfl | rfl <;> rfl
  rw [e]
  have h2i : (n : Int) < 2 := by omega
  clear e h2 hn
  go_enter Tryz.func145, Tryz.ntmps145
  go_wp2_with fail
  go_ret
  exact ⟨rfl, Below.refl _ _⟩
 ·obtain ⟨s1, s2, s3⟩ := yfE (n := n) (by omega) hn
  have HL := hide (Tryz.bits_Len (n : Int) w (by omega) (by omega))
  rw [Int.toNat_natCast] at HL
  obtain ⟨L, hL⟩ := xe (Lib.bitLen n)
  rw [← hL] at s1 s2 s3 HL
  have h2i : ((n : Int) < 2) = False := eq_false (by omega)
  have n0 : (0 : Int) ≤ (n : Int) := by omega
  obtain ⟨k, hk⟩ := xe ((L + 1) / 2)
  have hk1 : ((L : Int) + 1) / 2 = (k : Int) := by omega
  have hk2 : k ≤ 30 := by omega
  have hk3 : 1 ≤ k := by omega
  obtain ⟨X, hX⟩ := xe (2 ^ k)
  rw [← hk, ← hX] at s1
  have hx1 : X ≤ 1073741824 := by
   rw [hX]
   exact Nat.le_trans (Nat.pow_le_pow_right (by omega) hk2) (by decide)
  have hx0 : 0 < X := by rw [hX]; exact Nat.pow_pos (by omega)
  have hsh : ((1 : Int) <<< k) = (X : Int) := by rw [Int.shiftLeft_eq, hX]; simp
  have HR := hide s1
  have H0 := hide h2
  have HX := hide hX
  clear hX s1 h2 hL hk
  go_enter Tryz.func145, Tryz.ntmps145
  go_wp2_with fail
  refine HL.out.mono ?_
  rintro e w1 ⟨rfl, rfl⟩
  clear HL
  go_wp2_with fail
  go_loopw [3] (fun a wr => ∃ x : Nat, a = .int .i64 x ∧ 0 < x ∧ x ≤ 2000000000 ∧ Hid (rootN n ≤ x) ∧ wr = w1) (fun a _ => (intOf a).toNat)
  case atStart =>
   refine ⟨X, ?_, hx0, by omega, HR, rfl⟩
   have hX := HX.out
   have : ((2 : Int) ^ k) = (X : Int) := by rw [hX]; simp
   rw [this]
   have e : wrap64 (X : Int) = (X : Int) := by unfold wrap64; omega
   rw [e]
  case round =>
   obtain ⟨x, rfl, hx0, hx1, hr, rfl⟩ := hrel
   have hxq : ((x : Int) == 0) = false := by
    have : (x : Int) ≠ 0 := by omega
    simpa using this
   obtain ⟨q, hq⟩ : ∃ q : Nat, q = n / x := ⟨_, rfl⟩
   have hd : (n : Int) / (x : Int) = (q : Int) := by rw [hq, Int.natCast_ediv]
   have hdl : q ≤ n := by rw [hq]; exact Nat.div_le_self _ _
   obtain ⟨y, hy⟩ : ∃ y : Nat, y = (x + q) / 2 := ⟨_, rfl⟩
   have hd2 : ((x : Int) + (q : Int)) / 2 = (y : Int) := by omega
   have HG := hide (xJ (n := n) hx0)
   have HE := hide (ko (n := n) hx0 hr.out)
   rw [← hq, ← hy] at HG HE
   have hyl : y ≤ 600000000000000000 := by omega
   clear hr hq hy
   by_cases hge : x ≤ y
   ·have hg : (x : Int) ≤ (y : Int) := by omega
    have HRE := hide (HE.out hge)
    clear hge
    go_wp2_with fail
    go_ret
    exact ⟨by rw [HRE.out]; rfl, Below.refl _ _⟩
   ·have hg : ((x : Int) ≤ (y : Int)) = False := eq_false (by omega)
    have hyx : y < x := by omega
    have hyp : 0 < y := Nat.lt_of_lt_of_le (qS (by have := H0.out; omega)) HG.out
    clear hge
    go_wp2_with fail
    go_roundw
    case rel => exact ⟨y, by rw [hd2], hyp, by omega, HG, trivial⟩
    case measure => simp only [intOf]; omega
end Go.Proofs.YtklgpilgalfckaaGreatDoor
namespace Go.KI
open Go

theorem yd0 (b : Nat) (l : List Nat) (k : Nat) (h : k ≤ l.length) : lv b l = lvT b l k + b ^ k * lv b (l.drop k) := by
 unfold lvT
 conv => lhs; rw [← List.take_append_drop k l]
 rw [wh, List.length_take, Nat.min_eq_left h]
theorem qo (l : List Nat) (j i : Nat) : lat (l.drop j) i = lat l (j + i) := by
 unfold lat
 rw [List.getElem?_drop]
theorem vL {b : Nat} {l : List Nat} (h : Lt b l) (j : Nat) : Lt b (l.drop j) := fun x hx => h x (List.mem_of_mem_drop hx)
theorem yfC {b : Nat} {l : List Nat} (h : Lt b l) (j : Nat) : Lt b (l.take j) := fun x hx => h x (List.mem_of_mem_take hx)
theorem yix {b : Nat} (hb : 0 < b) : ∀ {x y : List Nat}, Lt b x → Lt b y → x.length = y.length → lv b x = lv b y → x = y := by
 intro x
 induction x with
 |nil => intro y _ _ hl _; exact (List.eq_nil_of_length_eq_zero hl.symm).symm
 |cons a r ih =>
  intro y hx hy hl hv
  cases y with
  |nil => simp at hl
  |cons c s =>
   simp only [lv] at hv
   have ha := hx a (by simp)
   have hc := hy c (by simp)
   have h1 : a = c := by
    have e1 : (a + b * lv b r) % b = a := by rw [Nat.add_mul_mod_self_left, Nat.mod_eq_of_lt ha]
    have e2 : (c + b * lv b s) % b = c := by rw [Nat.add_mul_mod_self_left, Nat.mod_eq_of_lt hc]
    rw [← e1, hv, e2]
   subst h1
   have h2 : lv b r = lv b s := Nat.eq_of_mul_eq_mul_left hb (Nat.add_left_cancel hv)
   rw [ih (fun z hz => hx z (List.mem_cons_of_mem _ hz)) (fun z hz => hy z (List.mem_cons_of_mem _ hz)) (by simpa using hl) h2]
theorem ycG {b : Nat} {l : List Nat} {n V : Nat} (hn : n ≤ l.length) (h : lv b l < V) (hV : V ≤ b ^ n) : lv b (l.drop n) = 0 ∧ lv b l = lvT b l n := by
 have h1 := yd0 b l n hn
 have h2 : lv b (l.drop n) = 0 := by
  rcases Nat.eq_zero_or_pos (lv b (l.drop n)) with h3 | h3
  ·exact h3
  ·have : b ^ n * 1 ≤ b ^ n * lv b (l.drop n) := Nat.mul_le_mul_left _ h3
   omega
 rw [h2] at h1
 exact ⟨h2, by omega⟩
structure WinEq (j n : Nat) (L M : List Nat) : Prop where
 len : M.length = L.length
 low : M.take j = L.take j
 high : M.drop (j + n) = L.drop (j + n)
theorem WinEq.refl (j n : Nat) (L : List Nat) : WinEq j n L L := ⟨rfl, rfl, rfl⟩
theorem WinEq.trans {j n : Nat} {a c d : List Nat} (h : WinEq j n a c) (k : WinEq j n c d) : WinEq j n a d := ⟨k.len.trans h.len, k.low.trans h.low, k.high.trans h.high⟩
theorem WinEq.set {j n : Nat} {L M : List Nat} (h : WinEq j n L M) {i : Nat} (hi : i < n) (v : Nat) : WinEq j n L (M.set (j + i) v) := by
 refine ⟨by rw [List.length_set]; exact h.len, ?_, ?_⟩
 ·rw [← h.low, List.take_set_of_le (by omega)]
 ·rw [← h.high, List.drop_set_of_lt (by omega)]
theorem ybT (L : List Nat) (j i v : Nat) : (L.set (j + i) v).drop j = (L.drop j).set i v := by
 rw [List.drop_set, if_neg (by omega)]
 congr 1
 omega
theorem ycC {b : Nat} {L : List Nat} {i v : Nat} : lvT b (L.set i v) i = lvT b L i := by
 unfold lvT
 rw [List.take_set_of_le (Nat.le_refl _)]
theorem yc2 {b : Nat} {M : List Nat} {j i v : Nat} (hi : j + i < M.length) : lvT b ((M.set (j + i) v).drop j) (i + 1) = lvT b (M.drop j) i + b ^ i * v := by
 rw [ybT, yy, ycC, wL (by rw [List.length_drop]; omega), if_pos rfl]
theorem ybp {L M : List Nat} {j i : Nat} (h : M.drop (j + i) = L.drop (j + i)) : lat M (j + i) = lat L (j + i) := by
 have h1 := qo M (j + i) 0
 have h2 := qo L (j + i) 0
 rw [Nat.add_zero] at h1 h2
 rw [← h1, ← h2, h]
theorem jB {L M : List Nat} {j i v : Nat} (h : M.drop (j + i) = L.drop (j + i)) : (M.set (j + i) v).drop (j + (i + 1)) = L.drop (j + (i + 1)) := by
 rw [List.drop_set_of_lt (by omega), show j + (i + 1) = (j + i) + 1 by omega]
 have h1 := congrArg (List.drop 1) h
 simpa only [List.drop_drop] using h1

theorem ycf {b i q o c c2 n x y X Y : Nat} (h : o + q * Y = X + b ^ i * c) (h2 : n + c + q * y = x + b * c2) : (o + b ^ i * n) + q * (Y + b ^ i * y) = (X + b ^ i * x) + b ^ (i + 1) * c2 := by
 rw [Nat.pow_succ]
 have h3 : b ^ i * (n + c + q * y) = b ^ i * (x + b * c2) := by rw [h2]
 grind
theorem yff {b i q o c c2 n x y X Y : Nat} (h : o + b ^ i * c = X + q * Y) (h2 : x + q * y + c = n + b * c2) : (o + b ^ i * n) + b ^ (i + 1) * c2 = (X + b ^ i * x) + q * (Y + b ^ i * y) := by
 rw [Nat.pow_succ]
 have h3 : b ^ i * (x + q * y + c) = b ^ i * (n + b * c2) := by rw [h2]
 grind
theorem ygH {b j n q V : Nat} (hb : 0 < b) {L M R : List Nat} {c c2 : Nat} (hL : Lt b L) (hR : Lt b R) (h1 : WinEq j n L M) (h2 : WinEq j n M R)
 (e1 : lvT b (M.drop j) n + q * V = lvT b (L.drop j) n + b ^ n * c) (e2 : lvT b (R.drop j) n + b ^ n * c2 = lvT b (M.drop j) n + q * V) : R = L := by
 have h3 := h1.trans h2
 have b1 := xI hb (vL hL j) n
 have b2 := xI hb (vL hR j) n
 have e3 : lvT b (R.drop j) n + b ^ n * c2 = lvT b (L.drop j) n + b ^ n * c := by rw [e2, e1]
 have e4 : lvT b (R.drop j) n = lvT b (L.drop j) n := by
  have f1 : (lvT b (R.drop j) n + b ^ n * c2) % b ^ n = lvT b (R.drop j) n := by rw [Nat.add_mul_mod_self_left, Nat.mod_eq_of_lt b2]
  have f2 : (lvT b (L.drop j) n + b ^ n * c) % b ^ n = lvT b (L.drop j) n := by rw [Nat.add_mul_mod_self_left, Nat.mod_eq_of_lt b1]
  rw [← f1, e3, f2]
 have e5 : (R.drop j).take n = (L.drop j).take n := by
  refine yix hb (yfC (vL hR j) n) (yfC (vL hL j) n) ?_ e4
  rw [List.length_take, List.length_take, List.length_drop, List.length_drop, h3.len]
 have k1 : R = R.take j ++ ((R.drop j).take n ++ R.drop (j + n)) := by rw [← List.drop_drop, List.take_append_drop, List.take_append_drop]
 have k2 : L = L.take j ++ ((L.drop j).take n ++ L.drop (j + n)) := by rw [← List.drop_drop, List.take_append_drop, List.take_append_drop]
 rw [k1, k2, h3.low, h3.high, e5]
theorem yie {b : Nat} (hb : 0 < b) {l : List Nat} (h : Lt b l) (n : Nat) : lvT b l (n + 3) < b ^ n * (lat l n + b * lat l (n + 1) + b * (b * lat l (n + 2)) + 1) := by
 have h0 := xI hb h n
 have h1 : lvT b l (n + 3) = lvT b l n + b ^ n * (lat l n + b * lat l (n + 1) + b * (b * lat l (n + 2))) := by
  have p1 : b ^ (n + 1) = b ^ n * b := Nat.pow_succ ..
  have p2 : b ^ (n + 2) = b ^ n * b * b := by rw [show n + 2 = n + 1 + 1 from rfl, Nat.pow_succ, Nat.pow_succ]
  rw [yy, yy, yy, p1, p2]
  generalize b ^ n = P
  have e1 : P * (b * (b * lat l (n + 2))) = P * b * b * lat l (n + 2) := by rw [← Nat.mul_assoc, ← Nat.mul_assoc]
  have e2 : P * (b * lat l (n + 1)) = P * b * lat l (n + 1) := by rw [← Nat.mul_assoc]
  rw [Nat.mul_add, Nat.mul_add, e1, e2]
  omega
 rw [h1, Nat.mul_add _ _ 1, Nat.mul_one]
 omega
theorem yhY {b : Nat} (l : List Nat) (n : Nat) : b ^ n * (lat l n + b * lat l (n + 1)) ≤ lvT b l (n + 2) := by
 rw [yy, yy, Nat.pow_succ]
 generalize b ^ n = P
 have : P * (lat l n + b * lat l (n + 1)) = P * lat l n + P * b * lat l (n + 1) := by grind
 omega
theorem yh0 {b : Nat} (hb : 0 < b) {l : List Nat} (h : Lt b l) (n : Nat) : lvT b l (n + 1) < b ^ n * (lat l n + 1) := by
 rw [yy, Nat.mul_add, Nat.mul_one]
 have := xI hb h n
 omega
theorem yfd {P b q r t v1 v2 u0 U V : Nat} (hU : U < P * (t * b + u0 + 1)) (hV : P * (v2 + b * v1) ≤ V) (hqr : q * v1 + r = t) (hgt : r * b + u0 < q * v2) : U < q * V := by
 have h1 : t * b + u0 + 1 ≤ q * (v2 + b * v1) := by
  have : t * b = q * v1 * b + r * b := by rw [← hqr, Nat.add_mul]
  have : q * (v2 + b * v1) = q * v2 + q * v1 * b := by grind
  omega
 have h2 : P * (t * b + u0 + 1) ≤ P * (q * (v2 + b * v1)) := Nat.mul_le_mul_left _ h1
 have h3 : P * (q * (v2 + b * v1)) = q * (P * (v2 + b * v1)) := by grind
 have h4 : q * (P * (v2 + b * v1)) ≤ q * V := Nat.mul_le_mul_left _ hV
 omega
theorem yfQ {P b t v1 u0 U V : Nat} (hv : 0 < v1) (hu : u0 < b) (hU : U < P * (t * b + u0 + 1)) (hV : P * (b * v1) ≤ V) : U < (t / v1 + 1) * V := by
 have h1 := Nat.div_add_mod t v1
 have h2 := Nat.mod_lt t hv
 have h3 : t * b + u0 + 1 ≤ (t / v1 + 1) * (b * v1) := by
  have e : (t / v1 + 1) * (b * v1) = (v1 * (t / v1) + v1) * b := by grind
  have : (t + 1) * b ≤ (v1 * (t / v1) + v1) * b := Nat.mul_le_mul_right _ (by omega)
  have : (t + 1) * b = t * b + b := by grind
  omega
 have h4 : P * (t * b + u0 + 1) ≤ P * ((t / v1 + 1) * (b * v1)) := Nat.mul_le_mul_left _ h3
 have h5 : P * ((t / v1 + 1) * (b * v1)) = (t / v1 + 1) * (P * (b * v1)) := by grind
 have h6 : (t / v1 + 1) * (P * (b * v1)) ≤ (t / v1 + 1) * V := Nat.mul_le_mul_left _ hV
 omega
theorem yf9 {b j V U S S2 q Q : Nat} {T : Nat} (h : T + b ^ (j + 1) * (S + V * Q) = U) (x : Nat) (h2 : x + b * S = S2 + V * q) : ∀ T2, T = T2 + b ^ j * x → T2 + b ^ j * (S2 + V * (q + b * Q)) = U := by
 intro T2 hT
 rw [← h, hT, Nat.pow_succ]
 have : b ^ j * (x + b * S) = b ^ j * (S2 + V * q) := by rw [h2]
 grind
theorem yaY (m1 m2 : Bool) {a b : Nat} (hb : 0 < b) :
 ((m1 = m2 ∨ a % b = 0) → valS (!(m1 == m2)) (a / b) = (valS m1 a).fdiv (valS m2 b) ∧ valS m2 (a % b) = (valS m1 a).fmod (valS m2 b)) ∧
 (m1 ≠ m2 → a % b ≠ 0 → valS (!(m1 == m2)) (a / b + 1) = (valS m1 a).fdiv (valS m2 b) ∧ valS m2 (b - a % b) = (valS m1 a).fmod (valS m2 b)) := by
 have h1 := Nat.div_add_mod a b
 have h2 := Nat.mod_lt a hb
 obtain ⟨q, hq⟩ := xe (a / b)
 obtain ⟨r, hr⟩ := xe (a % b)
 rw [← hq, ← hr] at h1 ⊢
 rw [← hr] at h2
 clear hq hr
 have h3 : (b : Int) * (q : Int) + (r : Int) = (a : Int) := by rw [← h1]; simp
 have h4 : -(b : Int) * (q : Int) = -((b : Int) * q) := Int.neg_mul ..
 have h5 : (b : Int) * -(q : Int) = -((b : Int) * q) := Int.mul_neg ..
 have h6 : -(b : Int) * -(q : Int) = (b : Int) * q := Int.neg_mul_neg ..
 have h7 : (b : Int) * -((q + 1 : Nat) : Int) = -((b : Int) * q) - b := by rw [Int.mul_neg, Int.natCast_add, Int.mul_add, Int.natCast_one, Int.mul_one]; omega
 have h8 : -(b : Int) * ((q + 1 : Nat) : Int) = -((b : Int) * q) - b := by rw [Int.neg_mul, Int.natCast_add, Int.mul_add, Int.natCast_one, Int.mul_one]; omega
 have hbp : (0 : Int) < (b : Int) := by omega
 have hbn : -(b : Int) < 0 := by omega
 constructor
 ·intro h
  cases m1 <;> cases m2 <;> simp only [valS, Bool.false_eq_true, if_false, if_true, beq_self_eq_true, Bool.not_true, show (false == true) = false from rfl, show (true == false) = false from rfl, Bool.not_false]
  ·have := (Int.fdiv_fmod_unique (a := (a : Int)) (r := (r : Int)) (q := (q : Int)) hbp).2 ⟨by omega, by omega, by omega⟩
   exact ⟨this.1.symm, this.2.symm⟩
  ·have h0 : r = 0 := by simpa using h
   have := (Int.fdiv_fmod_unique' (a := (a : Int)) (r := -(r : Int)) (q := -(q : Int)) hbn).2 ⟨by omega, by omega, by omega⟩
   exact ⟨this.1.symm, this.2.symm⟩
  ·have h0 : r = 0 := by simpa using h
   have := (Int.fdiv_fmod_unique (a := -(a : Int)) (r := (r : Int)) (q := -(q : Int)) hbp).2 ⟨by omega, by omega, by omega⟩
   exact ⟨this.1.symm, this.2.symm⟩
  ·have := (Int.fdiv_fmod_unique' (a := -(a : Int)) (r := -(r : Int)) (q := (q : Int)) hbn).2 ⟨by omega, by omega, by omega⟩
   exact ⟨this.1.symm, this.2.symm⟩
 ·intro hm h0
  cases m1 <;> cases m2 <;> simp only [valS, Bool.false_eq_true, if_false, if_true, beq_self_eq_true, Bool.not_true, show (false == true) = false from rfl, show (true == false) = false from rfl, Bool.not_false]
  ·exact absurd rfl hm
  ·have := (Int.fdiv_fmod_unique' (a := (a : Int)) (r := -((b - r : Nat) : Int)) (q := -((q + 1 : Nat) : Int)) hbn).2 ⟨by rw [Int.neg_mul_neg, Int.natCast_add, Int.mul_add, Int.natCast_one, Int.mul_one]; omega, by omega, by omega⟩
   exact ⟨this.1.symm, this.2.symm⟩
  ·have := (Int.fdiv_fmod_unique (a := -(a : Int)) (r := ((b - r : Nat) : Int)) (q := -((q + 1 : Nat) : Int)) hbp).2 ⟨by omega, by omega, by omega⟩
   exact ⟨this.1.symm, this.2.symm⟩
  ·exact absurd rfl hm
theorem vF {x y : Int} (hy : y ≠ 0) : (x.fdiv y).natAbs ≤ x.natAbs := by
 have h := Int.mul_fdiv_add_fmod x y
 have hr : (y < 0 → y < x.fmod y ∧ x.fmod y ≤ 0) ∧ (0 < y → 0 ≤ x.fmod y ∧ x.fmod y < y) := by
  constructor
  ·intro hn
   exact ((Int.fdiv_fmod_unique' (a := x) (r := x.fmod y) (q := x.fdiv y) hn).1 ⟨rfl, rfl⟩).2
  ·intro hp
   exact ((Int.fdiv_fmod_unique (a := x) (r := x.fmod y) (q := x.fdiv y) hp).1 ⟨rfl, rfl⟩).2
 obtain ⟨q, hq⟩ := xe (x.fdiv y)
 obtain ⟨r, hr2⟩ := xe (x.fmod y)
 rw [← hq, ← hr2] at h
 rw [← hr2] at hr
 rw [← hq]
 clear hq hr2
 rcases Nat.eq_zero_or_pos q.natAbs with h0 | h0
 ·omega
 have e : (y * q).natAbs = y.natAbs * q.natAbs := Int.natAbs_mul ..
 have e2 : y.natAbs + q.natAbs ≤ y.natAbs * q.natAbs + 1 := by
  obtain ⟨s, hs⟩ : ∃ s, y.natAbs = s + 1 := ⟨y.natAbs - 1, by omega⟩
  obtain ⟨t, ht⟩ : ∃ t, q.natAbs = t + 1 := ⟨q.natAbs - 1, by omega⟩
  rw [hs, ht]
  have : (s + 1) * (t + 1) = s * t + s + t + 1 := by grind
  omega
 omega
theorem yas {x y : Int} (hy : y ≠ 0) : (x.fmod y).natAbs < y.natAbs := by
 rcases Int.lt_or_gt_of_ne hy with hn | hp
 ·have := ((Int.fdiv_fmod_unique' (a := x) (r := x.fmod y) (q := x.fdiv y) hn).1 ⟨rfl, rfl⟩).2
  omega
 ·have := ((Int.fdiv_fmod_unique (a := x) (r := x.fmod y) (q := x.fdiv y) hp).1 ⟨rfl, rfl⟩).2
  omega
def EstAt (v1 T S W q r : Nat) : Prop := q * v1 + r = T ∧ S < (q + 1) * W
structure EstIn (b v1 v2 x0 x1 u0 S W : Nat) : Prop where
 pos : 0 < v1
 x0le : x0 ≤ v1
 x1lt : x1 < b
 u0lt : u0 < b
 small : S < b * W
 high : ∃ P, S < P * ((x0 * b + x1) * b + u0 + 1) ∧ P * (v2 + b * v1) ≤ W
theorem EstIn.of {b : Nat} (hb : 0 < b) {L V : List Nat} (hL : Lt b L) (hV : Norm b V) {j m : Nat} (hm : V.length = m + 2) (hn : j + (m + 2) < L.length) (h : lv b (L.drop (j + 1)) < lv b V) :
 EstIn b (lat V (m + 1)) (lat V m) (lat L (j + (m + 2))) (lat L (j + (m + 1))) (lat L (j + m)) (lvT b (L.drop j) (m + 3)) (lv b V) ∧ lv b (L.drop j) = lvT b (L.drop j) (m + 3) := by
 have hVl : lv b V < b ^ (m + 2) := by rw [← hm]; exact xB hV.lt
 have hz := ycG (b := b) (l := L.drop (j + 1)) (n := m + 2) (by rw [List.length_drop]; omega) h (Nat.le_of_lt hVl)
 have hdd : (L.drop j).drop (m + 3) = (L.drop (j + 1)).drop (m + 2) := by
  rw [List.drop_drop, List.drop_drop]
  congr 1
  omega
 have hcut := yd0 b (L.drop j) (m + 3) (by rw [List.length_drop]; omega)
 rw [hdd, hz.1, Nat.mul_zero, Nat.add_zero] at hcut
 have hne : V ≠ [] := fun e => by rw [e] at hm; simp at hm
 have ht := hV.top.resolve_left hne
 rw [hm, show m + 2 - 1 = m + 1 by omega] at ht
 have hVt : lvT b V (m + 2) = lv b V := zo (by omega)
 have hS : lvT b (L.drop j) (m + 3) < b * lv b V := by
  have h1 : lv b (L.drop j) = lat L j + b * lv b (L.drop (j + 1)) := by
   rw [List.drop_eq_getElem_cons (show j < L.length by omega)]
   show L[j] + b * lv b (L.drop (j + 1)) = _
   rw [xv (show j < L.length by omega)]
  have h2 := yF hb hL j
  have h3 : b * (lv b (L.drop (j + 1)) + 1) ≤ b * lv b V := Nat.mul_le_mul_left b h
  rw [Nat.mul_add, Nat.mul_one] at h3
  omega
 refine ⟨⟨by omega, ?_, yF hb hL _, yF hb hL _, hS, b ^ m, ?_, ?_⟩, hcut⟩
 ·have h1 := yh0 hb hV.lt (m + 1)
  rw [hVt] at h1
  have h2 : b ^ (m + 1) * lat (L.drop (j + 1)) (m + 1) ≤ lvT b (L.drop (j + 1)) (m + 2) := by
   rw [yy]
   omega
  rw [qo, show j + 1 + (m + 1) = j + (m + 2) by omega] at h2
  have h3 : b ^ (m + 1) * lat L (j + (m + 2)) < b ^ (m + 1) * (lat V (m + 1) + 1) := by
   rw [← hz.2] at h2
   omega
  have h4 := Nat.lt_of_mul_lt_mul_left h3
  omega
 ·have h1 := yie hb (vL hL j) m
  rw [qo, qo, qo] at h1
  have e : (lat L (j + (m + 2)) * b + lat L (j + (m + 1))) * b + lat L (j + m) + 1 = lat L (j + m) + b * lat L (j + (m + 1)) + b * (b * lat L (j + (m + 2))) + 1 := by grind
  rw [e]
  exact h1
 ·have h1 := yhY (b := b) V m
  rw [hVt] at h1
  exact h1
theorem EstIn.start {b v1 v2 x0 x1 u0 S W : Nat} (h : EstIn b v1 v2 x0 x1 u0 S W) : EstAt v1 (x0 * b + x1) S W ((x0 * b + x1) / v1) ((x0 * b + x1) % v1) ∧ (x0 * b + x1) / v1 < 2 * b := by
 obtain ⟨P, h1, h2⟩ := h.high
 refine ⟨⟨?_, ?_⟩, ?_⟩
 ·rw [Nat.mul_comm]
  exact Nat.div_add_mod _ _
 ·refine yfQ h.pos h.u0lt h1 (Nat.le_trans (Nat.mul_le_mul_left P ?_) h2)
  omega
 ·rw [Nat.div_lt_iff_lt_mul h.pos]
  have h3 : x0 * b ≤ v1 * b := Nat.mul_le_mul_right b h.x0le
  have h4 : 1 * b ≤ v1 * b := Nat.mul_le_mul_right b h.pos
  have h5 : 2 * b * v1 = v1 * b + v1 * b := by grind
  have := h.x1lt
  omega
theorem EstIn.down {b v1 v2 x0 x1 u0 S W q r : Nat} (h : EstIn b v1 v2 x0 x1 u0 S W) (ha : EstAt v1 (x0 * b + x1) S W q r) (hq : b ≤ q ∨ r * b + u0 < q * v2) (h1 : 1 ≤ q) : EstAt v1 (x0 * b + x1) S W (q - 1) (r + v1) := by
 obtain ⟨k, rfl⟩ : ∃ k, q = k + 1 := ⟨q - 1, by omega⟩
 rw [Nat.add_sub_cancel]
 have e : (k + 1) * v1 = k * v1 + v1 := by rw [Nat.add_mul, Nat.one_mul]
 refine ⟨by have := ha.1; omega, ?_⟩
 rcases hq with hq | hq
 ·exact Nat.lt_of_lt_of_le h.small (Nat.mul_le_mul_right W hq)
 ·obtain ⟨P, g1, g2⟩ := h.high
  exact yfd g1 g2 ha.1 hq
theorem EstIn.stop {b v1 v2 x0 x1 u0 S W q r : Nat} (h : EstIn b v1 v2 x0 x1 u0 S W) (ha : EstAt v1 (x0 * b + x1) S W q r) (hr : b ≤ r) : q < b := by
 rcases Nat.lt_or_ge q b with h1 | h1
 ·exact h1
 ·have h2 : b * v1 ≤ q * v1 := Nat.mul_le_mul_right v1 h1
  have h3 : x0 * b ≤ v1 * b := Nat.mul_le_mul_right b h.x0le
  have h4 : v1 * b = b * v1 := Nat.mul_comm ..
  have := ha.1
  have := h.x1lt
  omega
end Go.KI
