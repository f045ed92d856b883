/-
  Texts laid together.
-/
import Derived.Test.YtfcjaljaomknjaaGreatDoorMF4
import Derived.Test.YtfcjaljaomknjaaGreatDoorMF3
import Derived.Lib.IndexMore
set_option maxRecDepth 100000
set_option maxHeartbeats 4000000
namespace Go.Proofs.YtfcjaljaomknjaaGreatDoor
open Go.RowKit Go.KP Go.KI Go.Shelf
attribute [local go_sem] Oper.semAt_some

theorem qdigits_any (s : ByteArray) (hs : s.size ≤ 1000000) (w : World) :
    Calls Tryz.prog 221 #[.string s] w (Ret w (.int .i64 (digN s.data.toList : Nat))) := by
  obtain ⟨L, hL⟩ : ∃ L, L = (lead s.data.toList).length := ⟨_, rfl⟩
  have hLs : L ≤ s.size := by rw [hL, ← bytes_len]; exact lead_le _
  have HLE := hide hL
  clear hL
  go_enter Tryz.func221, Tryz.ntmps221
  go_wp2_with fail
  go_loopw [3] (fun i wr => ∃ k : Nat, k ≤ L ∧ i = .int .i64 k ∧ wr = w) (fun i _ => s.size - (intOf i).toNat)
  case atStart => exact ⟨0, by omega, rfl, rfl⟩
  case round =>
    obtain ⟨k, hkL, rfl, rfl⟩ := hrel
    by_cases hkl : k < L
    · have hlt : k < s.size := by omega
      have hki : (k : Int) < (s.size : Int) := by omega
      have hk0 : (0 : Int) ≤ (k : Int) := by omega
      obtain ⟨c, hc, hcd⟩ := lead_at (l := s.data.toList) (k := k) (by rw [← HLE.out]; exact hkl)
      have hat : s.data.toList[k]? = some (s[k]'hlt) := by
        have h1 : s.data.toList[k]? = some s.data[k] := by simp
        exact h1
      obtain ⟨y, hyv⟩ : ∃ y : Nat, y = (s[k]'hlt).toNat := ⟨_, rfl⟩
      have hyv2 : (s[k]'hlt).toNat = y := hyv.symm
      have hdg : 48 ≤ y ∧ y ≤ 57 := by
        rw [hat] at hc
        injection hc with hc
        rw [hyv, hc]
        exact isDg_iff.1 hcd
      have y0 : (48 : Int) ≤ (y : Int) := by omega
      have y1 : (y : Int) ≤ 57 := by omega
      clear hat hyv hdg hc hcd
      go_wp2_with fail
      go_roundw
      case rel => exact ⟨k + 1, by omega, by go_num, trivial⟩
      case measure => simp [intOf]; omega
    · have hkL2 : k = L := by omega
      have hstop : ((k : Int) < (s.size : Int)) = False ∨ (∃ h : k < s.size, ∃ y : Nat, (s[k]'h).toNat = y ∧ (y < 48 ∨ 57 < y)) := by
        by_cases h1 : k < s.size
        · obtain ⟨c, hc⟩ : ∃ c, s[k]'h1 = c := ⟨_, rfl⟩
          have hat : s.data.toList[k]? = some c := by
            have h3 : s.data.toList[k]? = some s.data[k] := by simp
            rw [h3]
            exact congrArg some hc
          have hat2 : s.data.toList[(lead s.data.toList).length]? = some c := by rw [← HLE.out, ← hkL2]; exact hat
          have h4 := lead_end hat2
          have h5 : ¬ (48 ≤ c.toNat ∧ c.toNat ≤ 57) := fun h => by
            have h6 := isDg_iff.2 h
            rw [h4] at h6
            cases h6
          exact .inr ⟨h1, c.toNat, by rw [hc], by omega⟩
        · exact .inl (eq_false (by omega))
      have hres : (((1 : Int) < (k : Int)) = False ∧ digN s.data.toList = k) ∨ (∃ h : 0 < s.size, (1 : Int) < (k : Int) ∧ (((s[0]'h).toNat : Int) == 48) = true ∧ digN s.data.toList = 0) ∨ (∃ h : 0 < s.size, (1 : Int) < (k : Int) ∧ (((s[0]'h).toNat : Int) == 48) = false ∧ digN s.data.toList = k) := by
        unfold digN
        rw [← HLE.out, ← hkL2]
        by_cases h : 1 < k
        · have hp : 0 < s.size := by omega
          have hh : s.data.toList.head? = some (s[0]'hp) := by
            have h3 : s.data.toList[0]? = some s.data[0] := by simp
            rw [List.head?_eq_getElem?]
            exact h3
          by_cases h48 : s[0]'hp = 48
          · exact .inr (.inl ⟨hp, by omega, by rw [h48]; rfl, if_pos ⟨h, by rw [hh, h48]⟩⟩)
          · refine .inr (.inr ⟨hp, by omega, ?_, if_neg (fun h2 => ?_)⟩)
            · have : (s[0]'hp).toNat ≠ 48 := fun e => h48 (UInt8.toNat_inj.1 e)
              simp only [beq_eq_false_iff_ne, ne_eq]
              omega
            · rw [hh] at h2
              have h3 := h2.2
              injection h3 with h3
              exact h48 h3
        · exact .inl ⟨eq_false (by omega), if_neg (fun h2 => h h2.1)⟩
      clear hkl hkL2
      have hk0 : (0 : Int) ≤ (k : Int) := by omega
      rcases hstop with h1 | ⟨h1, y, hy, h3⟩
      case' inr =>
        have h1i : (k : Int) < (s.size : Int) := by omega
        rcases h3 with h3 | h3
        case' inl => have h4 : ((48 : Int) ≤ (y : Int)) = False := eq_false (by omega)
        case' inr =>
          have h4 : (48 : Int) ≤ (y : Int) := by omega
          have h5 : ((y : Int) ≤ 57) = False := eq_false (by omega)
      all_goals
        rcases hres with ⟨r0, r2⟩ | ⟨hp, r0, r1, r2⟩ | ⟨hp, r0, r1, r2⟩
      all_goals have HR := hide r2
      all_goals clear r2
      all_goals
        go_wp2_with fail
        go_ret
        rw [HR.out]
        exact ⟨rfl, Below.refl _ _⟩
open Go.RowKit Go.KP Go.KI Go.Shelf
attribute [local go_sem] Oper.semAt_some

abbrev natV (n d : Int) : Value := .agg #[.int .i64 n, .int .i64 d]
abbrev natO (n d : Int) : Obj := .cells #[.int .i64 n, .int .i64 d] 152
theorem tdiv_natc (a b : Nat) : (a : Int).tdiv (b : Int) = ((a / b : Nat) : Int) := by
  rw [Int.tdiv_eq_ediv_of_nonneg (by omega), Int.natCast_ediv]
theorem nat_quo {n : Int} {g : Nat} (h : (g : Int) ∣ n) : n.tdiv (g : Int) = n / (g : Int) := Int.tdiv_eq_ediv_of_dvd h
theorem itoa_short {z : Int} (h : z.natAbs < 100000000000000000) : (strB (Lib.itoa z)).size ≤ 18 := by
  rw [strB_size]
  have h1 := (dec_len_le (u := z.natAbs) (n := 17) (by omega)).2 (by simpa using h)
  rcases itoa_cases z with ⟨_, h2⟩ | ⟨_, h2⟩ <;> rw [h2]
  · rw [List.length_cons]
    omega
  · omega
theorem nnumber_any (n d : Int) (hn : n.natAbs < 100000000000000000) (hd : d.natAbs < 100000000000000000) (h0 : d ≠ 0) (B : Nat) (w : World) (hB : B ≤ w.heap.size) (hT : P10 B w) :
    Calls Tryz.prog 194 #[natV n d] w (Ret w (.string (strB (ratS (Rat.divInt n d))))) := by
  have HT := hide hT
  obtain ⟨b0, bs0, bb0⟩ := heap1 w (natO n d)
  have P0 := hide b0; have PB := hide bb0
  have k0 := cell_blk b0 0
  have k1 := cell_blk b0 1
  have f0 := froz_blk b0 0
  have f1 := froz_blk b0 1
  have hsz := lt_blk b0
  obtain ⟨N, D, hND, hsign⟩ : ∃ (N : Int) (D : Nat), Rat.divInt n d = Rat.divInt N D ∧ ((d < 0 ∧ N = -n ∧ (D : Int) = -d) ∨ ((d < 0) = False ∧ N = n ∧ (D : Int) = d)) := by
    rcases Int.lt_or_lt_of_ne h0 with h | h
    · exact ⟨-n, d.natAbs, by rw [show ((d.natAbs : Nat) : Int) = -d by omega, Rat.neg_divInt_neg], .inl ⟨h, rfl, by omega⟩⟩
    · exact ⟨n, d.natAbs, by rw [show ((d.natAbs : Nat) : Int) = d by omega], .inr ⟨eq_false (by omega), rfl, by omega⟩⟩
  rw [hND]
  have hDp : 0 < D := by rcases hsign with ⟨h1, h2, h3⟩ | ⟨h1, h2, h3⟩ <;> omega
  have hDl : D < 100000000000000000 := by rcases hsign with ⟨h1, h2, h3⟩ | ⟨h1, h2, h3⟩ <;> omega
  have hNl : N.natAbs < 100000000000000000 := by rcases hsign with ⟨h1, h2, h3⟩ | ⟨h1, h2, h3⟩ <;> omega
  obtain ⟨g, hg⟩ : ∃ g, g = Nat.gcd N.natAbs D := ⟨_, rfl⟩
  have hgp : 0 < g := by rw [hg]; exact Nat.gcd_pos_of_pos_right _ hDp
  have hgl : g ≤ D := by rw [hg]; exact Nat.gcd_le_right _ hDp
  have hgn : (g : Int) ∣ N := by rw [hg]; exact Int.ofNat_dvd_left.2 (Nat.gcd_dvd_left _ _)
  obtain ⟨Nq, hNq⟩ : ∃ Nq : Int, Nq = N / (g : Int) := ⟨_, rfl⟩
  obtain ⟨Dq, hDq⟩ : ∃ Dq : Nat, Dq = D / g := ⟨_, rfl⟩
  have q1 : N.tdiv (g : Int) = Nq := by rw [nat_quo hgn, hNq]
  have q2 : (D : Int) / (g : Int) = (Dq : Int) := by rw [hDq, Int.natCast_ediv]
  have q3 : (D : Int).tdiv (g : Int) = (Dq : Int) := by rw [tdiv_natc, hDq]
  have nq0 := hide q1; have dq0 := hide q2
  have HTX := hide (show ratS (Rat.divInt N D) = if Dq = 1 then Lib.itoa Nq else Lib.itoa Nq ++ 47 :: Lib.itoa (Dq : Int) by
    have h := ratS_of (n := N) (d := (D : Int)) (by omega)
    rw [Int.natAbs_natCast, ← hg, ← hNq, q2] at h
    rw [h]
    by_cases h1 : Dq = 1
    · rw [if_pos h1, if_pos (by omega)]
    · rw [if_neg h1, if_neg (by omega)])
  have hmx : max N (-N) = ((N.natAbs : Nat) : Int) := by omega
  have hNql : Nq.natAbs ≤ N.natAbs := by rw [hNq]; exact Int.natAbs_ediv_le_natAbs _ _
  have hDql : Dq ≤ D := by rw [hDq]; exact Nat.div_le_self _ _
  have HG := hide (fun w => qgcd_any N.natAbs D (by omega) (by omega) w)
  rw [← hg] at HG
  have hg0 : ((g : Int) == 0) = false := by
    simp only [beq_eq_false_iff_ne, ne_eq]
    omega
  clear hNq hDq hg hgn hND b0 bb0 hT
  obtain ⟨tx, htx⟩ : ∃ tx, tx = strB (ratS (Rat.divInt N D)) := ⟨_, rfl⟩
  rw [← htx]
  have HX := hide htx
  clear htx
  have H1 := hide (heap1 w (natO N D))
  rcases hsign with ⟨h1, h2, h3⟩ | ⟨h1, h2, h3⟩
  case' inl =>
    have e1 : -n = N := h2.symm
    have e2 : -d = (D : Int) := h3.symm
    have MX := hide hmx
    clear h2 h3 q2 q3 hmx q1
    go_enter Tryz.func194, Tryz.ntmps194
    go_wp2_with fail
    clear e1 e2
  case' inr =>
    subst h2
    subst h3
    have MX := hide hmx
    clear q2 q3 hmx q1
    go_enter Tryz.func194, Tryz.ntmps194
    go_wp2_with fail
  all_goals
    rw [MX.out]
    refine (HG.out _).mono ?_
    rintro e w1 ⟨rfl, hb1⟩
    have G1 := hide (below_blk hb1 H1.out.1 (lt_blk H1.out.1))
    have HB1 := hide (H1.out.2.2.trans (hb1.mono H1.out.2.2.size))
    have c0 := cell_blk G1.out 0
    have c1 := cell_blk G1.out 1
    have hlt1 := lt_blk G1.out
    have q1 : N.tdiv (g : Int) = Nq := nq0.out
    have q2 : (D : Int) / (g : Int) = (Dq : Int) := dq0.out
    clear hb1 k0 k1 f0 f1
    go_wp2_with fail
    go_quiet (fail)
    have HB2 := hide (below_drewN HB1.out nq)
    clear q1 q2 c0 c1 hg0
    by_cases hd1 : Dq = 1
    · have hde : ((Dq : Int) == 1) = true := by rw [hd1]; rfl
      have HE := hide (show tx = strB (Lib.itoa Nq) by rw [HX.out, HTX.out, if_pos hd1])
      clear hd1
      go_wp2_with fail
      refine (itoa_any Nq (by omega) (by omega) B _ (HT.out.on HB2.out hB)).mono ?_
      rintro e w3 ⟨rfl, hb3⟩
      have HB3 := hide (HB2.out.trans (hb3.mono HB2.out.size))
      clear hb3
      go_wp2_with fail
      go_ret
      rw [HE.out]
      exact ⟨rfl, HB3.out⟩
    · have hde : ((Dq : Int) == 1) = false := by
        simp only [beq_eq_false_iff_ne, ne_eq]
        omega
      have s1 := itoa_short (z := Nq) (by omega)
      have s2 := itoa_short (z := (Dq : Int)) (by omega)
      have HE := hide (show tx = strB (Lib.itoa Nq) ++ ⟨#[47]⟩ ++ strB (Lib.itoa (Dq : Int)) by
        rw [HX.out, HTX.out, if_neg hd1]
        apply bytes_eq
        simp [strB])
      have I1 := hide (fun w h => itoa_any Nq (by omega) (by omega) B w h)
      have I2 := hide (fun w h => itoa_any (Dq : Int) (by omega) (by omega) B w h)
      obtain ⟨t1, ht1⟩ : ∃ t, t = strB (Lib.itoa Nq) := ⟨_, rfl⟩
      obtain ⟨t2, ht2⟩ : ∃ t, t = strB (Lib.itoa (Dq : Int)) := ⟨_, rfl⟩
      rw [← ht1] at s1 HE I1
      rw [← ht2] at s2 HE I2
      have v1 : (9223372036854775807 < t1.size + 1) = False := eq_false (by omega)
      have v2 : (9223372036854775807 < t1.size + 1 + t2.size) = False := eq_false (by omega)
      clear hd1 ht1 ht2
      go_wp2_with fail
      refine (I1.out _ (HT.out.on HB2.out hB)).mono ?_
      rintro e w3 ⟨rfl, hb3⟩
      have HB3 := hide (HB2.out.trans (hb3.mono HB2.out.size))
      clear hb3
      go_wp2_with fail
      refine (I2.out _ (HT.out.on HB3.out hB)).mono ?_
      rintro e w4 ⟨rfl, hb4⟩
      have HB4 := hide (HB3.out.trans (hb4.mono HB3.out.size))
      clear hb4
      go_wp2_with fail
      go_ret
      rw [HE.out]
      exact ⟨rfl, HB4.out⟩
end Go.Proofs.YtfcjaljaomknjaaGreatDoor
namespace Go.KI
open Go

def allDg (l : List UInt8) : Prop := l ≠ [] ∧ ∀ c ∈ l, isDg c = true
instance (l : List UInt8) : Decidable (allDg l) := inferInstanceAs (Decidable (_ ∧ _))
def ahead (c : UInt8) (l : List UInt8) : List UInt8 := l.takeWhile (fun x => x != c)
def behind (c : UInt8) (l : List UInt8) : List UInt8 := (l.dropWhile (fun x => x != c)).drop 1
theorem cut_at {c : UInt8} {a b : List UInt8} (h : ∀ x ∈ a, x ≠ c) : ahead c (a ++ c :: b) = a ∧ behind c (a ++ c :: b) = b ∧ c ∈ a ++ c :: b := by
  obtain ⟨h1, h2⟩ := tw_all (p := fun x => x != c) (a := a) (b := c :: b) (fun x hx => by simpa using h x hx)
  refine ⟨?_, ?_, by simp⟩
  · unfold ahead; rw [h1]; simp
  · unfold behind; rw [h2]; simp
theorem cut_not {c : UInt8} {a : List UInt8} (h : ¬ c ∈ a) : ahead c a = a := by
  obtain ⟨h1, _⟩ := tw_all (p := fun x => x != c) (a := a) (b := []) (fun x hx => by
    have : x ≠ c := fun e => h (by rw [← e]; exact hx)
    simpa using this)
  unfold ahead
  simpa using h1
def sgn (neg : Bool) (x : Rat) : Rat := if neg then -x else x
def isNeg (l : List UInt8) : Bool := decide (l.head? = some 45)
def own (m : Int) (p : Nat) : List UInt8 := List.replicate (p + 1 - (Lib.decDigits m.natAbs).length) 48 ++ Lib.decDigits m.natAbs
def decT (m : Int) (p : Nat) : List UInt8 :=
  (if m < 0 then [45] else []) ++ (if p = 0 then Lib.decDigits m.natAbs else (own m p).take ((own m p).length - p) ++ 46 :: (own m p).drop ((own m p).length - p))
theorem own_len (m : Int) (p : Nat) : p + 1 ≤ (own m p).length := by
  unfold own
  rw [List.length_append, List.length_replicate]
  omega
open Go

theorem split_eq {c : UInt8} : ∀ {l : List UInt8}, c ∈ l → l = ahead c l ++ c :: behind c l := by
  intro l
  induction l with
  | nil => intro h; simp at h
  | cons x r ih =>
    intro h
    by_cases hx : x = c
    · simp [ahead, behind, hx]
    · have h1 : (x != c) = true := by simpa using hx
      have h2 : c ∈ r := by simpa [Ne.symm hx] using h
      have h3 := ih h2
      unfold ahead behind at h3 ⊢
      simp only [List.takeWhile_cons, List.dropWhile_cons, h1, if_true, List.cons_append]
      rw [← h3]
theorem ahead_ne {c : UInt8} (l : List UInt8) : ∀ x ∈ ahead c l, x ≠ c := by
  intro x hx
  unfold ahead at hx
  induction l with
  | nil => simp at hx
  | cons y r ih =>
    by_cases h : (y != c) = true
    · simp only [List.takeWhile_cons, h, if_true, List.mem_cons] at hx
      rcases hx with h1 | h1
      · rw [h1]; simpa using h
      · exact ih h1
    · simp [h] at hx
theorem lib_cut (c : UInt8) (l : List UInt8) : Lib.cut l [c] = if c ∈ l then (ahead c l, behind c l, true) else (l, [], false) := by
  unfold Lib.cut
  by_cases h : c ∈ l
  · have e := split_eq h
    have hna := ahead_ne (c := c) l
    rw [if_pos h]
    obtain ⟨a, ha⟩ : ∃ a, a = ahead c l := ⟨_, rfl⟩
    obtain ⟨b, hb⟩ : ∃ b, b = behind c l := ⟨_, rfl⟩
    rw [← ha] at e hna ⊢
    rw [← hb] at e ⊢
    clear ha hb h
    subst e
    have hi : Lib.index (a ++ c :: b) [c] = (a.length : Int) := by
      refine Lib.index_first (by simp) ?_ ?_
      · unfold Lib.occAt
        rw [List.drop_left]
        simp
      · intro j hj
        cases ho : Lib.occAt (a ++ c :: b) [c] j with
        | false => rfl
        | true =>
          have h1 := Lib.occAt_head rfl ho
          rw [List.getElem?_append_left hj] at h1
          exact absurd rfl (hna c (List.mem_of_getElem? h1))
    rw [hi, if_pos (by omega), Int.toNat_natCast]
    have e2 : (a ++ c :: b).drop (a.length + [c].length) = b := by
      rw [List.drop_append]
      simp
    rw [List.take_left, e2]
  · rw [if_neg h, if_neg]
    intro hn
    have hnone : Lib.index l [c] = -1 := Lib.index_none (fun j _ => by
      cases ho : Lib.occAt l [c] j with
      | false => rfl
      | true => exact absurd (List.mem_of_getElem? (Lib.occAt_head rfl ho)) h)
    omega
end Go.KI
namespace Go.Proofs.YtfcjaljaomknjaaGreatDoor
open Go.RowKit Go.KP Go.KI Go.Shelf
attribute [local go_sem] Oper.semAt_some

structure PQ (B : Nat) (w : World) : Prop where
  p10 : P10 B w
  lt : 0 < B
  len : ∃ m, w.cell? ⟨0, 0, none⟩ = some (.int .i64 m)
theorem PQ.on {B n : Nat} {w w2 : World} (h : PQ B w) (hb : Below n w w2) (hB : B ≤ n) : PQ B w2 := by
  refine ⟨h.p10.on hb hB, h.lt, ?_⟩
  obtain ⟨m, hm⟩ := h.len
  have := h.lt
  exact ⟨m, (hb.cell (p := ⟨0, 0, none⟩) (show 0 < n by omega)).trans hm⟩
theorem PQ.mono {B B2 : Nat} {w : World} (h : PQ B w) (hB : B ≤ B2) : PQ B2 w := ⟨h.p10.mono hB, Nat.lt_of_lt_of_le h.lt hB, h.len⟩
theorem scut_any (c : UInt8) (s : ByteArray) (hl : s.size ≤ 1000000) (B : Nat) (w : World) (hT : PQ B w) :
    Calls Tryz.prog 46 #[.string s, .string ⟨#[c]⟩] w (Ret w (.tuple #[.string (strB (KI.ahead c s.data.toList)), .string (strB (if c ∈ s.data.toList then KI.behind c s.data.toList else [])), .bool (decide (c ∈ s.data.toList))])) := by
  obtain ⟨m, hm⟩ := hT.len
  refine (Tryz.strings_Cut s ⟨#[c]⟩ m w (by omega) hm).mono ?_
  rintro e w' ⟨he, n, rfl⟩
  have e1 : Lib.cut s.data.toList (⟨#[c]⟩ : ByteArray).data.toList = Lib.cut s.data.toList [c] := rfl
  rw [e1, lib_cut] at he
  refine ⟨?_, below_drewN (Below.refl _ _) n⟩
  rw [he]
  by_cases h : c ∈ s.data.toList
  · simp [h, strB]
  · rw [cut_not h]
    simp [h, strB]
abbrev partsV (n d : ByteArray) : Value := .agg #[.string n, .string d]
abbrev partsO (n d : ByteArray) : Obj := .cells #[.string n, .string d] 156
theorem exit_cut {R : Ending → World → Prop} {a : Act} {W : World} {b : Nat} {n d : ByteArray} {ok : Bool} (hb : W.heap[b]? = some (partsO n d)) (h2 : a.tmps[2]? = some (.pointer (some ⟨b, 0, none⟩))) (h3 : a.tmps[3]? = some (.bool ok)) (hd : a.defers = []) (hR : R (.returned (.tuple #[partsV n d, .bool ok])) W) :
    bodyPost Tryz.prog Tryz.f199 R .ret a W := by
  have hcell := fun o => cell_blk hb o
  refine bodyPost_ret ?_ hd hR
  simp [results, go_sem, hcell, h2, h3]
theorem exit_cutSet {R : Ending → World → Prop} {a : Act} {W : World} {b : Nat} {n d u0 u1 : ByteArray} {ok : Bool} (hb : W.heap[b]? = some (partsO u0 u1)) (h2 : a.tmps[2]? = some (.pointer (some ⟨b, 0, none⟩))) (h3 : a.tmps[3]? = some (.bool ok)) (hd : a.defers = [])
    (hR : Below b W ((W.setCell ⟨b, 0, none⟩ (.string n)).setCell ⟨b, 1, none⟩ (.string d)) → R (.returned (.tuple #[partsV n d, .bool ok])) ((W.setCell ⟨b, 0, none⟩ (.string n)).setCell ⟨b, 1, none⟩ (.string d))) :
    bodyPost Tryz.prog Tryz.f199 R .ret a ((W.setCell ⟨b, 0, none⟩ (.string n)).setCell ⟨b, 1, none⟩ (.string d)) := by
  obtain ⟨s1, s2⟩ := set2 hb (.string n) (.string d)
  exact exit_cut s1 h2 h3 hd (hR s2)
theorem exit_readQ {R : Ending → World → Prop} {a : Act} {W : World} {b : Nat} {n d : ByteArray} {z : Int} (hb : W.heap[b]? = some (partsO n d)) (h2 : a.tmps[2]? = some (.pointer (some ⟨b, 0, none⟩))) (h3 : a.tmps[3]? = some (.int .i64 z)) (hd : a.defers = []) (hR : R (.returned (.tuple #[partsV n d, .int .i64 z])) W) :
    bodyPost Tryz.prog Tryz.f157 R .ret a W := by
  have hcell := fun o => cell_blk hb o
  refine bodyPost_ret ?_ hd hR
  simp [results, go_sem, hcell, h2, h3]
theorem exit_readQSet {R : Ending → World → Prop} {a : Act} {W : World} {b : Nat} {n d u0 u1 : ByteArray} {z : Int} (hb : W.heap[b]? = some (partsO u0 u1)) (h2 : a.tmps[2]? = some (.pointer (some ⟨b, 0, none⟩))) (h3 : a.tmps[3]? = some (.int .i64 z)) (hd : a.defers = [])
    (hR : Below b W ((W.setCell ⟨b, 0, none⟩ (.string n)).setCell ⟨b, 1, none⟩ (.string d)) → R (.returned (.tuple #[partsV n d, .int .i64 z])) ((W.setCell ⟨b, 0, none⟩ (.string n)).setCell ⟨b, 1, none⟩ (.string d))) :
    bodyPost Tryz.prog Tryz.f157 R .ret a ((W.setCell ⟨b, 0, none⟩ (.string n)).setCell ⟨b, 1, none⟩ (.string d)) := by
  obtain ⟨s1, s2⟩ := set2 hb (.string n) (.string d)
  exact exit_readQ s1 h2 h3 hd (hR s2)
theorem beq0 {k : Nat} : (k = 0 → ((k : Int) == 0) = true) ∧ (k ≠ 0 → ((k : Int) == 0) = false) := by
  constructor
  · intro h; rw [h]; rfl
  · intro h
    simp only [beq_eq_false_iff_ne, ne_eq]
    omega
theorem lit_eq {s : ByteArray} {l m : List UInt8} (h : s.data.toList = l) : (l = m → (s.toList == m) = true) ∧ (l ≠ m → (s.toList == m) = false) := by
  rw [ByteArray.toList_eq, h]
  exact ⟨fun e => by rw [e]; simp, fun e => by simpa using e⟩
theorem itoa_len (z : Int) : (Lib.itoa z).length ≤ (Lib.decDigits z.natAbs).length + 1 := by
  rcases itoa_cases z with ⟨_, h⟩ | ⟨_, h⟩ <;> rw [h]
  · rw [List.length_cons]
    omega
  · omega
theorem fits_size {s : ByteArray} {z : Int} (h : s.data.toList = Lib.itoa z) (hf : fits z) : s.size ≤ 301 := by
  have h1 := itoa_len z
  have h2 := fits_len.1 hf
  rw [← bytes_len, h]
  omega
theorem itoa_head (z : Int) : (Lib.itoa z).head? = some 45 ↔ z < 0 := by
  rcases itoa_cases z with ⟨h1, h⟩ | ⟨h1, h⟩ <;> rw [h]
  · exact ⟨fun _ => h1, fun _ => rfl⟩
  · exact ⟨fun e => absurd e (dec_head45 _), fun e => by omega⟩
theorem itoa_is_one (z : Int) : Lib.itoa z = [49] ↔ z = 1 := by
  constructor
  · intro h
    have := val_itoa z
    rw [h] at this
    exact this.symm.trans (by decide)
  · intro h
    rw [h, show (1 : Int) = ((1 : Nat) : Int) from rfl, Lib.itoa_nonneg, one_dec]
end Go.Proofs.YtfcjaljaomknjaaGreatDoor
