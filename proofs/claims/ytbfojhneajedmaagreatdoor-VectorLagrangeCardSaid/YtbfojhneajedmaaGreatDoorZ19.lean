/-
  Texts of the integers, laid together: Ps, Zn, Zb, Zd.
-/
import Derived.Test.YtbfojhneajedmaaGreatDoorZ6
import Derived.Test.YtbfojhneajedmaaGreatDoorZ10
import Derived.Test.YtbfojhneajedmaaGreatDoorZ12
namespace Go.KI

/-- The whole root. -/
def rootN : Nat → Nat
  | 0 => 0
  | n + 1 => if (rootN n + 1) * (rootN n + 1) ≤ n + 1 then rootN n + 1 else rootN n
theorem rootN_spec : ∀ n, rootN n * rootN n ≤ n ∧ n < (rootN n + 1) * (rootN n + 1) := by
  intro n
  induction n with
  | zero => exact ⟨Nat.le_refl _, by show 0 < (0 + 1) * (0 + 1); decide⟩
  | succ n ih =>
    rw [rootN]
    split
    · refine ⟨by assumption, ?_⟩
      have : (rootN n + 1 + 1) * (rootN n + 1 + 1) = (rootN n + 1) * (rootN n + 1) + 2 * (rootN n + 1) + 1 := by grind
      omega
    · exact ⟨by omega, by omega⟩
theorem rootN_eq {n r : Nat} (h1 : r * r ≤ n) (h2 : n < (r + 1) * (r + 1)) : rootN n = r := by
  obtain ⟨g1, g2⟩ := rootN_spec n
  rcases Nat.lt_trichotomy (rootN n) r with h | h | h
  · have := Nat.mul_le_mul (show rootN n + 1 ≤ r from h) (show rootN n + 1 ≤ r from h)
    omega
  · exact h
  · have := Nat.mul_le_mul (show r + 1 ≤ rootN n from h) (show r + 1 ≤ rootN n from h)
    omega
theorem root_le_of {n x : Nat} (h : n < (x + 1) * (x + 1)) : rootN n ≤ x := by
  obtain ⟨g1, g2⟩ := rootN_spec n
  rcases Nat.lt_or_ge x (rootN n) with h1 | h1
  · have := Nat.mul_le_mul (show x + 1 ≤ rootN n from h1) (show x + 1 ≤ rootN n from h1)
    omega
  · exact h1
/-- Newton's step stays at or above the root. -/
theorem newton_ge {n x : Nat} (hx : 0 < x) : rootN n ≤ (x + n / x) / 2 := by
  obtain ⟨g1, g2⟩ := rootN_spec n
  rw [Nat.le_div_iff_mul_le (by omega)]
  rcases Nat.lt_or_ge (2 * rootN n) x with h | h
  · refine Nat.le_trans ?_ (Nat.le_add_right x _)
    omega
  · have h1 : 2 * rootN n - x ≤ n / x := by
      rw [Nat.le_div_iff_mul_le hx]
      obtain ⟨d, hd⟩ : ∃ d, 2 * rootN n = x + d := ⟨2 * rootN n - x, by omega⟩
      rw [hd, Nat.add_sub_cancel_left]
      have h4 : 4 * (d * x) ≤ (x + d) * (x + d) := by
        rcases Nat.le_total d x with hl | hl
        · obtain ⟨e, rfl⟩ : ∃ e, x = d + e := ⟨x - d, by omega⟩
          have : (d + e + d) * (d + e + d) = 4 * (d * (d + e)) + e * e := by grind
          omega
        · obtain ⟨e, rfl⟩ : ∃ e, d = x + e := ⟨d - x, by omega⟩
          have : (x + (x + e)) * (x + (x + e)) = 4 * ((x + e) * x) + e * e := by grind
          omega
      rw [← hd] at h4
      have h5 : 2 * rootN n * (2 * rootN n) = 4 * (rootN n * rootN n) := by grind
      omega
    omega
/-- Where Newton's step no longer falls, the root is there. -/
theorem newton_end {n x : Nat} (hx : 0 < x) (h : rootN n ≤ x) (he : x ≤ (x + n / x) / 2) : rootN n = x := by
  have h1 : x ≤ n / x := by omega
  have h2 := (Nat.le_div_iff_mul_le hx).1 h1
  obtain ⟨g1, g2⟩ := rootN_spec n
  have h3 : x ≤ rootN n := by
    rcases Nat.lt_or_ge (rootN n) x with h4 | h4
    · have := Nat.mul_le_mul (show rootN n + 1 ≤ x from h4) (show rootN n + 1 ≤ x from h4)
      omega
    · exact h4
  omega
theorem root_pos {n : Nat} (h : 0 < n) : 0 < rootN n := by
  obtain ⟨g1, g2⟩ := rootN_spec n
  rcases Nat.eq_zero_or_pos (rootN n) with h0 | h0
  · rw [h0] at g2
    omega
  · exact h0
theorem start_ge {n x : Nat} (hx : 0 < x) (h : n / x ≤ x) : rootN n ≤ x := by
  refine root_le_of ?_
  have h1 : n < (x + 1) * x := by
    rw [← Nat.div_lt_iff_lt_mul hx]
    omega
  have : (x + 1) * (x + 1) = (x + 1) * x + (x + 1) := by grind
  omega
end Go.KI
namespace Go.Proofs.YtbfojhneajedmaaGreatDoor
open Go.RowKit Go.KP Go.KI Go.Shelf
attribute [local go_sem] Oper.semAt_some
theorem tdiv_nat (a b : Nat) : (a : Int).tdiv (b : Int) = ((a / b : Nat) : Int) := by
  rw [Int.tdiv_eq_ediv_of_nonneg (by omega), Int.natCast_ediv]
set_option maxRecDepth 100000 in
set_option maxHeartbeats 2000000 in
theorem smallRoot_any (s : ByteArray) (n : Nat) (B : Nat) (w : World) (c1 : chkI s.data.toList = 0) (hs : s.size ≤ 18) (hn : valI s.data.toList = (n : Int)) (h0 : 0 < n) (hB : B ≤ w.heap.size) (hT : P10 B w) :
    Calls Tryz.prog 246 #[.string s] w (Ret w (pairV (Lib.itoa ((rootN n : Nat) : Int)) 0)) := by
  have HT := hide hT
  have H1 := hide (atoi_any s c1 hs w)
  have v1 := short_val (n := 18) c1 (by rw [bytes_len]; exact hs) (by omega)
  rw [pow18] at v1
  rw [hn] at v1 H1
  have hn1 : n < 1000000000000000000 := by omega
  clear c1 hs hn v1 hT
  have H0 := hide h0
  go_enter Tryz.func246, Tryz.ntmps246
  go_wp2_with fail
  refine H1.out.mono ?_
  rintro e w1 ⟨rfl, hb1⟩
  have HB1 := hide hb1
  clear hb1 H1
  go_wp2_with fail
  go_loopw [6] (fun a wr => ∃ x : Nat, a = .int .i64 x ∧ 0 < x ∧ x ≤ 2000000000 ∧ wr = w1) (fun a _ => 2000000000 - (intOf a).toNat)
  case atStart => exact ⟨1, rfl, by omega, by omega, rfl⟩
  case round =>
    obtain ⟨x, rfl, hx0, hx1, rfl⟩ := hrel
    have hxq : ((x : Int) == 0) = false := by
      have : (x : Int) ≠ 0 := by omega
      simpa using this
    obtain ⟨q, hq⟩ : ∃ q : Nat, q = n / x := ⟨_, rfl⟩
    have hd : (n : Int) / (x : Int) = (q : Int) := by rw [hq, Int.natCast_ediv]
    have hdl : q ≤ n := by rw [hq]; exact Nat.div_le_self _ _
    have hx2 : x < q → x < 1000000000 := fun hl => by
      rcases Nat.lt_or_ge x 1000000000 with h1 | h1
      · exact h1
      · exfalso
        have h2 := (Nat.le_div_iff_mul_le hx0).1 (Nat.le_of_lt (hq ▸ hl))
        have h3 := Nat.mul_le_mul h1 h1
        omega
    have HQ := hide hq; have HX := hide hx2
    clear hq hx2
    by_cases hlt : x < q
    · have hl : (x : Int) < (q : Int) := by omega
      have hx3 := HX.out hlt
      clear hlt
      go_wp2_with fail
      go_roundw
      case rel => exact ⟨x * 2, rfl, by omega, by omega, trivial⟩
      case measure => simp [intOf]; omega
    · have hl : ((x : Int) < (q : Int)) = False := eq_false (by omega)
      have HR := hide (start_ge (n := n) hx0 (by rw [← HQ.out]; omega))
      clear hlt
      go_wp2_with fail
      clear hd hdl hxq hl HQ HX
      go_loopw [6] (fun a wr2 => ∃ x : Nat, a = .int .i64 x ∧ 0 < x ∧ x ≤ 2000000000 ∧ Hid (rootN n ≤ x) ∧ wr2 = wr) (fun a _ => (intOf a).toNat)
      case atStart => exact ⟨x, rfl, hx0, hx1, HR, rfl⟩
      clear hx0 hx1 HR
      case round =>
        obtain ⟨x, rfl, hx0, hx1, hr, rfl⟩ := hrel
        have hxq : ((x : Int) == 0) = false := by
          have : (x : Int) ≠ 0 := by omega
          simpa using this
        obtain ⟨q, hq⟩ : ∃ q : Nat, q = n / x := ⟨_, rfl⟩
        have hd : (n : Int) / (x : Int) = (q : Int) := by rw [hq, Int.natCast_ediv]
        have hdl : q ≤ n := by rw [hq]; exact Nat.div_le_self _ _
        obtain ⟨y, hy⟩ : ∃ y : Nat, y = (x + q) / 2 := ⟨_, rfl⟩
        have hd2 : ((x : Int) + (q : Int)) / 2 = (y : Int) := by omega
        have HG := hide (newton_ge (n := n) hx0)
        have HE := hide (newton_end (n := n) hx0 hr.out)
        rw [← hq, ← hy] at HG HE
        have hyl : y ≤ 600000000000000000 := by omega
        clear hr hq hy
        by_cases hge : x ≤ y
        · have hg : (x : Int) ≤ (y : Int) := by omega
          have HRE := hide (HE.out hge)
          clear hge
          go_wp2_with fail
          refine (itoa_any x (by omega) (by omega) B _ (HT.out.on HB1.out hB)).mono ?_
          rintro e w3 ⟨rfl, hb3⟩
          have HB3 := hide (HB1.out.trans (hb3.mono HB1.out.size))
          clear hb3 hd hd2 hg
          go_wp2_with fail
          refine bodyPost_ret (results_tmp2 rfl _ _ _) rfl ?_
          exact ⟨by rw [HRE.out]; rfl, HB3.out⟩
        · have hg : ((x : Int) ≤ (y : Int)) = False := eq_false (by omega)
          have hyx : y < x := by omega
          have hyp : 0 < y := Nat.lt_of_lt_of_le (root_pos H0.out) HG.out
          clear hge
          go_wp2_with fail
          go_roundw
          case rel => exact ⟨y, by rw [hd2], hyp, by omega, HG, trivial⟩
          case measure => simp only [intOf]; omega
end Go.Proofs.YtbfojhneajedmaaGreatDoor
namespace Go.KI

/-- Takes a prime's square out of m as often as it divides it; c gathers the primes. -/
def strip (q : Nat) : Nat → Nat → Nat → Nat × Nat
  | 0, c, m => (c, m)
  | f + 1, c, m => if m % (q * q) = 0 then strip q f (c * q) (m / (q * q)) else (c, m)
theorem sq_ge {q : Nat} (hq : 2 ≤ q) : 4 ≤ q * q := Nat.mul_le_mul hq hq
theorem strip_less {q m : Nat} (hq : 2 ≤ q) (hm : 0 < m) (h : m % (q * q) = 0) : 0 < m / (q * q) ∧ m / (q * q) < m := by
  have h4 := sq_ge hq
  have hd := Nat.div_add_mod m (q * q)
  rw [h, Nat.add_zero] at hd
  refine ⟨?_, Nat.div_lt_self hm (by omega)⟩
  rcases Nat.eq_zero_or_pos (m / (q * q)) with h0 | h0
  · rw [h0, Nat.mul_zero] at hd
    omega
  · exact h0
theorem strip_more {q : Nat} (hq : 2 ≤ q) : ∀ (f g c m : Nat), 0 < m → m ≤ f → m ≤ g → strip q f c m = strip q g c m := by
  intro f
  induction f with
  | zero => intro g c m h0 h1; omega
  | succ f ih =>
    intro g c m h0 h1 h2
    cases g with
    | zero => omega
    | succ g =>
      rw [strip, strip]
      split
      · next h =>
        obtain ⟨p1, p2⟩ := strip_less hq h0 h
        exact ih g _ _ p1 (by omega) (by omega)
      · rfl
def stripD (q c m : Nat) : Nat × Nat := strip q m c m
theorem stripD_step {q c m : Nat} (hq : 2 ≤ q) (hm : 0 < m) (h : m % (q * q) = 0) : stripD q c m = stripD q (c * q) (m / (q * q)) := by
  obtain ⟨p1, p2⟩ := strip_less hq hm h
  unfold stripD
  obtain ⟨f, rfl⟩ : ∃ f, m = f + 1 := ⟨m - 1, by omega⟩
  rw [strip, if_pos h]
  exact strip_more hq _ _ _ _ p1 (by omega) (Nat.le_refl _)
theorem stripD_stop {q c m : Nat} (hm : 0 < m) (h : ¬ m % (q * q) = 0) : stripD q c m = (c, m) := by
  unfold stripD
  obtain ⟨f, rfl⟩ : ∃ f, m = f + 1 := ⟨m - 1, by omega⟩
  rw [strip, if_neg h]
theorem stripD_spec {q : Nat} (hq : 2 ≤ q) : ∀ (n c m : Nat), m ≤ n → 0 < m → 0 < c → (stripD q c m).1 * (stripD q c m).1 * (stripD q c m).2 = c * c * m ∧ 0 < (stripD q c m).2 ∧ ¬ (stripD q c m).2 % (q * q) = 0 ∧ (stripD q c m).2 ∣ m ∧ 0 < (stripD q c m).1 := by
  intro n
  induction n with
  | zero => intro c m h0 h1; omega
  | succ n ih =>
    intro c m h0 h1 hc
    by_cases h : m % (q * q) = 0
    · obtain ⟨p1, p2⟩ := strip_less hq h1 h
      rw [stripD_step hq h1 h]
      obtain ⟨i1, i2, i3, i4, i5⟩ := ih (c * q) (m / (q * q)) (by omega) p1 (Nat.mul_pos hc (by omega))
      have hd := Nat.div_add_mod m (q * q)
      rw [h, Nat.add_zero] at hd
      refine ⟨?_, i2, i3, Nat.dvd_trans i4 (Nat.div_dvd_of_dvd (Nat.dvd_of_mod_eq_zero h)), i5⟩
      rw [i1]
      have : c * c * m = c * c * (q * q * (m / (q * q))) := by rw [hd]
      rw [this]
      grind
    · rw [stripD_stop h1 h]
      exact ⟨rfl, h1, h, Nat.dvd_refl _, hc⟩
def strips : List Nat → Nat → Nat → Nat × Nat
  | [], c, m => (c, m)
  | q :: l, c, m => strips l (stripD q c m).1 (stripD q c m).2
theorem strips_spec : ∀ (l : List Nat) (c m : Nat), (∀ q ∈ l, 2 ≤ q) → 0 < m → 0 < c → (strips l c m).1 * (strips l c m).1 * (strips l c m).2 = c * c * m ∧ 0 < (strips l c m).2 ∧ (∀ q ∈ l, ¬ (strips l c m).2 % (q * q) = 0) ∧ (strips l c m).2 ∣ m ∧ 0 < (strips l c m).1 := by
  intro l
  induction l with
  | nil => intro c m _ hm hc; exact ⟨rfl, hm, by simp, Nat.dvd_refl _, hc⟩
  | cons q l ih =>
    intro c m hl hm hc
    obtain ⟨s1, s2, s3, s4, s5⟩ := stripD_spec (hl q (by simp)) m c m (Nat.le_refl _) hm hc
    obtain ⟨i1, i2, i3, i4, i5⟩ := ih (stripD q c m).1 (stripD q c m).2 (fun x hx => hl x (by simp [hx])) s2 s5
    show (strips l _ _).1 * (strips l _ _).1 * (strips l _ _).2 = _ ∧ _
    refine ⟨i1.trans s1, i2, ?_, Nat.dvd_trans i4 s4, i5⟩
    intro x hx
    rcases List.mem_cons.1 hx with rfl | hx
    · intro h
      exact s3 (Nat.mod_eq_zero_of_dvd (Nat.dvd_trans (Nat.dvd_of_mod_eq_zero h) i4))
    · exact i3 x hx
def primes25 : List Nat := [2, 3, 5, 7, 11, 13, 17, 19, 23, 29, 31, 37, 41, 43, 47, 53, 59, 61, 67, 71, 73, 79, 83, 89, 97]
/-- What is left is a square: its root goes out too. -/
def closeN (s : Nat × Nat) : Nat × Nat := if rootN s.2 * rootN s.2 = s.2 then (s.1 * rootN s.2, 1) else s
/-- The normal form of a positive integer's root: c and what is left. -/
def normN (m : Nat) : Nat × Nat := closeN (strips primes25 1 m)
theorem sq_of_mul {a b t : Nat} (ha : 0 < a) (h : a * a * b = t * t) : ∃ u, u * u = b := by
  have hd : a ^ 2 ∣ t ^ 2 := ⟨b, by rw [Nat.pow_two, Nat.pow_two]; exact h.symm⟩
  obtain ⟨u, rfl⟩ := (Nat.pow_dvd_pow_iff (by omega)).1 hd
  refine ⟨u, ?_⟩
  have h2 : a * a * (u * u) = a * a * b := by rw [h]; grind
  exact Nat.eq_of_mul_eq_mul_left (Nat.mul_pos ha ha) h2
theorem normN_spec {m : Nat} (hm : 0 < m) : (normN m).1 * (normN m).1 * (normN m).2 = m ∧ 0 < (normN m).2 ∧ 0 < (normN m).1 ∧ (∀ q ∈ primes25, ¬ (normN m).2 % (q * q) = 0) ∧ ((normN m).2 = 1 ↔ ∃ t, t * t = m) := by
  obtain ⟨i1, i2, i3, i4, i5⟩ := strips_spec primes25 1 m (by decide) hm (by omega)
  unfold normN closeN
  obtain ⟨s, hs⟩ : ∃ s, s = strips primes25 1 m := ⟨_, rfl⟩
  rw [← hs] at i1 i2 i3 i4 i5 ⊢
  split
  · next h =>
    have e : s.1 * rootN s.2 * (s.1 * rootN s.2) = m := by
      have : s.1 * rootN s.2 * (s.1 * rootN s.2) = s.1 * s.1 * (rootN s.2 * rootN s.2) := by grind
      rw [this, h, i1]
      omega
    refine ⟨by show s.1 * rootN s.2 * (s.1 * rootN s.2) * 1 = m; omega, by show 0 < 1; omega, Nat.mul_pos i5 (root_pos i2), ?_, fun _ => ⟨_, e⟩, fun _ => rfl⟩
    show ∀ q ∈ primes25, ¬ 1 % (q * q) = 0
    decide
  · next h =>
    refine ⟨by omega, i2, i5, i3, ?_, ?_⟩
    · intro e
      exfalso
      apply h
      rw [e]
      decide
    · rintro ⟨t, ht⟩
      exfalso
      obtain ⟨u, hu⟩ := sq_of_mul (t := t) i5 (by rw [i1, ht]; omega)
      exact h (by rw [rootN_eq (r := u) (by omega) (by have : (u + 1) * (u + 1) = u * u + 2 * u + 1 := by grind
                                                       omega)]; exact hu)
theorem normN_2 : normN 2 = (1, 2) := by decide +kernel
theorem normN_169 : normN 169 = (13, 1) := by decide +kernel
end Go.KI
namespace Go.KI
open Go
theorem prefix45 (l : List UInt8) : Lib.hasPrefix l [45] = (l.head? == some 45) := by
  unfold Lib.hasPrefix
  cases l with
  | nil => rfl
  | cons c r =>
    by_cases h : c = 45
    · subst h
      rfl
    · have e1 : (c == 45) = false := by simpa using h
      have e2 : ((45 : UInt8) == c) = false := by simpa using Ne.symm h
      show ((45 : UInt8) == c && true) = (some c == some 45)
      rw [e2]
      show false = (c == 45)
      rw [e1]
theorem ratS_head {q : Rat} : (ratS q).head? = some 45 ↔ q.num < 0 := by
  have h : ∀ z : Int, (Lib.itoa z).head? = some 45 ↔ z < 0 := fun z => by
    rcases itoa_cases z with ⟨h1, h⟩ | ⟨h1, h⟩ <;> rw [h]
    · exact ⟨fun _ => h1, fun _ => rfl⟩
    · exact ⟨fun e => absurd e (dec_head45 _), fun e => by omega⟩
  unfold ratS
  split
  · exact h _
  · rw [← h q.num]
    cases hz : Lib.itoa q.num with
    | nil => exact absurd hz (by
        rcases itoa_cases q.num with ⟨_, h⟩ | ⟨_, h⟩ <;> rw [h]
        · simp
        · exact decDigits_ne _)
    | cons c r => rfl
end Go.KI
namespace Go.Proofs.YtbfojhneajedmaaGreatDoor
open Go.RowKit Go.KP Go.KI Go.Shelf
attribute [local go_sem] Oper.semAt_some

set_option maxRecDepth 100000 in
theorem rNegative_at (s : ByteArray) (w : World) :
    Calls Tryz.prog 201 #[.string s] w (fun e w' => e = .returned (.bool (s.data.toList.head? == some 45)) ∧ w' = w) := by
  have H := hide (Tryz.strings_HasPrefix s ⟨#[45]⟩ w)
  obtain ⟨r, hr⟩ : ∃ r, r = (s.data.toList.head? == some 45) := ⟨_, rfl⟩
  have e : Lib.hasPrefix s.data.toList (⟨#[45]⟩ : ByteArray).data.toList = r := (prefix45 _).trans hr.symm
  rw [e] at H
  rw [← hr]
  clear hr e
  go_enter Tryz.func201, Tryz.ntmps201
  go_wp2_with fail
  refine H.out.mono ?_
  rintro e w1 ⟨rfl, rfl⟩
  go_wp2_with fail
  go_ret
  exact ⟨rfl, rfl⟩
set_option maxRecDepth 100000 in
theorem rNative_yes (s : ByteArray) (h : chkI s.data.toList = 0) (hl : s.size ≤ 17) (w : World) :
    Calls Tryz.prog 151 #[.string s] w (Ret w (.tuple #[.int .i64 (valI s.data.toList), .bool true])) := by
  have H1 := hide (atoi_any s h (by omega) w)
  have e1 : ((17 : Int) < (s.size : Int)) = False := eq_false (by omega)
  obtain ⟨v, hv⟩ : ∃ v, v = valI s.data.toList := ⟨_, rfl⟩
  rw [← hv] at H1 ⊢
  clear h hv hl
  go_enter Tryz.func151, Tryz.ntmps151
  go_wp2_with fail
  refine H1.out.mono ?_
  rintro e w1 ⟨rfl, hb⟩
  have HB1 := hide hb
  clear hb H1
  go_wp2_with fail
  go_quiet (fail)
  go_wp2_with fail
  refine bodyPost_ret (results_tmp2 rfl _ _ _) rfl ?_
  exact ⟨rfl, below_drewN HB1.out _⟩
set_option maxRecDepth 100000 in
theorem rNative_no (s : ByteArray) (hl : 17 < s.size) (w : World) :
    Calls Tryz.prog 151 #[.string s] w (Ret w (.tuple #[.int .i64 0, .bool false])) := by
  have e1 : (17 : Int) < (s.size : Int) := by omega
  clear hl
  go_enter Tryz.func151, Tryz.ntmps151
  go_wp2_with fail
  refine bodyPost_ret (results_tmp2 rfl _ _ _) rfl ?_
  exact ⟨rfl, Below.refl _ _⟩
/-- The first power of two from which Newton's steps fall. -/
theorem start_pow {n : Nat} (h0 : 2 ≤ n) (h1 : n < 1000000000000000000) : rootN n ≤ 2 ^ ((Lib.bitLen n + 1) / 2) ∧ 1 ≤ Lib.bitLen n ∧ Lib.bitLen n ≤ 60 := by
  obtain ⟨b1, b2, b3⟩ := Lib.bitLenAux_bounds 64 n (by omega) (by omega)
  obtain ⟨L, hL⟩ : ∃ L, L = Lib.bitLen n := ⟨_, rfl⟩
  have e : Lib.bitLenAux 64 n = L := hL.symm
  rw [e] at b1 b2 b3
  rw [← hL]
  refine ⟨?_, b1, ?_⟩
  · obtain ⟨k, hk⟩ : ∃ k, k = (L + 1) / 2 := ⟨_, rfl⟩
    rw [← hk]
    refine root_le_of (Nat.lt_of_lt_of_le b3 ?_)
    have h2 : 2 ^ L ≤ 2 ^ (k + k) := Nat.pow_le_pow_right (by omega) (by omega)
    rw [Nat.pow_add] at h2
    refine Nat.le_trans h2 (Nat.mul_le_mul (by omega) (by omega))
  · rcases Nat.lt_or_ge 60 L with h | h
    · have : 2 ^ 60 ≤ 2 ^ (L - 1) := Nat.pow_le_pow_right (by omega) (by omega)
      have h60 : (2 : Nat) ^ 60 = 1152921504606846976 := by decide
      omega
    · exact h
set_option maxRecDepth 100000 in
set_option maxHeartbeats 4000000 in
theorem rNativeRoot_any (n : Nat) (hn : n < 1000000000000000000) (w : World) :
    Calls Tryz.prog 202 #[.int .i64 n] w (Ret w (.int .i64 (rootN n))) := by
  by_cases h2 : n < 2
  · have e : rootN n = n := by
      have : n = 0 ∨ n = 1 := by omega
      rcases this with rfl | rfl <;> rfl
    rw [e]
    have h2i : (n : Int) < 2 := by omega
    clear e h2 hn
    go_enter Tryz.func202, Tryz.ntmps202
    go_wp2_with fail
    go_ret
    exact ⟨rfl, Below.refl _ _⟩
  · obtain ⟨s1, s2, s3⟩ := start_pow (n := n) (by omega) hn
    have HL := hide (Tryz.bits_Len (n : Int) w (by omega) (by omega))
    rw [Int.toNat_natCast] at HL
    obtain ⟨L, hL⟩ : ∃ L, L = Lib.bitLen n := ⟨_, rfl⟩
    rw [← hL] at s1 s2 s3 HL
    have h2i : ((n : Int) < 2) = False := eq_false (by omega)
    have n0 : (0 : Int) ≤ (n : Int) := by omega
    obtain ⟨k, hk⟩ : ∃ k, k = (L + 1) / 2 := ⟨_, rfl⟩
    have hk1 : ((L : Int) + 1) / 2 = (k : Int) := by omega
    have hk2 : k ≤ 30 := by omega
    have hk3 : 1 ≤ k := by omega
    obtain ⟨X, hX⟩ : ∃ X, X = 2 ^ k := ⟨_, rfl⟩
    rw [← hk, ← hX] at s1
    have hx1 : X ≤ 1073741824 := by
      rw [hX]
      exact Nat.le_trans (Nat.pow_le_pow_right (by omega) hk2) (by decide)
    have hx0 : 0 < X := by rw [hX]; exact Nat.pow_pos (by omega)
    have hsh : ((1 : Int) <<< k) = (X : Int) := by rw [Int.shiftLeft_eq, hX]; simp
    have HR := hide s1
    have H0 := hide h2
    have HX := hide hX
    clear hX s1 h2 hL hk
    go_enter Tryz.func202, Tryz.ntmps202
    go_wp2_with fail
    refine HL.out.mono ?_
    rintro e w1 ⟨rfl, rfl⟩
    clear HL
    go_wp2_with fail
    go_loopw [3] (fun a wr => ∃ x : Nat, a = .int .i64 x ∧ 0 < x ∧ x ≤ 2000000000 ∧ Hid (rootN n ≤ x) ∧ wr = w1) (fun a _ => (intOf a).toNat)
    case atStart =>
      refine ⟨X, ?_, hx0, by omega, HR, rfl⟩
      have hX := HX.out
      have : ((2 : Int) ^ k) = (X : Int) := by rw [hX]; simp
      rw [this]
      have e : wrap64 (X : Int) = (X : Int) := by unfold wrap64; omega
      rw [e]
    case round =>
      obtain ⟨x, rfl, hx0, hx1, hr, rfl⟩ := hrel
      have hxq : ((x : Int) == 0) = false := by
        have : (x : Int) ≠ 0 := by omega
        simpa using this
      obtain ⟨q, hq⟩ : ∃ q : Nat, q = n / x := ⟨_, rfl⟩
      have hd : (n : Int) / (x : Int) = (q : Int) := by rw [hq, Int.natCast_ediv]
      have hdl : q ≤ n := by rw [hq]; exact Nat.div_le_self _ _
      obtain ⟨y, hy⟩ : ∃ y : Nat, y = (x + q) / 2 := ⟨_, rfl⟩
      have hd2 : ((x : Int) + (q : Int)) / 2 = (y : Int) := by omega
      have HG := hide (newton_ge (n := n) hx0)
      have HE := hide (newton_end (n := n) hx0 hr.out)
      rw [← hq, ← hy] at HG HE
      have hyl : y ≤ 600000000000000000 := by omega
      clear hr hq hy
      by_cases hge : x ≤ y
      · have hg : (x : Int) ≤ (y : Int) := by omega
        have HRE := hide (HE.out hge)
        clear hge
        go_wp2_with fail
        go_ret
        exact ⟨by rw [HRE.out]; rfl, Below.refl _ _⟩
      · have hg : ((x : Int) ≤ (y : Int)) = False := eq_false (by omega)
        have hyx : y < x := by omega
        have hyp : 0 < y := Nat.lt_of_lt_of_le (root_pos (by have := H0.out; omega)) HG.out
        clear hge
        go_wp2_with fail
        go_roundw
        case rel => exact ⟨y, by rw [hd2], hyp, by omega, HG, trivial⟩
        case measure => simp only [intOf]; omega
end Go.Proofs.YtbfojhneajedmaaGreatDoor
namespace Go.KI
open Go
theorem strips_drop {k : Nat} (h : k < 25) (c m : Nat) : strips (primes25.drop k) c m = strips (primes25.drop (k + 1)) (stripD (primes25.getD k 0) c m).1 (stripD (primes25.getD k 0) c m).2 := by
  have e : primes25.drop k = primes25.getD k 0 :: primes25.drop (k + 1) := by
    rw [List.drop_eq_getElem_cons (by exact h)]
    congr 1
    rw [List.getD_eq_getElem?_getD, List.getElem?_eq_getElem h]
    rfl
  rw [e]
  rfl
theorem prime_bounds {k : Nat} (h : k < 25) : 2 ≤ primes25.getD k 0 ∧ primes25.getD k 0 ≤ 97 := by
  have key : ∀ k : Fin 25, 2 ≤ primes25.getD k.val 0 ∧ primes25.getD k.val 0 ≤ 97 := by decide
  exact key ⟨k, h⟩
theorem stripD_one {q c m : Nat} (hq : 2 ≤ q) (hm : 0 < m) : stripD q c m = if m % (q * q) = 0 then stripD q (c * q) (m / (q * q)) else (c, m) := by
  split
  · exact stripD_step hq hm (by assumption)
  · exact stripD_stop hm (by assumption)
end Go.KI
namespace Go.Proofs.YtbfojhneajedmaaGreatDoor
open Go.RowKit Go.KP Go.KI Go.Shelf
attribute [local go_sem] Oper.semAt_some

def primeB (k : Nat) : ByteArray := strB (Lib.decDigits (primes25.getD k 0))
abbrev primesA : Array Value := #[.string (primeB 0), .string (primeB 1), .string (primeB 2), .string (primeB 3), .string (primeB 4), .string (primeB 5), .string (primeB 6), .string (primeB 7), .string (primeB 8), .string (primeB 9), .string (primeB 10), .string (primeB 11), .string (primeB 12), .string (primeB 13), .string (primeB 14), .string (primeB 15), .string (primeB 16), .string (primeB 17), .string (primeB 18), .string (primeB 19), .string (primeB 20), .string (primeB 21), .string (primeB 22), .string (primeB 23), .string (primeB 24)]
/-- What the walks of roots ask of a world beside PQ: the primes stand. -/
structure PR (B : Nat) (w : World) : Prop where
  pq : PQ B w
  lt : 0 < B
  pr : ∃ t fr, w.heap[0]? = some (.cells primesA t fr)
theorem PR.on {B n : Nat} {w w2 : World} (h : PR B w) (hb : Below n w w2) (hB : B ≤ n) : PR B w2 :=
  ⟨h.pq.on hb hB, h.lt, by
    obtain ⟨t, fr, hp⟩ := h.pr
    exact ⟨t, fr, (hb.block _ (Nat.lt_of_lt_of_le h.lt hB)).trans hp⟩⟩
theorem PR.mono {B B2 : Nat} {w : World} (h : PR B w) (hB : B ≤ B2) : PR B2 w := ⟨h.pq.mono hB, Nat.lt_of_lt_of_le h.lt hB, h.pr⟩
set_option maxRecDepth 100000 in
theorem pidx {k : Nat} (h : k < 25) (w : World) : (Instr.index 237 (.agg primesA) (.int .i64 k)).run Tryz.prog w = .ok (.string (primeB k)) w := by
  have hk : k = 0 ∨ k = 1 ∨ k = 2 ∨ k = 3 ∨ k = 4 ∨ k = 5 ∨ k = 6 ∨ k = 7 ∨ k = 8 ∨ k = 9 ∨ k = 10 ∨ k = 11 ∨ k = 12 ∨ k = 13 ∨ k = 14 ∨ k = 15 ∨ k = 16 ∨ k = 17 ∨ k = 18 ∨ k = 19 ∨ k = 20 ∨ k = 21 ∨ k = 22 ∨ k = 23 ∨ k = 24 := by omega
  rcases hk with rfl | rfl | rfl | rfl | rfl | rfl | rfl | rfl | rfl | rfl | rfl | rfl | rfl | rfl | rfl | rfl | rfl | rfl | rfl | rfl | rfl | rfl | rfl | rfl | rfl
  all_goals first | rfl | (refine Eq.trans ?_ rfl; kernel_rfl)
theorem prime_atoi {k : Nat} (h : k < 25) (w : World) : Calls Tryz.prog 187 #[.string (primeB k)] w fun e w' => e = .returned (.tuple #[.int .i64 (primes25.getD k 0), .nilIface]) ∧ Below w.heap.size w w' := by
  obtain ⟨b1, b2⟩ := prime_bounds h
  have hf : chkI (primeB k).data.toList = 0 ∧ valI (primeB k).data.toList = ((primes25.getD k 0 : Nat) : Int) := by
    unfold primeB
    rw [strB_list, ← Lib.itoa_nonneg]
    exact ⟨chk_fits (fits_small (n := 3) (by rw [most_eq]; omega) (by omega)), val_itoa _⟩
  have hs : (primeB k).size ≤ 18 := by
    have key : ∀ k : Fin 25, (primeB k.val).size ≤ 18 := by decide +kernel
    exact key ⟨k, h⟩
  have := atoi_any (primeB k) hf.1 hs w
  rw [hf.2] at this
  exact this
set_option maxRecDepth 100000 in
set_option maxHeartbeats 16000000 in
theorem rNativeNormal_any (n d : Nat) (hn : 0 < n) (hd : 0 < d) (hm : n * d < 1000000000000000000) (B : Nat) (w : World) (hB : B ≤ w.heap.size) (hT : PR B w) :
    Calls Tryz.prog 152 #[.int .i64 n, .int .i64 d] w (Ret w (.tuple #[.string (strB (ratS (Rat.divInt (normN (n * d)).1 d))), .string (strB (Lib.itoa (normN (n * d)).2))])) := by
  have HT := hide hT
  have hl := Nat.lt_of_lt_of_le hT.lt hB
  have hdm : d ≤ n * d := Nat.le_mul_of_pos_left d hn
  have HQ := hide (fun c (c0 : c ≤ 1000000000000000000) w hB hT => qOf_any ((c : Nat) : Int) (d : Int) (by omega) (by omega) (by omega) (by omega) (by omega) B w hB hT)
  obtain ⟨m, hmm⟩ : ∃ m, m = n * d := ⟨_, rfl⟩
  have hnd : (n : Int) * (d : Int) = (m : Int) := by rw [hmm, Int.natCast_mul]
  have hm0 : 0 < m := by rw [hmm]; exact Nat.mul_pos hn hd
  rw [← hmm] at hm hdm ⊢
  obtain ⟨V1, hV1⟩ : ∃ V, V = strB (ratS (Rat.divInt (normN m).1 d)) := ⟨_, rfl⟩
  obtain ⟨V2, hV2⟩ : ∃ V, V = strB (Lib.itoa (normN m).2) := ⟨_, rfl⟩
  rw [← hV1, ← hV2]
  have H1 := hide hV1
  have H2 := hide hV2
  clear hV1 hV2 hmm
  obtain ⟨tt, fr, hg1⟩ := hT.pr
  clear hT hn hd
  go_enter Tryz.func152, Tryz.ntmps152
  go_wp2_with (refine wpList_load_row rfl 237 _ rfl 0 rfl tt _ fr _ hg1 Tryz.underlying237 rfl (by kernel_rfl) ?_)
  clear hg1
  go_loopw [6, 7, 19] (fun cc ll i wr => ∃ c left k : Nat, k ≤ 25 ∧ cc = .int .i64 c ∧ ll = .int .i64 left ∧ i = .int .i64 k ∧ c ≤ m ∧ left ≤ m ∧ 0 < left ∧ 0 < c ∧ Hid (strips (primes25.drop k) c left = strips primes25 1 m ∧ c * c * left = m ∧ Below w.heap.size w wr)) (fun _ _ i _ => 25 - (intOf i).toNat)
  case atStart => exact ⟨1, m, 0, by omega, rfl, rfl, rfl, by omega, Nat.le_refl _, hm0, by omega, ⟨rfl, by omega, Below.refl _ _⟩⟩
  case round =>
    obtain ⟨c, left, k, hk, rfl, rfl, rfl, hc, hl, hl0, hc0, hin⟩ := hrel
    have IN := hide hin.out
    clear hin
    obtain ⟨wo, hwo⟩ : ∃ wo, wo = wr := ⟨_, rfl⟩
    subst hwo
    by_cases hlt : k < 25
    · have hki : (k : Int) < 25 := by omega
      have hpx := fun w => pidx hlt w
      have HA := hide (fun w => prime_atoi hlt w)
      obtain ⟨b1, b2⟩ := prime_bounds hlt
      have HD := hide (strips_drop hlt)
      obtain ⟨q, hq⟩ : ∃ q, q = primes25.getD k 0 := ⟨_, rfl⟩
      rw [← hq] at HA b1 b2 HD
      clear hq hlt
      go_wp2_with fail
      refine (HA.out _).mono ?_
      rintro e w1 ⟨rfl, hb1⟩
      have HB1 := hide (IN.out.2.2.trans (hb1.mono IN.out.2.2.size))
      clear hb1 hpx
      go_wp2_with fail
      go_loopw [6, 7] (fun cc ll wr2 => ∃ c2 l2 : Nat, cc = .int .i64 c2 ∧ ll = .int .i64 l2 ∧ c2 ≤ m ∧ l2 ≤ m ∧ 0 < l2 ∧ 0 < c2 ∧ Hid (stripD q c2 l2 = stripD q c left ∧ c2 * c2 * l2 = m ∧ Below w.heap.size w wr2)) (fun _ ll _ => (intOf ll).toNat)
      case atStart => exact ⟨c, left, rfl, rfl, hc, hl, hl0, hc0, ⟨rfl, IN.out.2.1, HB1.out⟩⟩
      clear hc hl hl0 hc0
      case round =>
        obtain ⟨c2, l2, rfl, rfl, hc2, hl2, hl20, hc20, hin2⟩ := hrel
        have I2 := hide hin2.out
        clear hin2
        obtain ⟨Q, hQ⟩ : ∃ Q, Q = q * q := ⟨_, rfl⟩
        have hQi : (q : Int) * (q : Int) = (Q : Int) := by rw [hQ, Int.natCast_mul]
        have hQ1 : 4 ≤ Q ∧ Q ≤ 9409 := by rw [hQ]; exact ⟨Nat.mul_le_mul b1 b1, Nat.mul_le_mul b2 b2⟩
        have hQ0 : ((Q : Int) == 0) = false := by simp only [beq_eq_false_iff_ne, ne_eq]; omega
        obtain ⟨r, hr⟩ : ∃ r, r = l2 % Q := ⟨_, rfl⟩
        have hri : (l2 : Int) % (Q : Int) = (r : Int) := by rw [hr, Int.natCast_emod]
        by_cases h0 : r = 0
        · have hr0 : ((r : Int) == 0) = true := by simp [h0]
          obtain ⟨l3, hl3⟩ : ∃ l3, l3 = l2 / Q := ⟨_, rfl⟩
          have hdi : (l2 : Int) / (Q : Int) = (l3 : Int) := by rw [hl3, Int.natCast_ediv]
          have hst := stripD_step (c := c2) b1 hl20 (by rw [← hQ, ← hr]; exact h0)
          obtain ⟨q1, q2⟩ := strip_less b1 hl20 (by rw [← hQ, ← hr]; exact h0)
          rw [← hQ, ← hl3] at hst q1 q2
          obtain ⟨c3, hc3⟩ : ∃ c3, c3 = c2 * q := ⟨_, rfl⟩
          have hci : (c2 : Int) * (q : Int) = (c3 : Int) := by rw [hc3, Int.natCast_mul]
          rw [← hc3] at hst
          have hm3 : c3 * c3 * l3 = m := by
            have hdm := Nat.div_add_mod l2 Q
            rw [← hr, h0, ← hl3, Nat.add_zero] at hdm
            rw [← I2.out.2.1, ← hdm, hc3, hQ]
            grind
          have hc30 : 0 < c3 := by rw [hc3]; exact Nat.mul_pos hc20 (by omega)
          have hc3m : c3 ≤ m := by
            have h1 : c3 * 1 ≤ c3 * (c3 * l3) := Nat.mul_le_mul (Nat.le_refl _) (Nat.mul_pos hc30 q1)
            rw [← Nat.mul_assoc, hm3] at h1
            omega
          have H3 := hide (⟨hst.symm.trans I2.out.1, hm3⟩ : stripD q c3 l3 = stripD q c left ∧ c3 * c3 * l3 = m)
          have hq2 : l3 < l2 := q2
          clear hst hm3 hc3 hl3 hr hQ h0 q2
          go_wp2_with fail
          go_quiet (fail)
          go_wp2_with fail
          go_roundw
          case rel => exact ⟨c3, l3, rfl, rfl, hc3m, by omega, q1, hc30, ⟨H3.out.1, H3.out.2, below_drewN I2.out.2.2 _⟩⟩
          case measure => simp [intOf]; omega
        · have hr0 : ((r : Int) == 0) = false := by simp only [beq_eq_false_iff_ne, ne_eq]; omega
          have hst := stripD_stop (q := q) (c := c2) hl20 (by rw [← hQ, ← hr]; exact h0)
          have hst2 := HD.out c left
          rw [← I2.out.1, hst] at hst2
          have H3 := hide (hst2.symm.trans IN.out.1)
          clear hst hst2 hr hQ h0
          go_wp2_with fail
          go_roundw
          case rel => exact ⟨c2, l2, k + 1, by omega, rfl, rfl, by simp, hc2, hl2, hl20, hc20, ⟨H3.out, I2.out.2.1, I2.out.2.2⟩⟩
          case measure => simp [intOf]; omega
    · obtain rfl : k = 25 := by omega
      have HE : Hid ((c, left) = strips primes25 1 m) := hide IN.out.1
      have HRT := hide (fun w => rNativeRoot_any left (by omega) w)
      obtain ⟨r, hr⟩ : ∃ r, r = rootN left := ⟨_, rfl⟩
      have hsp := (rootN_spec left).1
      have hcl : normN m = if r * r = left then (c * r, 1) else (c, left) := by
        unfold normN closeN
        rw [← HE.out, hr]
      rw [← hr] at HRT hsp
      obtain ⟨rr, hrr⟩ : ∃ x, x = r * r := ⟨_, rfl⟩
      have hri : (r : Int) * (r : Int) = (rr : Int) := by rw [hrr, Int.natCast_mul]
      rw [← hrr] at hcl hsp
      by_cases heq : rr = left
      · obtain ⟨c2, hc2⟩ : ∃ x, x = c * r := ⟨_, rfl⟩
        have hci : (c : Int) * (r : Int) = (c2 : Int) := by rw [hc2, Int.natCast_mul]
        have hc2m : c2 ≤ m := by
          have e : c2 * c2 = m := by
            rw [← IN.out.2.1, ← heq, hrr, hc2]
            grind
          rcases Nat.eq_zero_or_pos c2 with h | h
          · omega
          · have := Nat.le_mul_of_pos_left c2 h
            omega
        rw [if_pos heq, ← hc2] at hcl
        have hQ := HQ.out c2 (by omega)
        have e1 : pairV (ratS (Rat.divInt ((c2 : Nat) : Int) (d : Int))) 0 = .tuple #[.string V1, .int .i64 0] := by rw [H1.out, hcl]
        rw [e1] at hQ
        have HQ2 := hide hQ
        have HI := hide (fun w hT => itoa_any 1 (by omega) (by omega) B w hT)
        have e2 : strB (Lib.itoa 1) = V2 := by rw [H2.out, hcl]; rfl
        rw [e2] at HI
        have hq : ((rr : Int) == (left : Int)) = true := by simp [heq]
        clear hlt hr hrr hcl heq hc2 e1 e2 hQ
        go_wp2_with fail
        refine (HRT.out _).mono ?_
        rintro e w1 ⟨rfl, hb1⟩
        have HB1 := hide (IN.out.2.2.trans (hb1.mono IN.out.2.2.size))
        clear hb1
        go_wp2_with fail
        refine (HQ2.out _ (Nat.le_trans hB HB1.out.size) (HT.out.on HB1.out hB).pq).mono ?_
        rintro e w2 ⟨rfl, hb2⟩
        have HB2 := hide (HB1.out.trans (hb2.mono HB1.out.size))
        clear hb2
        go_wp2_with fail
        refine (HI.out _ (HT.out.on HB2.out hB).pq.p10).mono ?_
        rintro e w3 ⟨rfl, hb3⟩
        have HB3 := hide (HB2.out.trans (hb3.mono HB2.out.size))
        clear hb3
        go_wp2_with fail
        refine bodyPost_ret (results_tmp2 rfl _ _ _) rfl ?_
        exact ⟨rfl, HB3.out⟩
      · rw [if_neg heq] at hcl
        have hQ := HQ.out c (by omega)
        have e1 : pairV (ratS (Rat.divInt ((c : Nat) : Int) (d : Int))) 0 = .tuple #[.string V1, .int .i64 0] := by rw [H1.out, hcl]
        rw [e1] at hQ
        have HQ2 := hide hQ
        have HI := hide (fun w hT => itoa_any left (by omega) (by omega) B w hT)
        have e2 : strB (Lib.itoa left) = V2 := by rw [H2.out, hcl]
        rw [e2] at HI
        have hq : ((rr : Int) == (left : Int)) = false := by simp only [beq_eq_false_iff_ne, ne_eq]; omega
        clear hlt hr hrr hcl heq e1 e2 hQ
        go_wp2_with fail
        refine (HRT.out _).mono ?_
        rintro e w1 ⟨rfl, hb1⟩
        have HB1 := hide (IN.out.2.2.trans (hb1.mono IN.out.2.2.size))
        clear hb1
        go_wp2_with fail
        refine (HQ2.out _ (Nat.le_trans hB HB1.out.size) (HT.out.on HB1.out hB).pq).mono ?_
        rintro e w2 ⟨rfl, hb2⟩
        have HB2 := hide (HB1.out.trans (hb2.mono HB1.out.size))
        clear hb2
        go_wp2_with fail
        refine (HI.out _ (HT.out.on HB2.out hB).pq.p10).mono ?_
        rintro e w3 ⟨rfl, hb3⟩
        have HB3 := hide (HB2.out.trans (hb3.mono HB2.out.size))
        clear hb3
        go_wp2_with fail
        refine bodyPost_ret (results_tmp2 rfl _ _ _) rfl ?_
        exact ⟨rfl, HB3.out⟩
end Go.Proofs.YtbfojhneajedmaaGreatDoor
