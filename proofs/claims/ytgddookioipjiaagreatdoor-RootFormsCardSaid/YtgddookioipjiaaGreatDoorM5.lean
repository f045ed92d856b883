/-
  Rational numbers: what their walks ask of a world; strings.Cut; cells of parts.; Integers: Gcd of short numbers walked.; Integers: the whole root; smallRoot walked.; Normal forms of roots: the squares of small primes are taken out (plain).; Roots: parts of a number, its sign, short integers, their roots walked.; Long division of limbs: plain facts. No program in sight.; Integers: take, restore, estimate walked.; A region that draws its order: quiet operations, one call that may write, quiet operations behind it.; A region of a round that draws its order: plain reads of a class of worlds, then two operations in order, the first of which stays in the class. Condition: the fence is the wide one.
-/
import Derived.Test.YtgddookioipjiaaGreatDoorM4
import Derived.Test.YtgddookioipjiaaGreatDoorM1
import Derived.Test.YtgddookioipjiaaGreatDoorM2
import Derived.Test.YtgddookioipjiaaGreatDoorM3
import Derived.BigQuiet
import Derived.OrdersHeld
namespace Go.Proofs.YtgddookioipjiaaGreatDoor
open Go.RowKit Go.KP Go.KI Go.Shelf
attribute [local go_sem] Oper.semAt_some

/-- What the walks of numbers ask of a world: the table of powers stands, and strings.Cut's variable. -/
structure PQ (B : Nat) (w : World) : Prop where
  p10 : P10 B w
  lt : 4 < B
  len : ∃ m, w.cell? ⟨4, 0, none⟩ = some (.int .i64 m)
theorem PQ.on {B n : Nat} {w w2 : World} (h : PQ B w) (hb : Below n w w2) (hB : B ≤ n) : PQ B w2 := by
  refine ⟨h.p10.on hb hB, h.lt, ?_⟩
  obtain ⟨m, hm⟩ := h.len
  have := h.lt
  exact ⟨m, (hb.cell (p := ⟨4, 0, none⟩) (show 4 < n by omega)).trans hm⟩
theorem PQ.mono {B B2 : Nat} {w : World} (h : PQ B w) (hB : B ≤ B2) : PQ B2 w := ⟨h.p10.mono hB, Nat.lt_of_lt_of_le h.lt hB, h.len⟩
/-- strings.Cut at a byte. -/
theorem scut_any (c : UInt8) (s : ByteArray) (hl : s.size ≤ 1000000) (B : Nat) (w : World) (hT : PQ B w) :
    Calls Tryz.prog 167 #[.string s, .string ⟨#[c]⟩] w (Ret w (.tuple #[.string (strB (KI.ahead c s.data.toList)), .string (strB (if c ∈ s.data.toList then KI.behind c s.data.toList else [])), .bool (decide (c ∈ s.data.toList))])) := by
  obtain ⟨m, hm⟩ := hT.len
  refine (Tryz.strings_Cut s ⟨#[c]⟩ m w (by omega) hm).mono ?_
  rintro e w' ⟨he, n, rfl⟩
  have e1 : Lib.cut s.data.toList (⟨#[c]⟩ : ByteArray).data.toList = Lib.cut s.data.toList [c] := rfl
  rw [e1, lib_cut] at he
  refine ⟨?_, below_drewN (Below.refl _ _) n⟩
  rw [he]
  by_cases h : c ∈ s.data.toList
  · simp [h, strB]
  · rw [cut_not h]
    simp [h, strB]
/-- The two parts of a number. -/
abbrev partsV (n d : ByteArray) : Value := .agg #[.string n, .string d]
abbrev partsO (n d : ByteArray) : Obj := .cells #[.string n, .string d] 84
theorem exit_cut {R : Ending → World → Prop} {a : Act} {W : World} {b : Nat} {n d : ByteArray} {ok : Bool} (hb : W.heap[b]? = some (partsO n d)) (h2 : a.tmps[2]? = some (.pointer (some ⟨b, 0, none⟩))) (h3 : a.tmps[3]? = some (.bool ok)) (hd : a.defers = []) (hR : R (.returned (.tuple #[partsV n d, .bool ok])) W) :
    bodyPost Tryz.prog Tryz.f111 R .ret a W := by
  have hcell := fun o => cell_blk hb o
  refine bodyPost_ret ?_ hd hR
  simp [results, go_sem, hcell, h2, h3]
theorem exit_cutSet {R : Ending → World → Prop} {a : Act} {W : World} {b : Nat} {n d u0 u1 : ByteArray} {ok : Bool} (hb : W.heap[b]? = some (partsO u0 u1)) (h2 : a.tmps[2]? = some (.pointer (some ⟨b, 0, none⟩))) (h3 : a.tmps[3]? = some (.bool ok)) (hd : a.defers = [])
    (hR : Below b W ((W.setCell ⟨b, 0, none⟩ (.string n)).setCell ⟨b, 1, none⟩ (.string d)) → R (.returned (.tuple #[partsV n d, .bool ok])) ((W.setCell ⟨b, 0, none⟩ (.string n)).setCell ⟨b, 1, none⟩ (.string d))) :
    bodyPost Tryz.prog Tryz.f111 R .ret a ((W.setCell ⟨b, 0, none⟩ (.string n)).setCell ⟨b, 1, none⟩ (.string d)) := by
  obtain ⟨s1, s2⟩ := set2 hb (.string n) (.string d)
  exact exit_cut s1 h2 h3 hd (hR s2)
theorem exit_readQ {R : Ending → World → Prop} {a : Act} {W : World} {b : Nat} {n d : ByteArray} {z : Int} (hb : W.heap[b]? = some (partsO n d)) (h2 : a.tmps[2]? = some (.pointer (some ⟨b, 0, none⟩))) (h3 : a.tmps[3]? = some (.int .i64 z)) (hd : a.defers = []) (hR : R (.returned (.tuple #[partsV n d, .int .i64 z])) W) :
    bodyPost Tryz.prog Tryz.f58 R .ret a W := by
  have hcell := fun o => cell_blk hb o
  refine bodyPost_ret ?_ hd hR
  simp [results, go_sem, hcell, h2, h3]
theorem exit_readQSet {R : Ending → World → Prop} {a : Act} {W : World} {b : Nat} {n d u0 u1 : ByteArray} {z : Int} (hb : W.heap[b]? = some (partsO u0 u1)) (h2 : a.tmps[2]? = some (.pointer (some ⟨b, 0, none⟩))) (h3 : a.tmps[3]? = some (.int .i64 z)) (hd : a.defers = [])
    (hR : Below b W ((W.setCell ⟨b, 0, none⟩ (.string n)).setCell ⟨b, 1, none⟩ (.string d)) → R (.returned (.tuple #[partsV n d, .int .i64 z])) ((W.setCell ⟨b, 0, none⟩ (.string n)).setCell ⟨b, 1, none⟩ (.string d))) :
    bodyPost Tryz.prog Tryz.f58 R .ret a ((W.setCell ⟨b, 0, none⟩ (.string n)).setCell ⟨b, 1, none⟩ (.string d)) := by
  obtain ⟨s1, s2⟩ := set2 hb (.string n) (.string d)
  exact exit_readQ s1 h2 h3 hd (hR s2)
theorem beq0 {k : Nat} : (k = 0 → ((k : Int) == 0) = true) ∧ (k ≠ 0 → ((k : Int) == 0) = false) := by
  constructor
  · intro h; rw [h]; rfl
  · intro h
    simp only [beq_eq_false_iff_ne, ne_eq]
    omega
theorem lit_eq {s : ByteArray} {l m : List UInt8} (h : s.data.toList = l) : (l = m → (s.toList == m) = true) ∧ (l ≠ m → (s.toList == m) = false) := by
  rw [ByteArray.toList_eq, h]
  exact ⟨fun e => by rw [e]; simp, fun e => by simpa using e⟩
theorem itoa_len (z : Int) : (Lib.itoa z).length ≤ (Lib.decDigits z.natAbs).length + 1 := by
  rcases itoa_cases z with ⟨_, h⟩ | ⟨_, h⟩ <;> rw [h]
  · rw [List.length_cons]
    omega
  · omega
theorem fits_size {s : ByteArray} {z : Int} (h : s.data.toList = Lib.itoa z) (hf : fits z) : s.size ≤ 301 := by
  have h1 := itoa_len z
  have h2 := fits_len.1 hf
  rw [← bytes_len, h]
  omega
theorem itoa_head (z : Int) : (Lib.itoa z).head? = some 45 ↔ z < 0 := by
  rcases itoa_cases z with ⟨h1, h⟩ | ⟨h1, h⟩ <;> rw [h]
  · exact ⟨fun _ => h1, fun _ => rfl⟩
  · exact ⟨fun e => absurd e (dec_head45 _), fun e => by omega⟩
theorem itoa_is_one (z : Int) : Lib.itoa z = [49] ↔ z = 1 := by
  constructor
  · intro h
    have := val_itoa z
    rw [h] at this
    exact this.symm.trans (by decide)
  · intro h
    rw [h, show (1 : Int) = ((1 : Nat) : Int) from rfl, Lib.itoa_nonneg, one_dec]
end Go.Proofs.YtgddookioipjiaaGreatDoor
namespace Go.Proofs.YtgddookioipjiaaGreatDoor
open Go.RowKit Go.KP Go.KI Go.Shelf
attribute [local go_sem] Oper.semAt_some

set_option maxRecDepth 100000 in
set_option maxHeartbeats 2000000 in
theorem Gcd_small (s t : ByteArray) (B : Nat) (w : World) (c1 : chkI s.data.toList = 0) (c2 : chkI t.data.toList = 0) (hs : s.size ≤ 18) (ht : t.size ≤ 18) (hB : B ≤ w.heap.size) (hT : P10 B w) :
    Calls Tryz.prog 112 #[.string s, .string t] w (Ret w (pairV (Lib.itoa ((Nat.gcd (valI s.data.toList).natAbs (valI t.data.toList).natAbs : Nat) : Int)) 0)) := by
  have H1 := hide (both_any s t (by omega) (by omega) w)
  have hb0 : bothI s.data.toList t.data.toList = 0 := by unfold bothI; rw [if_pos c1, c2]
  rw [hb0] at H1
  have HT := hide hT
  have H2 := hide (fun w => small_yes s t c1 c2 hs ht w)
  have v1 := short_val (n := 18) c1 (by rw [bytes_len]; exact hs) (by omega)
  have v2 := short_val (n := 18) c2 (by rw [bytes_len]; exact ht) (by omega)
  rw [pow18] at v1 v2
  obtain ⟨x, hx⟩ : ∃ x, x = valI s.data.toList := ⟨_, rfl⟩
  obtain ⟨y, hy⟩ : ∃ y, y = valI t.data.toList := ⟨_, rfl⟩
  rw [← hx, ← hy] at H2 ⊢
  rw [← hx] at v1
  rw [← hy] at v2
  obtain ⟨G, hG⟩ : ∃ G, G = Nat.gcd x.natAbs y.natAbs := ⟨_, rfl⟩
  rw [← hG]
  have HG := hide hG
  have V1 := hide v1; have V2 := hide v2
  clear c1 c2 hs ht hT hx hy hb0 hG v1 v2
  go_enter Tryz.func112, Tryz.ntmps112
  go_wp2_with fail
  refine H1.out.mono ?_
  rintro e w1 ⟨rfl, hb1⟩
  have HB1 := hide hb1
  clear hb1 H1
  go_wp2_with fail
  refine (H2.out _).mono ?_
  rintro e w2 ⟨rfl, hb2⟩
  have HB2 := hide (HB1.out.trans (hb2.mono HB1.out.size))
  clear hb2 H2 HB1
  go_wp2_with fail
  go_loopw [7, 8] (fun a b wr => ∃ p q : Int, a = .int .i64 p ∧ b = .int .i64 q ∧ p.natAbs < 1000000000000000000 ∧ q.natAbs < 1000000000000000000 ∧ Hid (Nat.gcd p.natAbs q.natAbs = G ∧ Below w.heap.size w wr)) (fun _ b _ => (intOf b).natAbs)
  case atStart => exact ⟨x, y, rfl, rfl, V1.out, V2.out, HG.out.symm, HB2.out⟩
  case round =>
    obtain ⟨p, q, rfl, rfl, hp, hq, hin⟩ := hrel
    have IN := hide hin.out
    clear hin
    by_cases hq0 : q = 0
    · subst hq0
      have hqq : ((0 : Int) != 0) = false := rfl
      have hG : (p.natAbs : Nat) = G := by have := IN.out.1; simpa using this
      have GG := hide hG
      clear hq hG
      go_wp2_with fail
      have hmx : max p (-p) = (G : Int) := by have := GG.out; omega
      rw [hmx]
      have hG1 : (G : Int) ≤ 9223372036854775807 := by have := GG.out; omega
      clear hmx hqq
      refine (itoa_any G (by omega) hG1 B _ (HT.out.on IN.out.2 hB)).mono ?_
      rintro e w3 ⟨rfl, hb3⟩
      have HB3 := hide (IN.out.2.trans (hb3.mono IN.out.2.size))
      clear hb3
      go_wp2_with fail
      refine bodyPost_ret (results_tmp2 rfl _ _ _) rfl ?_
      exact ⟨rfl, HB3.out⟩
    · have hqq : (q != 0) = true := by simpa using hq0
      have hyq : (q == 0) = false := by simpa using hq0
      have hr := natAbs_tmod_lt p hq0
      have hgc : Nat.gcd q.natAbs (p.tmod q).natAbs = G := by
        rw [Int.natAbs_tmod, ← IN.out.1, Nat.gcd_comm q.natAbs, ← Nat.gcd_rec, Nat.gcd_comm]
      have GG := hide hgc
      clear hq0 hgc
      go_wp2_with fail
      go_quiet (fail)
      clear hyq hqq
      go_wp2_with fail
      go_roundw
      case rel => exact ⟨q, p.tmod q, rfl, rfl, hq, by omega, GG.out, ⟨IN.out.2.os, IN.out.2.tape, IN.out.2.output, IN.out.2.size, IN.out.2.block⟩⟩
      case measure => simpa [intOf] using hr
end Go.Proofs.YtgddookioipjiaaGreatDoor
namespace Go.KI

/-- The whole root. -/
def rootN : Nat → Nat
  | 0 => 0
  | n + 1 => if (rootN n + 1) * (rootN n + 1) ≤ n + 1 then rootN n + 1 else rootN n
theorem rootN_spec : ∀ n, rootN n * rootN n ≤ n ∧ n < (rootN n + 1) * (rootN n + 1) := by
  intro n
  induction n with
  | zero => exact ⟨Nat.le_refl _, by show 0 < (0 + 1) * (0 + 1); decide⟩
  | succ n ih =>
    rw [rootN]
    split
    · refine ⟨by assumption, ?_⟩
      have : (rootN n + 1 + 1) * (rootN n + 1 + 1) = (rootN n + 1) * (rootN n + 1) + 2 * (rootN n + 1) + 1 := by grind
      omega
    · exact ⟨by omega, by omega⟩
theorem rootN_eq {n r : Nat} (h1 : r * r ≤ n) (h2 : n < (r + 1) * (r + 1)) : rootN n = r := by
  obtain ⟨g1, g2⟩ := rootN_spec n
  rcases Nat.lt_trichotomy (rootN n) r with h | h | h
  · have := Nat.mul_le_mul (show rootN n + 1 ≤ r from h) (show rootN n + 1 ≤ r from h)
    omega
  · exact h
  · have := Nat.mul_le_mul (show r + 1 ≤ rootN n from h) (show r + 1 ≤ rootN n from h)
    omega
theorem root_le_of {n x : Nat} (h : n < (x + 1) * (x + 1)) : rootN n ≤ x := by
  obtain ⟨g1, g2⟩ := rootN_spec n
  rcases Nat.lt_or_ge x (rootN n) with h1 | h1
  · have := Nat.mul_le_mul (show x + 1 ≤ rootN n from h1) (show x + 1 ≤ rootN n from h1)
    omega
  · exact h1
/-- Newton's step stays at or above the root. -/
theorem newton_ge {n x : Nat} (hx : 0 < x) : rootN n ≤ (x + n / x) / 2 := by
  obtain ⟨g1, g2⟩ := rootN_spec n
  rw [Nat.le_div_iff_mul_le (by omega)]
  rcases Nat.lt_or_ge (2 * rootN n) x with h | h
  · refine Nat.le_trans ?_ (Nat.le_add_right x _)
    omega
  · have h1 : 2 * rootN n - x ≤ n / x := by
      rw [Nat.le_div_iff_mul_le hx]
      obtain ⟨d, hd⟩ : ∃ d, 2 * rootN n = x + d := ⟨2 * rootN n - x, by omega⟩
      rw [hd, Nat.add_sub_cancel_left]
      have h4 : 4 * (d * x) ≤ (x + d) * (x + d) := by
        rcases Nat.le_total d x with hl | hl
        · obtain ⟨e, rfl⟩ : ∃ e, x = d + e := ⟨x - d, by omega⟩
          have : (d + e + d) * (d + e + d) = 4 * (d * (d + e)) + e * e := by grind
          omega
        · obtain ⟨e, rfl⟩ : ∃ e, d = x + e := ⟨d - x, by omega⟩
          have : (x + (x + e)) * (x + (x + e)) = 4 * ((x + e) * x) + e * e := by grind
          omega
      rw [← hd] at h4
      have h5 : 2 * rootN n * (2 * rootN n) = 4 * (rootN n * rootN n) := by grind
      omega
    omega
/-- Where Newton's step no longer falls, the root is there. -/
theorem newton_end {n x : Nat} (hx : 0 < x) (h : rootN n ≤ x) (he : x ≤ (x + n / x) / 2) : rootN n = x := by
  have h1 : x ≤ n / x := by omega
  have h2 := (Nat.le_div_iff_mul_le hx).1 h1
  obtain ⟨g1, g2⟩ := rootN_spec n
  have h3 : x ≤ rootN n := by
    rcases Nat.lt_or_ge (rootN n) x with h4 | h4
    · have := Nat.mul_le_mul (show rootN n + 1 ≤ x from h4) (show rootN n + 1 ≤ x from h4)
      omega
    · exact h4
  omega
theorem root_pos {n : Nat} (h : 0 < n) : 0 < rootN n := by
  obtain ⟨g1, g2⟩ := rootN_spec n
  rcases Nat.eq_zero_or_pos (rootN n) with h0 | h0
  · rw [h0] at g2
    omega
  · exact h0
theorem start_ge {n x : Nat} (hx : 0 < x) (h : n / x ≤ x) : rootN n ≤ x := by
  refine root_le_of ?_
  have h1 : n < (x + 1) * x := by
    rw [← Nat.div_lt_iff_lt_mul hx]
    omega
  have : (x + 1) * (x + 1) = (x + 1) * x + (x + 1) := by grind
  omega
end Go.KI
namespace Go.Proofs.YtgddookioipjiaaGreatDoor
open Go.RowKit Go.KP Go.KI Go.Shelf
attribute [local go_sem] Oper.semAt_some
set_option maxRecDepth 100000 in
set_option maxHeartbeats 2000000 in
theorem smallRoot_any (s : ByteArray) (n : Nat) (B : Nat) (w : World) (c1 : chkI s.data.toList = 0) (hs : s.size ≤ 18) (hn : valI s.data.toList = (n : Int)) (h0 : 0 < n) (hB : B ≤ w.heap.size) (hT : P10 B w) :
    Calls Tryz.prog 136 #[.string s] w (Ret w (pairV (Lib.itoa ((rootN n : Nat) : Int)) 0)) := by
  have HT := hide hT
  have H1 := hide (atoi_any s c1 hs w)
  have v1 := short_val (n := 18) c1 (by rw [bytes_len]; exact hs) (by omega)
  rw [pow18] at v1
  rw [hn] at v1 H1
  have hn1 : n < 1000000000000000000 := by omega
  clear c1 hs hn v1 hT
  have H0 := hide h0
  go_enter Tryz.func136, Tryz.ntmps136
  go_wp2_with fail
  refine H1.out.mono ?_
  rintro e w1 ⟨rfl, hb1⟩
  have HB1 := hide hb1
  clear hb1 H1
  go_wp2_with fail
  go_loopw [6] (fun a wr => ∃ x : Nat, a = .int .i64 x ∧ 0 < x ∧ x ≤ 2000000000 ∧ wr = w1) (fun a _ => 2000000000 - (intOf a).toNat)
  case atStart => exact ⟨1, rfl, by omega, by omega, rfl⟩
  case round =>
    obtain ⟨x, rfl, hx0, hx1, rfl⟩ := hrel
    have hxq : ((x : Int) == 0) = false := by
      have : (x : Int) ≠ 0 := by omega
      simpa using this
    obtain ⟨q, hq⟩ : ∃ q : Nat, q = n / x := ⟨_, rfl⟩
    have hd : (n : Int) / (x : Int) = (q : Int) := by rw [hq, Int.natCast_ediv]
    have hdl : q ≤ n := by rw [hq]; exact Nat.div_le_self _ _
    have hx2 : x < q → x < 1000000000 := fun hl => by
      rcases Nat.lt_or_ge x 1000000000 with h1 | h1
      · exact h1
      · exfalso
        have h2 := (Nat.le_div_iff_mul_le hx0).1 (Nat.le_of_lt (hq ▸ hl))
        have h3 := Nat.mul_le_mul h1 h1
        omega
    have HQ := hide hq; have HX := hide hx2
    clear hq hx2
    by_cases hlt : x < q
    · have hl : (x : Int) < (q : Int) := by omega
      have hx3 := HX.out hlt
      clear hlt
      go_wp2_with fail
      go_roundw
      case rel => exact ⟨x * 2, rfl, by omega, by omega, trivial⟩
      case measure => simp [intOf]; omega
    · have hl : ((x : Int) < (q : Int)) = False := eq_false (by omega)
      have HR := hide (start_ge (n := n) hx0 (by rw [← HQ.out]; omega))
      clear hlt
      go_wp2_with fail
      clear hd hdl hxq hl HQ HX
      go_loopw [6] (fun a wr2 => ∃ x : Nat, a = .int .i64 x ∧ 0 < x ∧ x ≤ 2000000000 ∧ Hid (rootN n ≤ x) ∧ wr2 = wr) (fun a _ => (intOf a).toNat)
      case atStart => exact ⟨x, rfl, hx0, hx1, HR, rfl⟩
      clear hx0 hx1 HR
      case round =>
        obtain ⟨x, rfl, hx0, hx1, hr, rfl⟩ := hrel
        have hxq : ((x : Int) == 0) = false := by
          have : (x : Int) ≠ 0 := by omega
          simpa using this
        obtain ⟨q, hq⟩ : ∃ q : Nat, q = n / x := ⟨_, rfl⟩
        have hd : (n : Int) / (x : Int) = (q : Int) := by rw [hq, Int.natCast_ediv]
        have hdl : q ≤ n := by rw [hq]; exact Nat.div_le_self _ _
        obtain ⟨y, hy⟩ : ∃ y : Nat, y = (x + q) / 2 := ⟨_, rfl⟩
        have hd2 : ((x : Int) + (q : Int)) / 2 = (y : Int) := by omega
        have HG := hide (newton_ge (n := n) hx0)
        have HE := hide (newton_end (n := n) hx0 hr.out)
        rw [← hq, ← hy] at HG HE
        have hyl : y ≤ 600000000000000000 := by omega
        clear hr hq hy
        by_cases hge : x ≤ y
        · have hg : (x : Int) ≤ (y : Int) := by omega
          have HRE := hide (HE.out hge)
          clear hge
          go_wp2_with fail
          refine (itoa_any x (by omega) (by omega) B _ (HT.out.on HB1.out hB)).mono ?_
          rintro e w3 ⟨rfl, hb3⟩
          have HB3 := hide (HB1.out.trans (hb3.mono HB1.out.size))
          clear hb3 hd hd2 hg
          go_wp2_with fail
          refine bodyPost_ret (results_tmp2 rfl _ _ _) rfl ?_
          exact ⟨by rw [HRE.out]; rfl, HB3.out⟩
        · have hg : ((x : Int) ≤ (y : Int)) = False := eq_false (by omega)
          have hyx : y < x := by omega
          have hyp : 0 < y := Nat.lt_of_lt_of_le (root_pos H0.out) HG.out
          clear hge
          go_wp2_with fail
          go_roundw
          case rel => exact ⟨y, by rw [hd2], hyp, by omega, HG, trivial⟩
          case measure => simp only [intOf]; omega
end Go.Proofs.YtgddookioipjiaaGreatDoor
namespace Go.KI

/-- Takes a prime's square out of m as often as it divides it; c gathers the primes. -/
def strip (q : Nat) : Nat → Nat → Nat → Nat × Nat
  | 0, c, m => (c, m)
  | f + 1, c, m => if m % (q * q) = 0 then strip q f (c * q) (m / (q * q)) else (c, m)
theorem sq_ge {q : Nat} (hq : 2 ≤ q) : 4 ≤ q * q := Nat.mul_le_mul hq hq
theorem strip_less {q m : Nat} (hq : 2 ≤ q) (hm : 0 < m) (h : m % (q * q) = 0) : 0 < m / (q * q) ∧ m / (q * q) < m := by
  have h4 := sq_ge hq
  have hd := Nat.div_add_mod m (q * q)
  rw [h, Nat.add_zero] at hd
  refine ⟨?_, Nat.div_lt_self hm (by omega)⟩
  rcases Nat.eq_zero_or_pos (m / (q * q)) with h0 | h0
  · rw [h0, Nat.mul_zero] at hd
    omega
  · exact h0
theorem strip_more {q : Nat} (hq : 2 ≤ q) : ∀ (f g c m : Nat), 0 < m → m ≤ f → m ≤ g → strip q f c m = strip q g c m := by
  intro f
  induction f with
  | zero => intro g c m h0 h1; omega
  | succ f ih =>
    intro g c m h0 h1 h2
    cases g with
    | zero => omega
    | succ g =>
      rw [strip, strip]
      split
      · next h =>
        obtain ⟨p1, p2⟩ := strip_less hq h0 h
        exact ih g _ _ p1 (by omega) (by omega)
      · rfl
def stripD (q c m : Nat) : Nat × Nat := strip q m c m
theorem stripD_step {q c m : Nat} (hq : 2 ≤ q) (hm : 0 < m) (h : m % (q * q) = 0) : stripD q c m = stripD q (c * q) (m / (q * q)) := by
  obtain ⟨p1, p2⟩ := strip_less hq hm h
  unfold stripD
  obtain ⟨f, rfl⟩ : ∃ f, m = f + 1 := ⟨m - 1, by omega⟩
  rw [strip, if_pos h]
  exact strip_more hq _ _ _ _ p1 (by omega) (Nat.le_refl _)
theorem stripD_stop {q c m : Nat} (hm : 0 < m) (h : ¬ m % (q * q) = 0) : stripD q c m = (c, m) := by
  unfold stripD
  obtain ⟨f, rfl⟩ : ∃ f, m = f + 1 := ⟨m - 1, by omega⟩
  rw [strip, if_neg h]
theorem stripD_spec {q : Nat} (hq : 2 ≤ q) : ∀ (n c m : Nat), m ≤ n → 0 < m → 0 < c → (stripD q c m).1 * (stripD q c m).1 * (stripD q c m).2 = c * c * m ∧ 0 < (stripD q c m).2 ∧ ¬ (stripD q c m).2 % (q * q) = 0 ∧ (stripD q c m).2 ∣ m ∧ 0 < (stripD q c m).1 := by
  intro n
  induction n with
  | zero => intro c m h0 h1; omega
  | succ n ih =>
    intro c m h0 h1 hc
    by_cases h : m % (q * q) = 0
    · obtain ⟨p1, p2⟩ := strip_less hq h1 h
      rw [stripD_step hq h1 h]
      obtain ⟨i1, i2, i3, i4, i5⟩ := ih (c * q) (m / (q * q)) (by omega) p1 (Nat.mul_pos hc (by omega))
      have hd := Nat.div_add_mod m (q * q)
      rw [h, Nat.add_zero] at hd
      refine ⟨?_, i2, i3, Nat.dvd_trans i4 (Nat.div_dvd_of_dvd (Nat.dvd_of_mod_eq_zero h)), i5⟩
      rw [i1]
      have : c * c * m = c * c * (q * q * (m / (q * q))) := by rw [hd]
      rw [this]
      grind
    · rw [stripD_stop h1 h]
      exact ⟨rfl, h1, h, Nat.dvd_refl _, hc⟩
def strips : List Nat → Nat → Nat → Nat × Nat
  | [], c, m => (c, m)
  | q :: l, c, m => strips l (stripD q c m).1 (stripD q c m).2
theorem strips_spec : ∀ (l : List Nat) (c m : Nat), (∀ q ∈ l, 2 ≤ q) → 0 < m → 0 < c → (strips l c m).1 * (strips l c m).1 * (strips l c m).2 = c * c * m ∧ 0 < (strips l c m).2 ∧ (∀ q ∈ l, ¬ (strips l c m).2 % (q * q) = 0) ∧ (strips l c m).2 ∣ m ∧ 0 < (strips l c m).1 := by
  intro l
  induction l with
  | nil => intro c m _ hm hc; exact ⟨rfl, hm, by simp, Nat.dvd_refl _, hc⟩
  | cons q l ih =>
    intro c m hl hm hc
    obtain ⟨s1, s2, s3, s4, s5⟩ := stripD_spec (hl q (by simp)) m c m (Nat.le_refl _) hm hc
    obtain ⟨i1, i2, i3, i4, i5⟩ := ih (stripD q c m).1 (stripD q c m).2 (fun x hx => hl x (by simp [hx])) s2 s5
    show (strips l _ _).1 * (strips l _ _).1 * (strips l _ _).2 = _ ∧ _
    refine ⟨i1.trans s1, i2, ?_, Nat.dvd_trans i4 s4, i5⟩
    intro x hx
    rcases List.mem_cons.1 hx with rfl | hx
    · intro h
      exact s3 (Nat.mod_eq_zero_of_dvd (Nat.dvd_trans (Nat.dvd_of_mod_eq_zero h) i4))
    · exact i3 x hx
def primes25 : List Nat := [2, 3, 5, 7, 11, 13, 17, 19, 23, 29, 31, 37, 41, 43, 47, 53, 59, 61, 67, 71, 73, 79, 83, 89, 97]
/-- What is left is a square: its root goes out too. -/
def closeN (s : Nat × Nat) : Nat × Nat := if rootN s.2 * rootN s.2 = s.2 then (s.1 * rootN s.2, 1) else s
/-- The normal form of a positive integer's root: c and what is left. -/
def normN (m : Nat) : Nat × Nat := closeN (strips primes25 1 m)
theorem sq_of_mul {a b t : Nat} (ha : 0 < a) (h : a * a * b = t * t) : ∃ u, u * u = b := by
  have hd : a ^ 2 ∣ t ^ 2 := ⟨b, by rw [Nat.pow_two, Nat.pow_two]; exact h.symm⟩
  obtain ⟨u, rfl⟩ := (Nat.pow_dvd_pow_iff (by omega)).1 hd
  refine ⟨u, ?_⟩
  have h2 : a * a * (u * u) = a * a * b := by rw [h]; grind
  exact Nat.eq_of_mul_eq_mul_left (Nat.mul_pos ha ha) h2
theorem normN_spec {m : Nat} (hm : 0 < m) : (normN m).1 * (normN m).1 * (normN m).2 = m ∧ 0 < (normN m).2 ∧ 0 < (normN m).1 ∧ (∀ q ∈ primes25, ¬ (normN m).2 % (q * q) = 0) ∧ ((normN m).2 = 1 ↔ ∃ t, t * t = m) := by
  obtain ⟨i1, i2, i3, i4, i5⟩ := strips_spec primes25 1 m (by decide) hm (by omega)
  unfold normN closeN
  obtain ⟨s, hs⟩ : ∃ s, s = strips primes25 1 m := ⟨_, rfl⟩
  rw [← hs] at i1 i2 i3 i4 i5 ⊢
  split
  · next h =>
    have e : s.1 * rootN s.2 * (s.1 * rootN s.2) = m := by
      have : s.1 * rootN s.2 * (s.1 * rootN s.2) = s.1 * s.1 * (rootN s.2 * rootN s.2) := by grind
      rw [this, h, i1]
      omega
    refine ⟨by show s.1 * rootN s.2 * (s.1 * rootN s.2) * 1 = m; omega, by show 0 < 1; omega, Nat.mul_pos i5 (root_pos i2), ?_, fun _ => ⟨_, e⟩, fun _ => rfl⟩
    show ∀ q ∈ primes25, ¬ 1 % (q * q) = 0
    decide
  · next h =>
    refine ⟨by omega, i2, i5, i3, ?_, ?_⟩
    · intro e
      exfalso
      apply h
      rw [e]
      decide
    · rintro ⟨t, ht⟩
      exfalso
      obtain ⟨u, hu⟩ := sq_of_mul (t := t) i5 (by rw [i1, ht]; omega)
      exact h (by rw [rootN_eq (r := u) (by omega) (by have : (u + 1) * (u + 1) = u * u + 2 * u + 1 := by grind
                                                       omega)]; exact hu)
theorem normN_2 : normN 2 = (1, 2) := by decide +kernel
end Go.KI
namespace Go.KI
open Go
theorem prefix45 (l : List UInt8) : Lib.hasPrefix l [45] = (l.head? == some 45) := by
  unfold Lib.hasPrefix
  cases l with
  | nil => rfl
  | cons c r =>
    by_cases h : c = 45
    · subst h
      rfl
    · have e1 : (c == 45) = false := by simpa using h
      have e2 : ((45 : UInt8) == c) = false := by simpa using Ne.symm h
      show ((45 : UInt8) == c && true) = (some c == some 45)
      rw [e2]
      show false = (c == 45)
      rw [e1]
theorem ratS_head {q : Rat} : (ratS q).head? = some 45 ↔ q.num < 0 := by
  have h : ∀ z : Int, (Lib.itoa z).head? = some 45 ↔ z < 0 := fun z => by
    rcases itoa_cases z with ⟨h1, h⟩ | ⟨h1, h⟩ <;> rw [h]
    · exact ⟨fun _ => h1, fun _ => rfl⟩
    · exact ⟨fun e => absurd e (dec_head45 _), fun e => by omega⟩
  unfold ratS
  split
  · exact h _
  · rw [← h q.num]
    cases hz : Lib.itoa q.num with
    | nil => exact absurd hz (by
        rcases itoa_cases q.num with ⟨_, h⟩ | ⟨_, h⟩ <;> rw [h]
        · simp
        · exact decDigits_ne _)
    | cons c r => rfl
end Go.KI
namespace Go.Proofs.YtgddookioipjiaaGreatDoor
open Go.RowKit Go.KP Go.KI Go.Shelf
attribute [local go_sem] Oper.semAt_some

set_option maxRecDepth 100000 in
theorem rNegative_at (s : ByteArray) (w : World) :
    Calls Tryz.prog 93 #[.string s] w (fun e w' => e = .returned (.bool (s.data.toList.head? == some 45)) ∧ w' = w) := by
  have H := hide (Tryz.strings_HasPrefix s ⟨#[45]⟩ w)
  obtain ⟨r, hr⟩ : ∃ r, r = (s.data.toList.head? == some 45) := ⟨_, rfl⟩
  have e : Lib.hasPrefix s.data.toList (⟨#[45]⟩ : ByteArray).data.toList = r := (prefix45 _).trans hr.symm
  rw [e] at H
  rw [← hr]
  clear hr e
  go_enter Tryz.func93, Tryz.ntmps93
  go_wp2_with fail
  refine H.out.mono ?_
  rintro e w1 ⟨rfl, rfl⟩
  go_wp2_with fail
  go_ret
  exact ⟨rfl, rfl⟩
set_option maxRecDepth 100000 in
theorem rNative_yes (s : ByteArray) (h : chkI s.data.toList = 0) (hl : s.size ≤ 17) (w : World) :
    Calls Tryz.prog 41 #[.string s] w (Ret w (.tuple #[.int .i64 (valI s.data.toList), .bool true])) := by
  have H1 := hide (atoi_any s h (by omega) w)
  have e1 : ((17 : Int) < (s.size : Int)) = False := eq_false (by omega)
  obtain ⟨v, hv⟩ : ∃ v, v = valI s.data.toList := ⟨_, rfl⟩
  rw [← hv] at H1 ⊢
  clear h hv hl
  go_enter Tryz.func41, Tryz.ntmps41
  go_wp2_with fail
  refine H1.out.mono ?_
  rintro e w1 ⟨rfl, hb⟩
  have HB1 := hide hb
  clear hb H1
  go_wp2_with fail
  go_quiet (fail)
  go_wp2_with fail
  refine bodyPost_ret (results_tmp2 rfl _ _ _) rfl ?_
  exact ⟨rfl, below_drewN HB1.out _⟩
set_option maxRecDepth 100000 in
theorem rNative_no (s : ByteArray) (hl : 17 < s.size) (w : World) :
    Calls Tryz.prog 41 #[.string s] w (Ret w (.tuple #[.int .i64 0, .bool false])) := by
  have e1 : (17 : Int) < (s.size : Int) := by omega
  clear hl
  go_enter Tryz.func41, Tryz.ntmps41
  go_wp2_with fail
  refine bodyPost_ret (results_tmp2 rfl _ _ _) rfl ?_
  exact ⟨rfl, Below.refl _ _⟩
/-- The first power of two from which Newton's steps fall. -/
theorem start_pow {n : Nat} (h0 : 2 ≤ n) (h1 : n < 1000000000000000000) : rootN n ≤ 2 ^ ((Lib.bitLen n + 1) / 2) ∧ 1 ≤ Lib.bitLen n ∧ Lib.bitLen n ≤ 60 := by
  obtain ⟨b1, b2, b3⟩ := Lib.bitLenAux_bounds 64 n (by omega) (by omega)
  obtain ⟨L, hL⟩ : ∃ L, L = Lib.bitLen n := ⟨_, rfl⟩
  have e : Lib.bitLenAux 64 n = L := hL.symm
  rw [e] at b1 b2 b3
  rw [← hL]
  refine ⟨?_, b1, ?_⟩
  · obtain ⟨k, hk⟩ : ∃ k, k = (L + 1) / 2 := ⟨_, rfl⟩
    rw [← hk]
    refine root_le_of (Nat.lt_of_lt_of_le b3 ?_)
    have h2 : 2 ^ L ≤ 2 ^ (k + k) := Nat.pow_le_pow_right (by omega) (by omega)
    rw [Nat.pow_add] at h2
    refine Nat.le_trans h2 (Nat.mul_le_mul (by omega) (by omega))
  · rcases Nat.lt_or_ge 60 L with h | h
    · have : 2 ^ 60 ≤ 2 ^ (L - 1) := Nat.pow_le_pow_right (by omega) (by omega)
      have h60 : (2 : Nat) ^ 60 = 1152921504606846976 := by decide
      omega
    · exact h
set_option maxRecDepth 100000 in
set_option maxHeartbeats 4000000 in
theorem rNativeRoot_any (n : Nat) (hn : n < 1000000000000000000) (w : World) :
    Calls Tryz.prog 96 #[.int .i64 n] w (Ret w (.int .i64 (rootN n))) := by
  by_cases h2 : n < 2
  · have e : rootN n = n := by
      have : n = 0 ∨ n = 1 := by omega
      rcases this with rfl | rfl <;> rfl
    rw [e]
    have h2i : (n : Int) < 2 := by omega
    clear e h2 hn
    go_enter Tryz.func96, Tryz.ntmps96
    go_wp2_with fail
    go_ret
    exact ⟨rfl, Below.refl _ _⟩
  · obtain ⟨s1, s2, s3⟩ := start_pow (n := n) (by omega) hn
    have HL := hide (Tryz.bits_Len (n : Int) w (by omega) (by omega))
    rw [Int.toNat_natCast] at HL
    obtain ⟨L, hL⟩ : ∃ L, L = Lib.bitLen n := ⟨_, rfl⟩
    rw [← hL] at s1 s2 s3 HL
    have h2i : ((n : Int) < 2) = False := eq_false (by omega)
    have n0 : (0 : Int) ≤ (n : Int) := by omega
    obtain ⟨k, hk⟩ : ∃ k, k = (L + 1) / 2 := ⟨_, rfl⟩
    have hk1 : ((L : Int) + 1) / 2 = (k : Int) := by omega
    have hk2 : k ≤ 30 := by omega
    have hk3 : 1 ≤ k := by omega
    obtain ⟨X, hX⟩ : ∃ X, X = 2 ^ k := ⟨_, rfl⟩
    rw [← hk, ← hX] at s1
    have hx1 : X ≤ 1073741824 := by
      rw [hX]
      exact Nat.le_trans (Nat.pow_le_pow_right (by omega) hk2) (by decide)
    have hx0 : 0 < X := by rw [hX]; exact Nat.pow_pos (by omega)
    have hsh : ((1 : Int) <<< k) = (X : Int) := by rw [Int.shiftLeft_eq, hX]; simp
    have HR := hide s1
    have H0 := hide h2
    have HX := hide hX
    clear hX s1 h2 hL hk
    go_enter Tryz.func96, Tryz.ntmps96
    go_wp2_with fail
    refine HL.out.mono ?_
    rintro e w1 ⟨rfl, rfl⟩
    clear HL
    go_wp2_with fail
    go_loopw [3] (fun a wr => ∃ x : Nat, a = .int .i64 x ∧ 0 < x ∧ x ≤ 2000000000 ∧ Hid (rootN n ≤ x) ∧ wr = w1) (fun a _ => (intOf a).toNat)
    case atStart =>
      refine ⟨X, ?_, hx0, by omega, HR, rfl⟩
      have hX := HX.out
      have : ((2 : Int) ^ k) = (X : Int) := by rw [hX]; simp
      rw [this]
      have e : wrap64 (X : Int) = (X : Int) := by unfold wrap64; omega
      rw [e]
    case round =>
      obtain ⟨x, rfl, hx0, hx1, hr, rfl⟩ := hrel
      have hxq : ((x : Int) == 0) = false := by
        have : (x : Int) ≠ 0 := by omega
        simpa using this
      obtain ⟨q, hq⟩ : ∃ q : Nat, q = n / x := ⟨_, rfl⟩
      have hd : (n : Int) / (x : Int) = (q : Int) := by rw [hq, Int.natCast_ediv]
      have hdl : q ≤ n := by rw [hq]; exact Nat.div_le_self _ _
      obtain ⟨y, hy⟩ : ∃ y : Nat, y = (x + q) / 2 := ⟨_, rfl⟩
      have hd2 : ((x : Int) + (q : Int)) / 2 = (y : Int) := by omega
      have HG := hide (newton_ge (n := n) hx0)
      have HE := hide (newton_end (n := n) hx0 hr.out)
      rw [← hq, ← hy] at HG HE
      have hyl : y ≤ 600000000000000000 := by omega
      clear hr hq hy
      by_cases hge : x ≤ y
      · have hg : (x : Int) ≤ (y : Int) := by omega
        have HRE := hide (HE.out hge)
        clear hge
        go_wp2_with fail
        go_ret
        exact ⟨by rw [HRE.out]; rfl, Below.refl _ _⟩
      · have hg : ((x : Int) ≤ (y : Int)) = False := eq_false (by omega)
        have hyx : y < x := by omega
        have hyp : 0 < y := Nat.lt_of_lt_of_le (root_pos (by have := H0.out; omega)) HG.out
        clear hge
        go_wp2_with fail
        go_roundw
        case rel => exact ⟨y, by rw [hd2], hyp, by omega, HG, trivial⟩
        case measure => simp only [intOf]; omega
end Go.Proofs.YtgddookioipjiaaGreatDoor
namespace Go.KI
open Go

theorem lv_cut (b : Nat) (l : List Nat) (k : Nat) (h : k ≤ l.length) : lv b l = lvT b l k + b ^ k * lv b (l.drop k) := by
  unfold lvT
  conv => lhs; rw [← List.take_append_drop k l]
  rw [lv_append, List.length_take, Nat.min_eq_left h]
theorem lat_drop (l : List Nat) (j i : Nat) : lat (l.drop j) i = lat l (j + i) := by
  unfold lat
  rw [List.getElem?_drop]
theorem lt_drop {b : Nat} {l : List Nat} (h : Lt b l) (j : Nat) : Lt b (l.drop j) := fun x hx => h x (List.mem_of_mem_drop hx)
theorem lt_take {b : Nat} {l : List Nat} (h : Lt b l) (j : Nat) : Lt b (l.take j) := fun x hx => h x (List.mem_of_mem_take hx)
/-- Limbs of one length and one value are the same. -/
theorem lv_inj {b : Nat} (hb : 0 < b) : ∀ {x y : List Nat}, Lt b x → Lt b y → x.length = y.length → lv b x = lv b y → x = y := by
  intro x
  induction x with
  | nil => intro y _ _ hl _; exact (List.eq_nil_of_length_eq_zero hl.symm).symm
  | cons a r ih =>
    intro y hx hy hl hv
    cases y with
    | nil => simp at hl
    | cons c s =>
      simp only [lv] at hv
      have ha := hx a (by simp)
      have hc := hy c (by simp)
      have h1 : a = c := by
        have e1 : (a + b * lv b r) % b = a := by rw [Nat.add_mul_mod_self_left, Nat.mod_eq_of_lt ha]
        have e2 : (c + b * lv b s) % b = c := by rw [Nat.add_mul_mod_self_left, Nat.mod_eq_of_lt hc]
        rw [← e1, hv, e2]
      subst h1
      have h2 : lv b r = lv b s := Nat.eq_of_mul_eq_mul_left hb (Nat.add_left_cancel hv)
      rw [ih (fun z hz => hx z (List.mem_cons_of_mem _ hz)) (fun z hz => hy z (List.mem_cons_of_mem _ hz)) (by simpa using hl) h2]
/-- Zeros above. -/
theorem high_zero {b : Nat} {l : List Nat} {n V : Nat} (hn : n ≤ l.length) (h : lv b l < V) (hV : V ≤ b ^ n) : lv b (l.drop n) = 0 ∧ lv b l = lvT b l n := by
  have h1 := lv_cut b l n hn
  have h2 : lv b (l.drop n) = 0 := by
    rcases Nat.eq_zero_or_pos (lv b (l.drop n)) with h3 | h3
    · exact h3
    · have : b ^ n * 1 ≤ b ^ n * lv b (l.drop n) := Nat.mul_le_mul_left _ h3
      omega
  rw [h2] at h1
  exact ⟨h2, by omega⟩
/-- The two lists agree ahead of the window and behind it. -/
structure WinEq (j n : Nat) (L M : List Nat) : Prop where
  len : M.length = L.length
  low : M.take j = L.take j
  high : M.drop (j + n) = L.drop (j + n)
theorem WinEq.refl (j n : Nat) (L : List Nat) : WinEq j n L L := ⟨rfl, rfl, rfl⟩
theorem WinEq.trans {j n : Nat} {a c d : List Nat} (h : WinEq j n a c) (k : WinEq j n c d) : WinEq j n a d := ⟨k.len.trans h.len, k.low.trans h.low, k.high.trans h.high⟩
theorem WinEq.set {j n : Nat} {L M : List Nat} (h : WinEq j n L M) {i : Nat} (hi : i < n) (v : Nat) : WinEq j n L (M.set (j + i) v) := by
  refine ⟨by rw [List.length_set]; exact h.len, ?_, ?_⟩
  · rw [← h.low, List.take_set_of_le (by omega)]
  · rw [← h.high, List.drop_set_of_lt (by omega)]
theorem drop_set_add (L : List Nat) (j i v : Nat) : (L.set (j + i) v).drop j = (L.drop j).set i v := by
  rw [List.drop_set, if_neg (by omega)]
  congr 1
  omega
theorem lvT_set_past {b : Nat} {L : List Nat} {i v : Nat} : lvT b (L.set i v) i = lvT b L i := by
  unfold lvT
  rw [List.take_set_of_le (Nat.le_refl _)]
/-- A window of limbs, i of them turned: the value of the turned ones. -/
theorem win_set {b : Nat} {M : List Nat} {j i v : Nat} (hi : j + i < M.length) : lvT b ((M.set (j + i) v).drop j) (i + 1) = lvT b (M.drop j) i + b ^ i * v := by
  rw [drop_set_add, lvT_succ, lvT_set_past, lat_set (by rw [List.length_drop]; omega), if_pos rfl]
theorem win_keep {L M : List Nat} {j i : Nat} (h : M.drop (j + i) = L.drop (j + i)) : lat M (j + i) = lat L (j + i) := by
  have h1 := lat_drop M (j + i) 0
  have h2 := lat_drop L (j + i) 0
  rw [Nat.add_zero] at h1 h2
  rw [← h1, ← h2, h]
theorem drop_set_next {L M : List Nat} {j i v : Nat} (h : M.drop (j + i) = L.drop (j + i)) : (M.set (j + i) v).drop (j + (i + 1)) = L.drop (j + (i + 1)) := by
  rw [List.drop_set_of_lt (by omega), show j + (i + 1) = (j + i) + 1 by omega]
  have h1 := congrArg (List.drop 1) h
  simpa only [List.drop_drop] using h1

/-- One limb taken: n + c + q y = x + b c2. -/
theorem take_step {b i q o c c2 n x y X Y : Nat} (h : o + q * Y = X + b ^ i * c) (h2 : n + c + q * y = x + b * c2) : (o + b ^ i * n) + q * (Y + b ^ i * y) = (X + b ^ i * x) + b ^ (i + 1) * c2 := by
  rw [Nat.pow_succ]
  have h3 : b ^ i * (n + c + q * y) = b ^ i * (x + b * c2) := by rw [h2]
  grind
/-- One limb put back: x + q y + c = n + b c2. -/
theorem rest_step {b i q o c c2 n x y X Y : Nat} (h : o + b ^ i * c = X + q * Y) (h2 : x + q * y + c = n + b * c2) : (o + b ^ i * n) + b ^ (i + 1) * c2 = (X + b ^ i * x) + q * (Y + b ^ i * y) := by
  rw [Nat.pow_succ]
  have h3 : b ^ i * (x + q * y + c) = b ^ i * (n + b * c2) := by rw [h2]
  grind
/-- Taken and put back: as it was. -/
theorem win_back {b j n q V : Nat} (hb : 0 < b) {L M R : List Nat} {c c2 : Nat} (hL : Lt b L) (hR : Lt b R) (h1 : WinEq j n L M) (h2 : WinEq j n M R)
    (e1 : lvT b (M.drop j) n + q * V = lvT b (L.drop j) n + b ^ n * c) (e2 : lvT b (R.drop j) n + b ^ n * c2 = lvT b (M.drop j) n + q * V) : R = L := by
  have h3 := h1.trans h2
  have b1 := lvT_lt hb (lt_drop hL j) n
  have b2 := lvT_lt hb (lt_drop hR j) n
  have e3 : lvT b (R.drop j) n + b ^ n * c2 = lvT b (L.drop j) n + b ^ n * c := by rw [e2, e1]
  have e4 : lvT b (R.drop j) n = lvT b (L.drop j) n := by
    have f1 : (lvT b (R.drop j) n + b ^ n * c2) % b ^ n = lvT b (R.drop j) n := by rw [Nat.add_mul_mod_self_left, Nat.mod_eq_of_lt b2]
    have f2 : (lvT b (L.drop j) n + b ^ n * c) % b ^ n = lvT b (L.drop j) n := by rw [Nat.add_mul_mod_self_left, Nat.mod_eq_of_lt b1]
    rw [← f1, e3, f2]
  have e5 : (R.drop j).take n = (L.drop j).take n := by
    refine lv_inj hb (lt_take (lt_drop hR j) n) (lt_take (lt_drop hL j) n) ?_ e4
    rw [List.length_take, List.length_take, List.length_drop, List.length_drop, h3.len]
  have k1 : R = R.take j ++ ((R.drop j).take n ++ R.drop (j + n)) := by rw [← List.drop_drop, List.take_append_drop, List.take_append_drop]
  have k2 : L = L.take j ++ ((L.drop j).take n ++ L.drop (j + n)) := by rw [← List.drop_drop, List.take_append_drop, List.take_append_drop]
  rw [k1, k2, h3.low, h3.high, e5]
/-- Three upper limbs bound the value from above. -/
theorem top3_lt {b : Nat} (hb : 0 < b) {l : List Nat} (h : Lt b l) (n : Nat) : lvT b l (n + 3) < b ^ n * (lat l n + b * lat l (n + 1) + b * (b * lat l (n + 2)) + 1) := by
  have h0 := lvT_lt hb h n
  have h1 : lvT b l (n + 3) = lvT b l n + b ^ n * (lat l n + b * lat l (n + 1) + b * (b * lat l (n + 2))) := by
    have p1 : b ^ (n + 1) = b ^ n * b := Nat.pow_succ ..
    have p2 : b ^ (n + 2) = b ^ n * b * b := by rw [show n + 2 = n + 1 + 1 from rfl, Nat.pow_succ, Nat.pow_succ]
    rw [lvT_succ, lvT_succ, lvT_succ, p1, p2]
    generalize b ^ n = P
    have e1 : P * (b * (b * lat l (n + 2))) = P * b * b * lat l (n + 2) := by rw [← Nat.mul_assoc, ← Nat.mul_assoc]
    have e2 : P * (b * lat l (n + 1)) = P * b * lat l (n + 1) := by rw [← Nat.mul_assoc]
    rw [Nat.mul_add, Nat.mul_add, e1, e2]
    omega
  rw [h1, Nat.mul_add _ _ 1, Nat.mul_one]
  omega
theorem top2_le {b : Nat} (l : List Nat) (n : Nat) : b ^ n * (lat l n + b * lat l (n + 1)) ≤ lvT b l (n + 2) := by
  rw [lvT_succ, lvT_succ, Nat.pow_succ]
  generalize b ^ n = P
  have : P * (lat l n + b * lat l (n + 1)) = P * lat l n + P * b * lat l (n + 1) := by grind
  omega
theorem top2_lt {b : Nat} (hb : 0 < b) {l : List Nat} (h : Lt b l) (n : Nat) : lvT b l (n + 1) < b ^ n * (lat l n + 1) := by
  rw [lvT_succ, Nat.mul_add, Nat.mul_one]
  have := lvT_lt hb h n
  omega
/-- The guess is not less than the quotient: it stays so when it is lowered because of the second limb. -/
theorem est_lower {P b q r t v1 v2 u0 U V : Nat} (hU : U < P * (t * b + u0 + 1)) (hV : P * (v2 + b * v1) ≤ V) (hqr : q * v1 + r = t) (hgt : r * b + u0 < q * v2) : U < q * V := by
  have h1 : t * b + u0 + 1 ≤ q * (v2 + b * v1) := by
    have : t * b = q * v1 * b + r * b := by rw [← hqr, Nat.add_mul]
    have : q * (v2 + b * v1) = q * v2 + q * v1 * b := by grind
    omega
  have h2 : P * (t * b + u0 + 1) ≤ P * (q * (v2 + b * v1)) := Nat.mul_le_mul_left _ h1
  have h3 : P * (q * (v2 + b * v1)) = q * (P * (v2 + b * v1)) := by grind
  have h4 : q * (P * (v2 + b * v1)) ≤ q * V := Nat.mul_le_mul_left _ hV
  omega
/-- The first guess. -/
theorem est_start {P b t v1 u0 U V : Nat} (hv : 0 < v1) (hu : u0 < b) (hU : U < P * (t * b + u0 + 1)) (hV : P * (b * v1) ≤ V) : U < (t / v1 + 1) * V := by
  have h1 := Nat.div_add_mod t v1
  have h2 := Nat.mod_lt t hv
  have h3 : t * b + u0 + 1 ≤ (t / v1 + 1) * (b * v1) := by
    have e : (t / v1 + 1) * (b * v1) = (v1 * (t / v1) + v1) * b := by grind
    have : (t + 1) * b ≤ (v1 * (t / v1) + v1) * b := Nat.mul_le_mul_right _ (by omega)
    have : (t + 1) * b = t * b + b := by grind
    omega
  have h4 : P * (t * b + u0 + 1) ≤ P * ((t / v1 + 1) * (b * v1)) := Nat.mul_le_mul_left _ h3
  have h5 : P * ((t / v1 + 1) * (b * v1)) = (t / v1 + 1) * (P * (b * v1)) := by grind
  have h6 : (t / v1 + 1) * (P * (b * v1)) ≤ (t / v1 + 1) * V := Nat.mul_le_mul_left _ hV
  omega
/-- One round of the long division. -/
theorem round_div {b j V U S S2 q Q : Nat} {T : Nat} (h : T + b ^ (j + 1) * (S + V * Q) = U) (x : Nat) (h2 : x + b * S = S2 + V * q) : ∀ T2, T = T2 + b ^ j * x → T2 + b ^ j * (S2 + V * (q + b * Q)) = U := by
  intro T2 hT
  rw [← h, hT, Nat.pow_succ]
  have : b ^ j * (x + b * S) = b ^ j * (S2 + V * q) := by rw [h2]
  grind
/-- The floor's quotient and remainder, from those of the sizes. -/
theorem floor_long (m1 m2 : Bool) {a b : Nat} (hb : 0 < b) :
    ((m1 = m2 ∨ a % b = 0) → valS (!(m1 == m2)) (a / b) = (valS m1 a).fdiv (valS m2 b) ∧ valS m2 (a % b) = (valS m1 a).fmod (valS m2 b)) ∧
    (m1 ≠ m2 → a % b ≠ 0 → valS (!(m1 == m2)) (a / b + 1) = (valS m1 a).fdiv (valS m2 b) ∧ valS m2 (b - a % b) = (valS m1 a).fmod (valS m2 b)) := by
  have h1 := Nat.div_add_mod a b
  have h2 := Nat.mod_lt a hb
  obtain ⟨q, hq⟩ : ∃ q, q = a / b := ⟨_, rfl⟩
  obtain ⟨r, hr⟩ : ∃ r, r = a % b := ⟨_, rfl⟩
  rw [← hq, ← hr] at h1 ⊢
  rw [← hr] at h2
  clear hq hr
  have h3 : (b : Int) * (q : Int) + (r : Int) = (a : Int) := by rw [← h1]; simp
  have h4 : -(b : Int) * (q : Int) = -((b : Int) * q) := Int.neg_mul ..
  have h5 : (b : Int) * -(q : Int) = -((b : Int) * q) := Int.mul_neg ..
  have h6 : -(b : Int) * -(q : Int) = (b : Int) * q := Int.neg_mul_neg ..
  have h7 : (b : Int) * -((q + 1 : Nat) : Int) = -((b : Int) * q) - b := by rw [Int.mul_neg, Int.natCast_add, Int.mul_add, Int.natCast_one, Int.mul_one]; omega
  have h8 : -(b : Int) * ((q + 1 : Nat) : Int) = -((b : Int) * q) - b := by rw [Int.neg_mul, Int.natCast_add, Int.mul_add, Int.natCast_one, Int.mul_one]; omega
  have hbp : (0 : Int) < (b : Int) := by omega
  have hbn : -(b : Int) < 0 := by omega
  constructor
  · intro h
    cases m1 <;> cases m2 <;> simp only [valS, Bool.false_eq_true, if_false, if_true, beq_self_eq_true, Bool.not_true, show (false == true) = false from rfl, show (true == false) = false from rfl, Bool.not_false]
    · have := (Int.fdiv_fmod_unique (a := (a : Int)) (r := (r : Int)) (q := (q : Int)) hbp).2 ⟨by omega, by omega, by omega⟩
      exact ⟨this.1.symm, this.2.symm⟩
    · have h0 : r = 0 := by simpa using h
      have := (Int.fdiv_fmod_unique' (a := (a : Int)) (r := -(r : Int)) (q := -(q : Int)) hbn).2 ⟨by omega, by omega, by omega⟩
      exact ⟨this.1.symm, this.2.symm⟩
    · have h0 : r = 0 := by simpa using h
      have := (Int.fdiv_fmod_unique (a := -(a : Int)) (r := (r : Int)) (q := -(q : Int)) hbp).2 ⟨by omega, by omega, by omega⟩
      exact ⟨this.1.symm, this.2.symm⟩
    · have := (Int.fdiv_fmod_unique' (a := -(a : Int)) (r := -(r : Int)) (q := (q : Int)) hbn).2 ⟨by omega, by omega, by omega⟩
      exact ⟨this.1.symm, this.2.symm⟩
  · intro hm h0
    cases m1 <;> cases m2 <;> simp only [valS, Bool.false_eq_true, if_false, if_true, beq_self_eq_true, Bool.not_true, show (false == true) = false from rfl, show (true == false) = false from rfl, Bool.not_false]
    · exact absurd rfl hm
    · have := (Int.fdiv_fmod_unique' (a := (a : Int)) (r := -((b - r : Nat) : Int)) (q := -((q + 1 : Nat) : Int)) hbn).2 ⟨by rw [Int.neg_mul_neg, Int.natCast_add, Int.mul_add, Int.natCast_one, Int.mul_one]; omega, by omega, by omega⟩
      exact ⟨this.1.symm, this.2.symm⟩
    · have := (Int.fdiv_fmod_unique (a := -(a : Int)) (r := ((b - r : Nat) : Int)) (q := -((q + 1 : Nat) : Int)) hbp).2 ⟨by omega, by omega, by omega⟩
      exact ⟨this.1.symm, this.2.symm⟩
    · exact absurd rfl hm
theorem fdiv_natAbs_le {x y : Int} (hy : y ≠ 0) : (x.fdiv y).natAbs ≤ x.natAbs := by
  have h := Int.mul_fdiv_add_fmod x y
  have hr : (y < 0 → y < x.fmod y ∧ x.fmod y ≤ 0) ∧ (0 < y → 0 ≤ x.fmod y ∧ x.fmod y < y) := by
    constructor
    · intro hn
      exact ((Int.fdiv_fmod_unique' (a := x) (r := x.fmod y) (q := x.fdiv y) hn).1 ⟨rfl, rfl⟩).2
    · intro hp
      exact ((Int.fdiv_fmod_unique (a := x) (r := x.fmod y) (q := x.fdiv y) hp).1 ⟨rfl, rfl⟩).2
  obtain ⟨q, hq⟩ : ∃ q, q = x.fdiv y := ⟨_, rfl⟩
  obtain ⟨r, hr2⟩ : ∃ r, r = x.fmod y := ⟨_, rfl⟩
  rw [← hq, ← hr2] at h
  rw [← hr2] at hr
  rw [← hq]
  clear hq hr2
  rcases Nat.eq_zero_or_pos q.natAbs with h0 | h0
  · omega
  have e : (y * q).natAbs = y.natAbs * q.natAbs := Int.natAbs_mul ..
  have e2 : y.natAbs + q.natAbs ≤ y.natAbs * q.natAbs + 1 := by
    obtain ⟨s, hs⟩ : ∃ s, y.natAbs = s + 1 := ⟨y.natAbs - 1, by omega⟩
    obtain ⟨t, ht⟩ : ∃ t, q.natAbs = t + 1 := ⟨q.natAbs - 1, by omega⟩
    rw [hs, ht]
    have : (s + 1) * (t + 1) = s * t + s + t + 1 := by grind
    omega
  omega
theorem fmod_natAbs_lt {x y : Int} (hy : y ≠ 0) : (x.fmod y).natAbs < y.natAbs := by
  rcases Int.lt_or_gt_of_ne hy with hn | hp
  · have := ((Int.fdiv_fmod_unique' (a := x) (r := x.fmod y) (q := x.fdiv y) hn).1 ⟨rfl, rfl⟩).2
    omega
  · have := ((Int.fdiv_fmod_unique (a := x) (r := x.fmod y) (q := x.fdiv y) hp).1 ⟨rfl, rfl⟩).2
    omega
/-- What the guess of a limb of the quotient keeps: q, the rest r of the upper two limbs T; S is the window's value, W the divisor's. -/
def EstAt (v1 T S W q r : Nat) : Prop := q * v1 + r = T ∧ S < (q + 1) * W
/-- What the guess starts from. -/
structure EstIn (b v1 v2 x0 x1 u0 S W : Nat) : Prop where
  pos : 0 < v1
  x0le : x0 ≤ v1
  x1lt : x1 < b
  u0lt : u0 < b
  small : S < b * W
  high : ∃ P, S < P * ((x0 * b + x1) * b + u0 + 1) ∧ P * (v2 + b * v1) ≤ W
theorem EstIn.of {b : Nat} (hb : 0 < b) {L V : List Nat} (hL : Lt b L) (hV : Norm b V) {j m : Nat} (hm : V.length = m + 2) (hn : j + (m + 2) < L.length) (h : lv b (L.drop (j + 1)) < lv b V) :
    EstIn b (lat V (m + 1)) (lat V m) (lat L (j + (m + 2))) (lat L (j + (m + 1))) (lat L (j + m)) (lvT b (L.drop j) (m + 3)) (lv b V) ∧ lv b (L.drop j) = lvT b (L.drop j) (m + 3) := by
  have hVl : lv b V < b ^ (m + 2) := by rw [← hm]; exact lv_lt hV.lt
  have hz := high_zero (b := b) (l := L.drop (j + 1)) (n := m + 2) (by rw [List.length_drop]; omega) h (Nat.le_of_lt hVl)
  have hdd : (L.drop j).drop (m + 3) = (L.drop (j + 1)).drop (m + 2) := by
    rw [List.drop_drop, List.drop_drop]
    congr 1
    omega
  have hcut := lv_cut b (L.drop j) (m + 3) (by rw [List.length_drop]; omega)
  rw [hdd, hz.1, Nat.mul_zero, Nat.add_zero] at hcut
  have hne : V ≠ [] := fun e => by rw [e] at hm; simp at hm
  have ht := hV.top.resolve_left hne
  rw [hm, show m + 2 - 1 = m + 1 by omega] at ht
  have hVt : lvT b V (m + 2) = lv b V := lvT_all (by omega)
  have hS : lvT b (L.drop j) (m + 3) < b * lv b V := by
    have h1 : lv b (L.drop j) = lat L j + b * lv b (L.drop (j + 1)) := by
      rw [List.drop_eq_getElem_cons (show j < L.length by omega)]
      show L[j] + b * lv b (L.drop (j + 1)) = _
      rw [lat_at (show j < L.length by omega)]
    have h2 := lat_lt hb hL j
    have h3 : b * (lv b (L.drop (j + 1)) + 1) ≤ b * lv b V := Nat.mul_le_mul_left b h
    rw [Nat.mul_add, Nat.mul_one] at h3
    omega
  refine ⟨⟨by omega, ?_, lat_lt hb hL _, lat_lt hb hL _, hS, b ^ m, ?_, ?_⟩, hcut⟩
  · have h1 := top2_lt hb hV.lt (m + 1)
    rw [hVt] at h1
    have h2 : b ^ (m + 1) * lat (L.drop (j + 1)) (m + 1) ≤ lvT b (L.drop (j + 1)) (m + 2) := by
      rw [lvT_succ]
      omega
    rw [lat_drop, show j + 1 + (m + 1) = j + (m + 2) by omega] at h2
    have h3 : b ^ (m + 1) * lat L (j + (m + 2)) < b ^ (m + 1) * (lat V (m + 1) + 1) := by
      rw [← hz.2] at h2
      omega
    have h4 := Nat.lt_of_mul_lt_mul_left h3
    omega
  · have h1 := top3_lt hb (lt_drop hL j) m
    rw [lat_drop, lat_drop, lat_drop] at h1
    have e : (lat L (j + (m + 2)) * b + lat L (j + (m + 1))) * b + lat L (j + m) + 1 = lat L (j + m) + b * lat L (j + (m + 1)) + b * (b * lat L (j + (m + 2))) + 1 := by grind
    rw [e]
    exact h1
  · have h1 := top2_le (b := b) V m
    rw [hVt] at h1
    exact h1
theorem EstIn.start {b v1 v2 x0 x1 u0 S W : Nat} (h : EstIn b v1 v2 x0 x1 u0 S W) : EstAt v1 (x0 * b + x1) S W ((x0 * b + x1) / v1) ((x0 * b + x1) % v1) ∧ (x0 * b + x1) / v1 < 2 * b := by
  obtain ⟨P, h1, h2⟩ := h.high
  refine ⟨⟨?_, ?_⟩, ?_⟩
  · rw [Nat.mul_comm]
    exact Nat.div_add_mod _ _
  · refine est_start h.pos h.u0lt h1 (Nat.le_trans (Nat.mul_le_mul_left P ?_) h2)
    omega
  · rw [Nat.div_lt_iff_lt_mul h.pos]
    have h3 : x0 * b ≤ v1 * b := Nat.mul_le_mul_right b h.x0le
    have h4 : 1 * b ≤ v1 * b := Nat.mul_le_mul_right b h.pos
    have h5 : 2 * b * v1 = v1 * b + v1 * b := by grind
    have := h.x1lt
    omega
theorem EstIn.down {b v1 v2 x0 x1 u0 S W q r : Nat} (h : EstIn b v1 v2 x0 x1 u0 S W) (ha : EstAt v1 (x0 * b + x1) S W q r) (hq : b ≤ q ∨ r * b + u0 < q * v2) (h1 : 1 ≤ q) : EstAt v1 (x0 * b + x1) S W (q - 1) (r + v1) := by
  obtain ⟨k, rfl⟩ : ∃ k, q = k + 1 := ⟨q - 1, by omega⟩
  rw [Nat.add_sub_cancel]
  have e : (k + 1) * v1 = k * v1 + v1 := by rw [Nat.add_mul, Nat.one_mul]
  refine ⟨by have := ha.1; omega, ?_⟩
  rcases hq with hq | hq
  · exact Nat.lt_of_lt_of_le h.small (Nat.mul_le_mul_right W hq)
  · obtain ⟨P, g1, g2⟩ := h.high
    exact est_lower g1 g2 ha.1 hq
theorem EstIn.stop {b v1 v2 x0 x1 u0 S W q r : Nat} (h : EstIn b v1 v2 x0 x1 u0 S W) (ha : EstAt v1 (x0 * b + x1) S W q r) (hr : b ≤ r) : q < b := by
  rcases Nat.lt_or_ge q b with h1 | h1
  · exact h1
  · have h2 : b * v1 ≤ q * v1 := Nat.mul_le_mul_right v1 h1
    have h3 : x0 * b ≤ v1 * b := Nat.mul_le_mul_right b h.x0le
    have h4 : v1 * b = b * v1 := Nat.mul_comm ..
    have := ha.1
    have := h.x1lt
    omega
end Go.KI
namespace Go.Proofs.YtgddookioipjiaaGreatDoor
open Go.RowKit Go.KP Go.KI Go.Shelf
attribute [local go_sem] Oper.semAt_some

/-- From w to w2 only block g has turned. -/
structure Only (g : Nat) (w w2 : World) : Prop where
  os : w2.os = w.os
  tape : w2.tape = w.tape
  output : w2.output = w.output
  size : w.heap.size ≤ w2.heap.size
  block : ∀ b, b ≠ g → b < w.heap.size → w2.heap[b]? = w.heap[b]?
theorem Only.refl (g : Nat) (w : World) : Only g w w := ⟨rfl, rfl, rfl, Nat.le_refl _, fun _ _ _ => rfl⟩
theorem Only.trans {g : Nat} {a b c : World} (h : Only g a b) (k : Only g b c) : Only g a c :=
  ⟨k.os.trans h.os, k.tape.trans h.tape, k.output.trans h.output, Nat.le_trans h.size k.size, fun i hi hl => (k.block i hi (Nat.lt_of_lt_of_le hl h.size)).trans (h.block i hi hl)⟩
theorem Only.drewN {g : Nat} {a w : World} (h : Only g a w) (n : Nat) : Only g a (w.drewN n) := ⟨h.os, h.tape, h.output, h.size, h.block⟩
theorem Only.set {g : Nat} {a w : World} (h : Only g a w) (k : Nat) (v : Value) : Only g a (w.setCell ⟨g, k, none⟩ v) :=
  ⟨h.os, h.tape, h.output, by rw [setCell_size]; exact h.size, fun b hb hl => (setCell_other (Ne.symm hb)).trans (h.block b hb hl)⟩
theorem Only.below {g n : Nat} {a w w2 : World} (h : Below n a w) (k : Only g w w2) (hn : n ≤ g) (hs : n ≤ w.heap.size) : Below n a w2 :=
  h.trans ⟨k.os, k.tape, k.output, k.size, fun b hb => k.block b (by omega) (by omega)⟩
/-- Block g begins with the limbs L; it has c cells. -/
def RowAt (w : World) (g c : Nat) (L : List Nat) : Prop := ∃ cur : Array Value, w.heap[g]? = some (.cells cur 3 (0, 0)) ∧ L.length ≤ c ∧ c ≤ maxLen ∧ cur.size = c * 1 ∧ cur.toList.take (L.length * 1) = icells L
theorem RowAt.cell {w : World} {g c : Nat} {L : List Nat} (h : RowAt w g c L) {i : Nat} (hi : i < L.length) : w.cell? ⟨g, i, none⟩ = some (.int .i64 (lat L i)) := by
  obtain ⟨cur, h1, _, _, _, h2⟩ := h
  rw [cell_blk h1, ← Array.getElem?_toList]
  have h3 := icells_at hi
  rw [← h2, List.getElem?_take, if_pos (by omega)] at h3
  exact h3
theorem RowAt.froz {w : World} {g c : Nat} {L : List Nat} (h : RowAt w g c L) (i : Nat) : w.frozen? ⟨g, i, none⟩ = false := by
  obtain ⟨cur, h1, _⟩ := h
  exact froz_blk h1 i
theorem RowAt.set {w : World} {g c : Nat} {L : List Nat} (h : RowAt w g c L) (k v : Nat) : RowAt (w.setCell ⟨g, k, none⟩ (.int .i64 v)) g c (L.set k v) := by
  obtain ⟨cur, h1, h2, h3, h4, h5⟩ := h
  refine ⟨cur.setIfInBounds k (.int .i64 v), ?_, by rw [List.length_set]; exact h2, h3, by simpa using h4, ?_⟩
  · simp only [World.setCell, Array.getElem?_modify, h1]
    simp
  · rw [List.length_set, Array.toList_setIfInBounds, List.take_set, h5]
    simp [icells, List.map_set]
theorem RowAt.only {w w2 : World} {g g2 c : Nat} {L : List Nat} (h : RowAt w g c L) (k : Only g2 w w2) (hg : g ≠ g2) : RowAt w2 g c L := by
  obtain ⟨cur, h1, h2⟩ := h
  exact ⟨cur, (k.block g hg (lt_blk h1)).trans h1, h2⟩
theorem RowAt.below {w w2 : World} {n g c : Nat} {L : List Nat} (h : RowAt w g c L) (k : Below n w w2) (hg : g < n) : RowAt w2 g c L := by
  obtain ⟨cur, h1, h2⟩ := h
  exact ⟨cur, below_blk k h1 hg, h2⟩
theorem RowAt.lt {w : World} {g c : Nat} {L : List Nat} (h : RowAt w g c L) : g < w.heap.size := by
  obtain ⟨cur, h1, _⟩ := h
  exact lt_blk h1
theorem RowAt.own {w : World} {g c base : Nat} {L : List Nat} (h : RowAt w g c L) (hb : base ≤ g) : OwnL base w (.slice (some ⟨g, 0, none⟩) L.length c) L := by
  obtain ⟨cur, h1, h2, h3, h4, h5⟩ := h
  exact ⟨by rw [icells_len]; omega, .inr ⟨g, c, cur, rfl, hb, h1, h2, h3, h4, h5⟩⟩
theorem RowAt.limbs {w : World} {g c : Nat} {L : List Nat} (h : RowAt w g c L) : LimbAt w.heap.size w (.slice (some ⟨g, 0, none⟩) L.length c) L := (h.own (Nat.zero_le _)).at_
theorem OwnL.row {base : Nat} {w : World} {v : Value} {L : List Nat} (h : OwnL base w v L) (h0 : L ≠ []) : ∃ g c, v = .slice (some ⟨g, 0, none⟩) L.length c ∧ base ≤ g ∧ RowAt w g c L := by
  rcases h.2 with ⟨_, h2⟩ | ⟨g, cap, cur, hv, h1, h2, h3, h4, h5, h6⟩
  · exact absurd (List.eq_nil_of_length_eq_zero h2) h0
  · exact ⟨g, cap, hv, h1, cur, h2, h3, h4, h5, h6⟩

/-- What take leaves: the window of L less q times V, and whether that was too much. -/
def TakeRes (g c : Nat) (L V : List Nat) (j q n : Nat) (w : World) (e : Ending) (w' : World) : Prop := ∃ (C : Nat) (M : List Nat), e = .returned (.bool (decide (0 < C))) ∧ Only g w w' ∧ RowAt w' g c M ∧ Lt 1000000000 M ∧ WinEq j (n + 1) L M ∧
  lvT 1000000000 (M.drop j) (n + 1) + q * lv 1000000000 V = lvT 1000000000 (L.drop j) (n + 1) + 1000000000 ^ (n + 1) * C
/-- What restore leaves. -/
def RestRes (g c : Nat) (L V : List Nat) (j q n N : Nat) (w : World) (e : Ending) (w' : World) : Prop := ∃ (C : Nat) (M : List Nat), e = .returned (.slice (some ⟨g, 0, none⟩) N c) ∧ Only g w w' ∧ RowAt w' g c M ∧ Lt 1000000000 M ∧ WinEq j (n + 1) L M ∧
  lvT 1000000000 (M.drop j) (n + 1) + 1000000000 ^ (n + 1) * C = lvT 1000000000 (L.drop j) (n + 1) + q * lv 1000000000 V
theorem take_nums {X C p : Nat} (hX : X < 1000000000) (hC : C < 1000000000) (hp : p ≤ 999999998000000001) (h : X < C + p) :
    ∃ m C2 R : Nat, (X : Int) - (C : Int) - (p : Int) = -(m : Int) ∧ ((m : Int) + 1000000000 - 1) / 1000000000 = (C2 : Int) ∧ (0 : Int) < (m : Int) ∧ (m : Int) ≤ 999999999000000000 ∧ (C2 : Int) < 1000000000 ∧
      IntKind.i64.wrap (-(m : Int) + (C2 : Int) * 1000000000) = (R : Int) ∧ R < 1000000000 ∧ R + C + p = X + 1000000000 * C2 := by
  obtain ⟨m, hm⟩ : ∃ m, m = C + p - X := ⟨_, rfl⟩
  obtain ⟨C2, hC2⟩ : ∃ C2, C2 = (m + 999999999) / 1000000000 := ⟨_, rfl⟩
  have h1 := Nat.div_add_mod (m + 999999999) 1000000000
  have h2 := Nat.mod_lt (m + 999999999) (show 0 < 1000000000 by omega)
  rw [← hC2] at h1
  have e : ((m : Int) + 1000000000 - 1) / 1000000000 = (C2 : Int) := by
    omega
  clear hC2
  obtain ⟨s, hs⟩ : ∃ s, s = (m + 999999999) % 1000000000 := ⟨_, rfl⟩
  rw [← hs] at h1 h2
  clear hs
  exact ⟨m, C2, C2 * 1000000000 - m, by omega, e, by omega, by omega, by omega, by rw [IntWalk.i64_in _ (by omega)]; omega, by omega, by omega⟩
set_option maxRecDepth 100000 in
set_option maxHeartbeats 4000000 in
theorem take_any (g c : Nat) (L : List Nat) (gv cv : Nat) (V : List Nat) (j q : Nat) (w : World) (hL : RowAt w g c L) (hV : RowAt w gv cv V) (hne : gv ≠ g) (hl : Lt 1000000000 L) (hv : Lt 1000000000 V) (hj : j + V.length + 1 ≤ L.length) (hq : q < 1000000000) (lL : L.length ≤ 200000) :
    Calls Tryz.prog 175 #[.slice (some ⟨g, 0, none⟩) L.length c, .slice (some ⟨gv, 0, none⟩) V.length cv, .int .i64 j, .int .i64 q] w (TakeRes g c L V j q V.length w) := by
  obtain ⟨N, hN⟩ : ∃ N, N = L.length := ⟨_, rfl⟩
  obtain ⟨n, hn⟩ : ∃ n, n = V.length := ⟨_, rfl⟩
  have HV := hide hV; have HL := hide hL; have LV := hide hv; have LL := hide hl; have HN := hide hN; have HNV := hide hn
  rw [← hN] at hj lL ⊢
  rw [← hn] at hj ⊢
  have hne2 := hide hne
  clear hV hL hv hl hN hn hne
  go_enter Tryz.func175, Tryz.ntmps175
  go_wp2_with fail
  go_loopw [9, 15] (fun cc i wr => ∃ (k C : Nat), k ≤ n + 1 ∧ i = .int .i64 k ∧ cc = .int .i64 C ∧ C < 1000000000 ∧ Hid (∃ M : List Nat, Only g w wr ∧ RowAt wr g c M ∧ Lt 1000000000 M ∧ WinEq j (n + 1) L M ∧ M.drop (j + k) = L.drop (j + k) ∧ lvT 1000000000 (M.drop j) k + q * lvT 1000000000 V k = lvT 1000000000 (L.drop j) k + 1000000000 ^ k * C)) (fun _ i _ => n + 1 - (intOf i).toNat)
  case atStart =>
    refine ⟨0, 0, Nat.zero_le _, rfl, rfl, by omega, L, Only.refl _ _, HL.out, LL.out, WinEq.refl _ _ _, rfl, ?_⟩
    show 0 + q * 0 = 0 + 1000000000 ^ 0 * 0
    rw [Nat.mul_zero, Nat.mul_zero]
  case round =>
    obtain ⟨k, C, hk, rfl, rfl, hC, hin⟩ := hrel
    obtain ⟨M, hO, hR, hM, hW, hD, hval⟩ := hin.out
    by_cases hlt : k < n + 1
    · have e4 : (k : Int) < (n : Int) + 1 := by omega
      have hMl : M.length = N := hW.len.trans HN.out.symm
      have hjk : j + k < M.length := by omega
      have q1 := hR.cell hjk
      have q2 := hR.froz (j + k)
      have hlk := lat_lt (by omega) hM (j + k)
      have hyk := lat_lt (by omega) LV.out k
      have hlim := hide (fun m : Nat => limb_same (.slice (some ⟨gv, 0, none⟩) n cv) V k wr.heap.size (wr.drewN m) (by rw [HNV.out]; exact (RowAt.limbs (w := wr.drewN m) (HV.out.only (hO.drewN m) hne2.out))) (by omega))
      obtain ⟨Y, hY⟩ : ∃ Y, Y = lat V k := ⟨_, rfl⟩
      obtain ⟨X, hX⟩ : ∃ X, X = lat M (j + k) := ⟨_, rfl⟩
      rw [← hY] at hyk hlim
      rw [← hX] at hlk q1
      have hm := mul_lt_sq hq hyk
      obtain ⟨p, hp⟩ : ∃ p, p = q * Y := ⟨_, rfl⟩
      have hpi : (q : Int) * (Y : Int) = (p : Int) := by rw [hp, Int.natCast_mul]
      rw [← hp] at hm
      have w0 : IntKind.i64.wrap ((j : Int) + (k : Int)) = (j : Int) + (k : Int) := IntWalk.i64_in _ (by omega)
      have w1 : IntKind.i64.wrap ((X : Int) - (C : Int)) = (X : Int) - (C : Int) := IntWalk.i64_in _ (by omega)
      have w2 : IntKind.i64.wrap (p : Int) = (p : Int) := IntWalk.i64_in _ (by omega)
      have j0 : (0 : Int) ≤ (j : Int) + (k : Int) := by omega
      have j1 : (j : Int) + (k : Int) < (N : Int) := by omega
      have j2 : ((j : Int) + (k : Int)).toNat = j + k := by omega
      have HO := hide hO; have HR := hide hR; have HM := hide hM; have HW := hide hW; have HD := hide hD; have HVL := hide hval; have HY := hide hY; have HX := hide hX; have HP := hide hp; have HJK := hide hjk
      clear hO hR hM hW hD hval hY hX hp hjk hMl hin
      by_cases hneg : X < C + p
      · obtain ⟨m, C2, R, f1, d1, m1, m2, c1, hrr, hRl, hs⟩ := take_nums hlk hC hm hneg
        have w3 : IntKind.i64.wrap ((X : Int) - (C : Int) - (p : Int)) = -(m : Int) := by rw [f1]; exact IntWalk.i64_in _ (by omega)
        have HS := hide hs
        have t1 : 0 < m := by omega
        clear f1 hs hneg hm
        go_wp2_with fail
        go_quiet ((go_at_call 177; exact Calls.quiet_of_same (hlim.out _)))
        have D1 := hide d1; have CB := hide c1
        clear w1 w2 w3 hpi hlim
        go_wp2_with fail
        go_roundw
        case rel =>
          refine ⟨k + 1, C2, by omega, by go_num, by rw [D1.out], by have := CB.out; omega, M.set (j + k) R, (HO.out.drewN nq).set _ _, RowAt.set (w := wr.drewN nq) HR.out _ _, lt_set HM.out hRl, HW.out.set (by omega) _, drop_set_next HD.out, ?_⟩
          rw [win_set HJK.out, lvT_succ, lvT_succ, lat_drop, ← HY.out, ← win_keep HD.out, ← HX.out]
          exact take_step HVL.out (by rw [← HP.out]; exact HS.out)
        case measure => simp [intOf]; omega
      · obtain ⟨R, hR2⟩ : ∃ R, R = X - (C + p) := ⟨_, rfl⟩
        have w3 : IntKind.i64.wrap ((X : Int) - (C : Int) - (p : Int)) = (R : Int) := by rw [IntWalk.i64_in _ (by omega)]; omega
        have HS := hide (show R + C + p = X + 1000000000 * 0 by omega)
        have hRl : R < 1000000000 := by omega
        have t1 : ((R : Int) < 0) = False := eq_false (by omega)
        clear hR2 hneg hm
        go_wp2_with fail
        go_quiet ((go_at_call 177; exact Calls.quiet_of_same (hlim.out _)))
        clear w1 w2 w3 hpi hlim
        go_wp2_with fail
        go_roundw
        case rel =>
          refine ⟨k + 1, 0, by omega, by go_num, rfl, by omega, M.set (j + k) R, (HO.out.drewN nq).set _ _, RowAt.set (w := wr.drewN nq) HR.out _ _, lt_set HM.out hRl, HW.out.set (by omega) _, drop_set_next HD.out, ?_⟩
          rw [win_set HJK.out, lvT_succ, lvT_succ, lat_drop, ← HY.out, ← win_keep HD.out, ← HX.out]
          exact take_step HVL.out (by rw [← HP.out]; exact HS.out)
        case measure => simp [intOf]; omega
    · obtain rfl : k = n + 1 := by omega
      have e4 : ¬ (((n + 1 : Nat) : Int) < (n : Int) + 1) := by omega
      have HF := hide (show ∃ M : List Nat, Only g w wr ∧ RowAt wr g c M ∧ Lt 1000000000 M ∧ WinEq j (n + 1) L M ∧ lvT 1000000000 (M.drop j) (n + 1) + q * lv 1000000000 V = lvT 1000000000 (L.drop j) (n + 1) + 1000000000 ^ (n + 1) * C from ⟨M, hO, hR, hM, hW, by rw [lvT_all (l := V) (by have := HNV.out; omega)] at hval; exact hval⟩)
      clear hO hR hM hW hD hval hin
      go_wp2_with fail
      go_ret
      obtain ⟨M, f1, f2, f3, f4, f5⟩ := HF.out
      exact ⟨C, M, rfl, f1, f2, f3, f4, f5⟩
theorem rest_nums {X C p : Nat} (hX : X < 1000000000) (hC : C < 1000000000) (hp : p ≤ 999999998000000001) :
    ∃ t C2 R : Nat, (X : Int) + (p : Int) + (C : Int) = (t : Int) ∧ IntKind.i64.wrap ((X : Int) + (p : Int)) = (X : Int) + (p : Int) ∧ IntKind.i64.wrap ((X : Int) + (p : Int) + (C : Int)) = (t : Int) ∧ (t : Int) / 1000000000 = (C2 : Int) ∧ (t : Int) % 1000000000 = (R : Int) ∧ t ≤ 1000000000000000000 ∧ C2 < 1000000000 ∧ R < 1000000000 ∧ X + p + C = R + 1000000000 * C2 := by
  have h1 := Nat.div_add_mod (X + p + C) 1000000000
  have h2 := Nat.mod_lt (X + p + C) (show 0 < 1000000000 by omega)
  refine ⟨X + p + C, (X + p + C) / 1000000000, (X + p + C) % 1000000000, by omega, IntWalk.i64_in _ (by omega), ?_, by omega, by omega, by omega, by omega, h2, by omega⟩
  rw [IntWalk.i64_in _ (by omega)]
  omega
set_option maxRecDepth 100000 in
set_option maxHeartbeats 4000000 in
theorem restore_any (g c : Nat) (L : List Nat) (gv cv : Nat) (V : List Nat) (j q : Nat) (w : World) (hL : RowAt w g c L) (hV : RowAt w gv cv V) (hne : gv ≠ g) (hl : Lt 1000000000 L) (hv : Lt 1000000000 V) (hj : j + V.length + 1 ≤ L.length) (hq : q < 1000000000) (lL : L.length ≤ 200000) :
    Calls Tryz.prog 176 #[.slice (some ⟨g, 0, none⟩) L.length c, .slice (some ⟨gv, 0, none⟩) V.length cv, .int .i64 j, .int .i64 q] w (RestRes g c L V j q V.length L.length w) := by
  obtain ⟨N, hN⟩ : ∃ N, N = L.length := ⟨_, rfl⟩
  obtain ⟨n, hn⟩ : ∃ n, n = V.length := ⟨_, rfl⟩
  have HV := hide hV; have HL := hide hL; have LV := hide hv; have LL := hide hl; have HN := hide hN; have HNV := hide hn
  rw [← hN] at hj lL ⊢
  rw [← hn] at hj ⊢
  have hne2 := hide hne
  clear hV hL hv hl hN hn hne
  go_enter Tryz.func176, Tryz.ntmps176
  go_wp2_with fail
  go_loopw [9, 15] (fun cc i wr => ∃ (k C : Nat), k ≤ n + 1 ∧ i = .int .i64 k ∧ cc = .int .i64 C ∧ C < 1000000000 ∧ Hid (∃ M : List Nat, Only g w wr ∧ RowAt wr g c M ∧ Lt 1000000000 M ∧ WinEq j (n + 1) L M ∧ M.drop (j + k) = L.drop (j + k) ∧ lvT 1000000000 (M.drop j) k + 1000000000 ^ k * C = lvT 1000000000 (L.drop j) k + q * lvT 1000000000 V k)) (fun _ i _ => n + 1 - (intOf i).toNat)
  case atStart =>
    refine ⟨0, 0, Nat.zero_le _, rfl, rfl, by omega, L, Only.refl _ _, HL.out, LL.out, WinEq.refl _ _ _, rfl, ?_⟩
    show 0 + 1000000000 ^ 0 * 0 = 0 + q * 0
    rw [Nat.mul_zero, Nat.mul_zero]
  case round =>
    obtain ⟨k, C, hk, rfl, rfl, hC, hin⟩ := hrel
    obtain ⟨M, hO, hR, hM, hW, hD, hval⟩ := hin.out
    by_cases hlt : k < n + 1
    · have e4 : (k : Int) < (n : Int) + 1 := by omega
      have hMl : M.length = N := hW.len.trans HN.out.symm
      have hjk : j + k < M.length := by omega
      have q1 := hR.cell hjk
      have q2 := hR.froz (j + k)
      have hlk := lat_lt (by omega) hM (j + k)
      have hyk := lat_lt (by omega) LV.out k
      have hlim := hide (fun m : Nat => limb_same (.slice (some ⟨gv, 0, none⟩) n cv) V k wr.heap.size (wr.drewN m) (by rw [HNV.out]; exact (RowAt.limbs (w := wr.drewN m) (HV.out.only (hO.drewN m) hne2.out))) (by omega))
      obtain ⟨Y, hY⟩ : ∃ Y, Y = lat V k := ⟨_, rfl⟩
      obtain ⟨X, hX⟩ : ∃ X, X = lat M (j + k) := ⟨_, rfl⟩
      rw [← hY] at hyk hlim
      rw [← hX] at hlk q1
      have hm := mul_lt_sq hq hyk
      obtain ⟨p, hp⟩ : ∃ p, p = q * Y := ⟨_, rfl⟩
      have hpi : (q : Int) * (Y : Int) = (p : Int) := by rw [hp, Int.natCast_mul]
      rw [← hp] at hm
      have w0 : IntKind.i64.wrap ((j : Int) + (k : Int)) = (j : Int) + (k : Int) := IntWalk.i64_in _ (by omega)
      have w2 : IntKind.i64.wrap (p : Int) = (p : Int) := IntWalk.i64_in _ (by omega)
      obtain ⟨t, C2, R, -, w1, w3, d1, d2, ht, hC2, hRl, hs⟩ := rest_nums hlk hC hm
      have j0 : (0 : Int) ≤ (j : Int) + (k : Int) := by omega
      have j1 : (j : Int) + (k : Int) < (N : Int) := by omega
      have j2 : ((j : Int) + (k : Int)).toNat = j + k := by omega
      have HO := hide hO; have HR := hide hR; have HM := hide hM; have HW := hide hW; have HD := hide hD; have HVL := hide hval; have HY := hide hY; have HX := hide hX; have HP := hide hp; have HJK := hide hjk; have HS := hide hs
      clear hO hR hM hW hD hval hY hX hp hjk hMl hin hs hm
      go_wp2_with fail
      go_quiet ((go_at_call 177; exact Calls.quiet_of_same (hlim.out _)))
      clear w1 w2 w3 hpi hlim
      go_wp2_with fail
      go_roundw
      case rel =>
        refine ⟨k + 1, C2, by omega, by go_num, by first | rfl | rw [d1], hC2, M.set (j + k) R, (HO.out.drewN nq).set _ _, RowAt.set (w := wr.drewN nq) HR.out _ _, lt_set HM.out hRl, HW.out.set (by omega) _, drop_set_next HD.out, ?_⟩
        rw [win_set HJK.out, lvT_succ, lvT_succ, lat_drop, ← HY.out, ← win_keep HD.out, ← HX.out]
        exact rest_step HVL.out (by rw [← HP.out]; exact HS.out)
      case measure => simp [intOf]; omega
    · obtain rfl : k = n + 1 := by omega
      have e4 : ¬ (((n + 1 : Nat) : Int) < (n : Int) + 1) := by omega
      have HF := hide (show ∃ M : List Nat, Only g w wr ∧ RowAt wr g c M ∧ Lt 1000000000 M ∧ WinEq j (n + 1) L M ∧ lvT 1000000000 (M.drop j) (n + 1) + 1000000000 ^ (n + 1) * C = lvT 1000000000 (L.drop j) (n + 1) + q * lv 1000000000 V from ⟨M, hO, hR, hM, hW, by rw [lvT_all (l := V) (by have := HNV.out; omega)] at hval; exact hval⟩)
      clear hO hR hM hW hD hval hin
      go_wp2_with fail
      go_ret
      obtain ⟨M, f1, f2, f3, f4, f5⟩ := HF.out
      exact ⟨C, M, rfl, f1, f2, f3, f4, f5⟩
/-- What estimate returns. -/
def EstRes (S W : Nat) (w : World) (e : Ending) (w' : World) : Prop := ∃ q : Nat, e = .returned (.int .i64 q) ∧ q < 1000000000 ∧ S < (q + 1) * W ∧ Below w.heap.size w w'
theorem est_nums {x0 x1 : Nat} (h0 : x0 < 1000000000) (h1 : x1 < 1000000000) : ((x0 : Int) * 1000000000 + (x1 : Int) = ((x0 * 1000000000 + x1 : Nat) : Int)) ∧ x0 * 1000000000 + x1 < 1000000000000000000 := by omega
set_option maxRecDepth 100000 in
set_option maxHeartbeats 4000000 in
theorem estimate_any (g c : Nat) (L : List Nat) (gv cv : Nat) (V : List Nat) (j m : Nat) (w : World) (hL : RowAt w g c L) (hV : RowAt w gv cv V) (hl : Lt 1000000000 L) (hv : Norm 1000000000 V) (hm : V.length = m + 2) (hj : j + (m + 2) < L.length) (lL : L.length ≤ 200000) (hs : lv 1000000000 (L.drop (j + 1)) < lv 1000000000 V) :
    Calls Tryz.prog 174 #[.slice (some ⟨g, 0, none⟩) L.length c, .slice (some ⟨gv, 0, none⟩) V.length cv, .int .i64 j] w (EstRes (lvT 1000000000 (L.drop j) (m + 3)) (lv 1000000000 V) w) := by
  have HI := hide (EstIn.of (by omega) hl hv hm hj hs).1
  have c0 := hide (fun w' (hb : Below w.heap.size w w') => (hL.below hb hL.lt).cell (i := j + (m + 2)) hj)
  have c1 := hide (fun w' (hb : Below w.heap.size w w') => (hL.below hb hL.lt).cell (i := j + (m + 1)) (by omega))
  have c2 := hide (fun w' (hb : Below w.heap.size w w') => (hL.below hb hL.lt).cell (i := j + m) (by omega))
  have d1 := hide (fun w' (hb : Below w.heap.size w w') => (hV.below hb hV.lt).cell (i := m + 1) (by omega))
  have d2 := hide (fun w' (hb : Below w.heap.size w w') => (hV.below hb hV.lt).cell (i := m) (by omega))
  obtain ⟨x0, hx0⟩ : ∃ x, x = lat L (j + (m + 2)) := ⟨_, rfl⟩
  obtain ⟨x1, hx1⟩ : ∃ x, x = lat L (j + (m + 1)) := ⟨_, rfl⟩
  obtain ⟨u0, hu0⟩ : ∃ x, x = lat L (j + m) := ⟨_, rfl⟩
  obtain ⟨v1, hv1⟩ : ∃ x, x = lat V (m + 1) := ⟨_, rfl⟩
  obtain ⟨v2, hv2⟩ : ∃ x, x = lat V m := ⟨_, rfl⟩
  have b0 : x0 < 1000000000 := by rw [hx0]; exact lat_lt (by omega) hl _
  have b1 : x1 < 1000000000 := by rw [hx1]; exact lat_lt (by omega) hl _
  have b2 : u0 < 1000000000 := by rw [hu0]; exact lat_lt (by omega) hl _
  have b3 : v1 < 1000000000 := by rw [hv1]; exact lat_lt (by omega) hv.lt _
  have b4 : v2 < 1000000000 := by rw [hv2]; exact lat_lt (by omega) hv.lt _
  rw [← hx0, ← hx1, ← hu0, ← hv1, ← hv2] at HI
  rw [← hx0] at c0
  rw [← hx1] at c1
  rw [← hu0] at c2
  rw [← hv1] at d1
  rw [← hv2] at d2
  obtain ⟨N, hN⟩ : ∃ N, N = L.length := ⟨_, rfl⟩
  rw [← hN] at hj lL ⊢
  rw [hm]
  obtain ⟨S, hS⟩ : ∃ S, S = lvT 1000000000 (L.drop j) (m + 3) := ⟨_, rfl⟩
  obtain ⟨W, hW⟩ : ∃ W, W = lv 1000000000 V := ⟨_, rfl⟩
  rw [← hS, ← hW] at HI ⊢
  have hvp : 0 < v1 := HI.out.pos
  have hst := HI.out.start
  obtain ⟨eT, hTl⟩ := est_nums b0 b1
  obtain ⟨T, hT⟩ : ∃ T, T = x0 * 1000000000 + x1 := ⟨_, rfl⟩
  have HDn := hide (fun q r => HI.out.down (q := q) (r := r))
  have HSt := hide (fun q r => HI.out.stop (q := q) (r := r))
  rw [← hT] at hst eT hTl HDn HSt
  obtain ⟨q0, hq0⟩ : ∃ q, q = T / v1 := ⟨_, rfl⟩
  obtain ⟨r0, hr0⟩ : ∃ r, r = T % v1 := ⟨_, rfl⟩
  have hrl : r0 < v1 := by rw [hr0]; exact Nat.mod_lt _ hvp
  have eq0 : (T : Int) / (v1 : Int) = (q0 : Int) := by rw [hq0, Int.natCast_ediv]
  have er0 : (T : Int) % (v1 : Int) = (r0 : Int) := by rw [hr0, Int.natCast_emod]
  rw [← hq0, ← hr0] at hst
  obtain ⟨hst, hq0l⟩ := hst
  have HS0 := hide hst
  have hv0 : ((v1 : Int) == 0) = false := by
    have : (v1 : Int) ≠ 0 := by omega
    simpa using this
  obtain ⟨a0, ha0⟩ : ∃ a : Nat, a = j + (m + 2) := ⟨_, rfl⟩
  obtain ⟨a1, ha1⟩ : ∃ a : Nat, a = j + (m + 1) := ⟨_, rfl⟩
  obtain ⟨a2, ha2⟩ : ∃ a : Nat, a = j + m := ⟨_, rfl⟩
  obtain ⟨n, hn⟩ : ∃ n : Nat, n = m + 2 := ⟨_, rfl⟩
  obtain ⟨b, hb⟩ : ∃ b : Nat, b = m + 1 := ⟨_, rfl⟩
  rw [← ha0] at c0 hj
  rw [← ha1] at c1
  rw [← ha2] at c2
  rw [← hb] at d1
  rw [← hn]
  have e0 : (j : Int) + (n : Int) = (a0 : Int) := by omega
  have e1 : (a0 : Int) - 1 = (a1 : Int) := by omega
  have e2 : (a0 : Int) - 2 = (a2 : Int) := by omega
  have e3 : (n : Int) - 1 = (b : Int) := by omega
  have e4 : (n : Int) - 2 = (m : Int) := by omega
  have f0 : (a0 : Int) < (N : Int) := by omega
  have f1 : (a1 : Int) < (N : Int) := by omega
  have f2 : (a2 : Int) < (N : Int) := by omega
  have f3 : (b : Int) < (n : Int) := by omega
  have f4 : (m : Int) < (n : Int) := by omega
  have f5 : (n : Int) ≤ 200000 := by omega
  have hvp2 : (0 : Int) < (v1 : Int) := by omega
  clear hL hV hl hv hm hs hx0 hx1 hu0 hv1 hv2 hN hS hW hT hq0 hr0 hst ha0 ha1 ha2 hn hb
  have q1 := c0.out w (Below.refl _ _)
  have q2 := c1.out w (Below.refl _ _)
  have q3 := d1.out w (Below.refl _ _)
  go_enter Tryz.func174, Tryz.ntmps174
  go_wp2_with fail
  go_quiet (fail)
  have HB1 := hide (below_drewN (Below.refl w.heap.size w) nq)
  go_wp2_with fail
  go_quiet (fail)
  have HB2 := hide (below_drewN HB1.out nq)
  clear HB1
  go_wp2_with fail
  go_loopw [9, 10] (fun qq rr wr => ∃ q r : Nat, qq = .int .i64 q ∧ rr = .int .i64 r ∧ r < 1000000000 ∧ q < 2000000000 ∧ Hid (EstAt v1 T S W q r ∧ Below w.heap.size w wr)) (fun qq _ _ => (intOf qq).toNat)
  case atStart => exact ⟨q0, r0, rfl, by rw [er0], by omega, by omega, HS0.out, HB2.out⟩
  case round =>
    obtain ⟨q, r, rfl, rfl, hr, hq, hin⟩ := hrel
    have HA := hide hin.out.1; have HB := hide hin.out.2
    clear hin
    have q3 := d1.out wr HB.out
    have q4 := d2.out wr HB.out
    have q5 := c2.out wr HB.out
    by_cases hge : 1000000000 ≤ q
    · have g1 : (1000000000 : Int) ≤ (q : Int) := by omega
      go_wp2_with fail
      go_quiet (fail)
      have HB := hide (below_drewN HB.out nq)
      go_wp2_with fail
      have hq1 : 1 ≤ q := by omega
      have HA2 := hide (HDn.out q r HA.out (.inl hge) hq1)
      have hqi : (1 : Int) ≤ (q : Int) := by omega
      have w5 : (q : Int) - 1 = ((q - 1 : Nat) : Int) := by omega
      obtain ⟨q2, hq2⟩ : ∃ q2, q2 = q - 1 := ⟨_, rfl⟩
      rw [← hq2] at HA2 w5
      have hql2 : q2 < q := by omega
      obtain ⟨r2, hr2⟩ : ∃ r2, r2 = r + v1 := ⟨_, rfl⟩
      rw [← hr2] at HA2
      have w6 : (r : Int) + (v1 : Int) = (r2 : Int) := by omega
      have hrl2 : r2 < 2000000000 := by omega
      clear hq2 hr2
      by_cases hb : 1000000000 ≤ r2
      · have g3 : (1000000000 : Int) ≤ (r2 : Int) := by omega
        have HX := hide (HSt.out q2 r2 HA2.out hb)
        clear hb
        go_wp2_with fail
        go_quiet (fail)
        have HB := hide (below_drewN HB.out nq)
        go_wp2_with fail
        go_ret
        exact ⟨q2, by first | rfl | rw [w5], HX.out, HA2.out.2, HB.out.os, HB.out.tape, HB.out.output, HB.out.size, HB.out.block⟩
      · have g3 : ((1000000000 : Int) ≤ (r2 : Int)) = False := eq_false (by omega)
        go_wp2_with fail
        go_quiet (fail)
        have HB := hide (below_drewN HB.out nq)
        go_wp2_with fail
        go_roundw
        case rel => exact ⟨q2, r2, by first | rfl | rw [w5], by first | rfl | rw [w6], by omega, by omega, HA2.out, HB.out.os, HB.out.tape, HB.out.output, HB.out.size, HB.out.block⟩
        case measure => simp [intOf]; omega
    · have g1 : ((1000000000 : Int) ≤ (q : Int)) = False := eq_false (by omega)
      have g2 : (r : Int) < 1000000000 := by omega
      have hpm := mul_lt_sq (x := q) (y := v2) (by omega) b4
      obtain ⟨p, hp⟩ : ∃ p, p = q * v2 := ⟨_, rfl⟩
      have hpi : (q : Int) * (v2 : Int) = (p : Int) := by rw [hp, Int.natCast_mul]
      have HP := hide hp
      rw [← hp] at hpm
      by_cases hc : r * 1000000000 + u0 < p
      · have g4 : (r : Int) * 1000000000 + (u0 : Int) < (p : Int) := by omega
        clear hp
        go_wp2_with fail
        go_quiet (fail)
        have HB := hide (below_drewN HB.out nq)
        go_wp2_with fail
        have hq1 : 1 ≤ q := by rcases Nat.eq_zero_or_pos q with h0 | h0; exact absurd hc (by rw [HP.out, h0, Nat.zero_mul]; omega); exact h0
        have HA2 := hide (HDn.out q r HA.out (.inr (by rw [← HP.out]; exact hc)) hq1)
        have hqi : (1 : Int) ≤ (q : Int) := by omega
        have w5 : (q : Int) - 1 = ((q - 1 : Nat) : Int) := by omega
        obtain ⟨q2, hq2⟩ : ∃ q2, q2 = q - 1 := ⟨_, rfl⟩
        rw [← hq2] at HA2 w5
        have hql2 : q2 < q := by omega
        obtain ⟨r2, hr2⟩ : ∃ r2, r2 = r + v1 := ⟨_, rfl⟩
        rw [← hr2] at HA2
        have w6 : (r : Int) + (v1 : Int) = (r2 : Int) := by omega
        have hrl2 : r2 < 2000000000 := by omega
        clear hq2 hr2
        by_cases hb : 1000000000 ≤ r2
        · have g3 : (1000000000 : Int) ≤ (r2 : Int) := by omega
          have HX := hide (HSt.out q2 r2 HA2.out hb)
          clear hb
          go_wp2_with fail
          go_quiet (fail)
          have HB := hide (below_drewN HB.out nq)
          go_wp2_with fail
          go_ret
          exact ⟨q2, by first | rfl | rw [w5], HX.out, HA2.out.2, HB.out.os, HB.out.tape, HB.out.output, HB.out.size, HB.out.block⟩
        · have g3 : ((1000000000 : Int) ≤ (r2 : Int)) = False := eq_false (by omega)
          go_wp2_with fail
          go_quiet (fail)
          have HB := hide (below_drewN HB.out nq)
          go_wp2_with fail
          go_roundw
          case rel => exact ⟨q2, r2, by first | rfl | rw [w5], by first | rfl | rw [w6], by omega, by omega, HA2.out, HB.out.os, HB.out.tape, HB.out.output, HB.out.size, HB.out.block⟩
          case measure => simp [intOf]; omega
      · have g4 : ((r : Int) * 1000000000 + (u0 : Int) < (p : Int)) = False := eq_false (by omega)
        clear hp
        go_wp2_with fail
        go_quiet (fail)
        have HB := hide (below_drewN HB.out nq)
        go_wp2_with fail
        go_ret
        exact ⟨q, rfl, by omega, HA.out.2, HB.out⟩
end Go.Proofs.YtgddookioipjiaaGreatDoor
namespace Go.KP
open Go

section
variable {P : Program} {C : World → Prop}
theorem wp_only {o : Oper} {a : Act} {w : World} {K K' : Act → World → Prop} {Q Q' : Exit → Act → World → Prop} (hK : ∀ a w, K a w → K' a w) (hQ : ∀ e a w, e ≠ .normal → ¬ Q e a w) (hL : ¬ LetsOut Q) (h : o.wp P a w K Q) : o.wp P a w K' Q' := by
  unfold Oper.wp at *
  generalize (execOp a.eval o).run P w = r at *
  cases r with
  | ok n w' =>
    cases n <;> simp only [Oper.upon] at h ⊢ <;>
      first
        | exact hK _ _ h
        | (refine Calls.mono h (fun e w'' he => ?_)
           cases e
           · exact hK _ _ he
           · exact (hQ _ _ _ (by simp) he).elim
           · exact (hL he).elim)
        | exact Rows.mono h (fun _ _ he => hK _ _ he)
  | halt x w' => cases x <;> simp only [Oper.upon] at h ⊢ <;> exact (hQ _ _ _ (by simp) h).elim
end
end Go.KP
namespace Go.KP
open Go

/-- Operations that yield a value and neither call nor wait. -/
def plainOp (o : Oper) : Bool := match o.op with
  | .move _ | .assign _ | .load _ _ | .binOp _ _ _ _ _ | .unOp _ _ _ | .indexAddr _ _ _ | .convert _ _ _ | .slice _ _ _ _ _ | .fieldAddr _ _ _ | .field _ _ _ | .index _ _ _ => true
  | _ => false
section
variable {P : Program} {md : Region.Mode}
theorem plain_value {o : Oper} (h : plainOp o = true) {ρ : Operand → Value} {w w' : World} {nx : Next} (hr : (execOp ρ o).run P w = .ok nx w') : ∃ v, nx = .value v := by
  have key : ∀ s : Sem Value, (do let x ← s; pure (Next.value x) : Sem Next).run P w = .ok nx w' → ∃ v, nx = .value v := by
    intro s hs
    simp only [Sem.run_bind, Sem.run_pure] at hs
    cases hx : s.run P w with
    | ok x w1 =>
      rw [hx] at hs
      simp only [Result.andThen] at hs
      injection hs with h1 h2
      exact ⟨x, h1.symm⟩
    | halt x w1 =>
      rw [hx] at hs
      simp only [Result.andThen] at hs
      cases hs
  unfold plainOp at h
  unfold execOp at hr
  cases ho : o.op <;> simp only [ho] at h hr <;> first | (cases h; done) | exact key _ hr | (simp only [Sem.run_pure] at hr; injection hr with h1 h2; exact ⟨_, h1.symm⟩)
theorem yieldsIf_of_quiet {o : Oper} {ops : Array Oper} {a : Act} {C : World → Prop} {K : Act → Prop} (hp : plainOp o = true) 
    (h : if Region.wanted o (yielded ops a.tmps) then o.quiet P a C K else K (a.put o.dst undef)) : ∃ v, YieldsIf P ops C o v a ∧ K (a.put o.dst v) := by
  by_cases hw : Region.wanted o (yielded ops a.tmps) = true
  · rw [if_pos hw] at h
    obtain ⟨v, hv, hk⟩ := h
    refine ⟨v, .inl ⟨hw, fun w hC => ?_⟩, hk⟩
    have h1 := hv w hC
    unfold Oper.quietAt at h1
    cases hr : (execOp a.eval o).run P w with
    | halt x w1 => rw [hr] at h1; cases x <;> exact h1.elim
    | ok nx w1 =>
      obtain ⟨u, rfl⟩ := plain_value hp hr
      rw [hr] at h1
      obtain ⟨e1, e2⟩ := h1
      rw [e1, e2]
  · rw [if_neg hw] at h
    exact ⟨undef, .inr ⟨by simpa using hw, rfl⟩, h⟩
def heldFrom (md : Region.Mode) (ops : Array Oper) : Nat → Nat → Array Bool → Bool
  | 0, _, _ => true
  | n + 1, k, L => (Region.ready md ops L).contains k && (Region.free md ops L k && heldFrom md ops n (k + 1) (L.setIfInBounds k true))
def marksOn : Nat → Nat → Array Bool → Array Bool
  | 0, _, L => L
  | n + 1, k, L => marksOn n (k + 1) (L.setIfInBounds k true)
theorem held_lex {ops : Array Oper} {Q : Exit → Act → World → Prop} {S : World → Prop} {Qf : Act → Prop} {w : World} {f : Nat} (hs : Region.noSelect ops = true) (hQ : ∀ c a w, ¬ Q (.panic c) a w) (hS : S w) :
    ∀ (r : List Oper) (k : Nat) (L : Array Bool) (a : Act), (∀ j, j < r.length → r[j]? = ops[k + j]?) → r.all plainOp = true → heldFrom md ops r.length k L = true → wpQuiet P ops S Qf r a →
      (∀ a', Qf a' → wpAnyH P md ops Q S f (marksOn r.length k L) a' w) → wpAnyH P md ops Q S (r.length + f) L a w := by
  intro r
  induction r with
  | nil =>
    intro k L a _ _ _ hq hK
    simpa [marksOn] using hK a hq
  | cons o r ih =>
    intro k L a hl hp hB hq hK
    simp only [List.all_cons, Bool.and_eq_true] at hp
    simp only [List.length_cons, heldFrom, Bool.and_eq_true] at hB
    have h0 : ops[k]? = some o := by have := hl 0 (by simp); simpa using this.symm
    obtain ⟨v, hy, hk⟩ := yieldsIf_of_quiet (ops := ops) hp.1 hq
    rw [List.length_cons, Nat.add_right_comm]
    refine wpAnyH_take h0 hs hB.2.1 hB.1 (fun c a w h => (hQ c _ w h).elim) hy hS (ih (k + 1) _ _ (fun j hj => ?_) hp.2 hB.2.2 hk (fun a' ha' => hK a' ha'))
    have := hl (j + 1) (by simpa using hj)
    simpa [Nat.add_assoc, Nat.add_comm 1 j] using this
theorem wpOp_of_list {Q Q' : Exit → Act → World → Prop} {K : Act → World → Prop} {ops : Array Oper} {n : Nat} {o : Oper} {a : Act} {w : World} (ho : ops[n]? = some o) (hQ' : ∀ e a w, Q' e a w → e = .normal ∧ K a w)
    (h : wpList P ops Q' [o] a w) : wpOp P ops Q n K a w := by
  unfold wpOp
  rw [ho]
  unfold wpList at h
  by_cases hw : Region.wanted o (yielded ops a.tmps) = true
  · simp only [hw, if_true] at h ⊢
    have hL : ¬ LetsOut Q' := by
      rintro ⟨a2, w2, h⟩
      cases (hQ' _ _ _ h).1
    rcases h with h | ⟨_, h⟩
    · exact .inl (wp_only (fun a w hk => (hQ' _ _ _ (by simpa [wpList] using hk)).2) (fun e a w hne h => hne (hQ' _ _ _ h).1) hL h)
    · exact (hL h).elim
  · simp only [hw] at h ⊢
    exact (hQ' _ _ _ (by simpa [wpList] using h)).2
/-- **The region**: n plain reads, then two operations. -/
theorem round_two {id : Nat} {Q : Exit → Act → World → Prop} {a : Act} {w : World} {l : List Oper} {r : Nat} (n : Nat) (o1 o2 : Oper) (S : World → Prop) (hm : P.follows .mixedOrders = true) (hn : l.length = n + 2) (h1 : l.toArray[n]? = some o1) (h2 : l.toArray[n + 1]? = some o2)
    (hno : Region.noSelect l.toArray = true) (hp : (l.take n).all plainOp = true) (hd : noDefer l.toArray = true) (hB : heldFrom .any l.toArray n 0 (Array.replicate (n + 2) false) = true)
    (r1 : Region.ready .any l.toArray (marksOn n 0 (Array.replicate (n + 2) false)) = [n]) (r2 : Region.ready .any l.toArray ((marksOn n 0 (Array.replicate (n + 2) false)).setIfInBounds n true) = [n + 1])
    (r3 : Region.ready .any l.toArray (((marksOn n 0 (Array.replicate (n + 2) false)).setIfInBounds n true).setIfInBounds (n + 1) true) = []) (hS : S { w with drawn := w.drawn + 1 })
    (h : wpQuiet P l.toArray S (fun a' => wpList P l.toArray (fun e a2 w2 => e = .normal ∧ S w2 ∧ wpList P l.toArray (fun e a3 w3 => e = .normal ∧ S w3 ∧ Q .normal a3 w3) [o2] a2 w2) [o1] a' { w with drawn := w.drawn + 1 }) (l.take n) a) :
    (Code.region id l.toArray true).wpIn (Fence.wide.inRound r) 0 P Q a w := by
  refine wpIn_mono (Q := fun e a2 w2 => e = .normal ∧ Q .normal a2 w2) (wpIn_region_draw fun t => ?_) (fun e a2 w2 ⟨he, hq⟩ => by rw [he]; exact hq)
  refine opsIn_of_ops (fun _ _ hx => by cases hx.1) (noDefer_spec hd) _ _ _ ?_
  simp only [Region.schedule, hm, Bool.true_or, if_true]
  refine wpAny_sound l.toArray.size t _ a _ (wpAny_of_held (S := S) _ _ _ _ ?_)
  have hlt : (l.take n).length = n := by simp; omega
  have hsz : l.toArray.size = n + 2 := by simpa using hn
  rw [hsz]
  have key := held_lex (P := P) (md := .any) (ops := l.toArray) (Q := fun e a2 w2 => e = .normal ∧ Q .normal a2 w2) (S := S) (f := 2) hno (fun c a w h => by cases h.1) hS (l.take n) 0 (Array.replicate (n + 2) false) a
    (fun j hj => by rw [hlt] at hj; simp [hj]) hp (by rw [hlt]; exact hB) h (fun a' ha' => ?_)
  · rw [hlt] at key
    exact key
  · rw [hlt]
    refine wpAnyH_all r1 (by simp) (fun i hi => ?_)
    obtain rfl : i = n := by simpa using hi
    refine wpOp_of_list h1 ?_ ha'
    rintro e a2 w2 ⟨he, hs2, hl2⟩
    refine ⟨he, hs2, wpAnyH_all r2 (by simp) (fun j hj => ?_)⟩
    obtain rfl : j = i + 1 := by simpa using hj
    refine wpOp_of_list h2 ?_ hl2
    rintro e3 a3 w3 ⟨he3, hs3, hq3⟩
    exact ⟨he3, hs3, wpAnyH_done r3 ⟨rfl, hq3⟩ _⟩
/-- What is asked at the regular end, and no other end. -/
def calmPost (Q : Exit → Act → World → Prop) : Exit → Act → World → Prop
  | .normal, a, w => Q .normal a w
  | _, _, _ => False
theorem calm_normal {Q : Exit → Act → World → Prop} {a : Act} {w : World} (h : Q .normal a w) : calmPost Q .normal a w := h
/-- A region outside every round, walked as anywhere: it ends as it should, or not at all. -/
theorem region_calm {c : Code} {Q : Exit → Act → World → Prop} {a : Act} {w : World} (h : c.wp P (calmPost Q) a w) : c.wpIn Fence.wide 0 P Q a w :=
  wpIn_mono (wpIn_wide.2 h) (fun e a2 w2 hq => by cases e <;> first | exact hq | exact hq.elim)
end
end Go.KP
