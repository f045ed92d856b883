/-
 Texts laid together.
-/
import Derived.Test.YtklgpilgalfckaaGreatDoorMA15
import Derived.Test.YtklgpilgalfckaaGreatDoorMA5
import Derived.Test.YtklgpilgalfckaaGreatDoorMA7
import Derived.BigQuiet
set_option maxRecDepth 100000
set_option maxHeartbeats 16000000
namespace Go.KI
open Go
def chk90 (l : List UInt8) : Int := if chkQ l ≠ 0 then chkQ l else if 90 < max (Lib.decDigits (valQ l).num.natAbs).length (Lib.decDigits (valQ l).den).length then 4 else 0
def firstE : List ByteArray → Int
 | [] => 0
 |s :: r => if chk90 s.data.toList ≠ 0 then chk90 s.data.toList else firstE r
def negS (s : ByteArray) : Bool := s.data.toList.head? == some 45
def checkE (l1 l2 : List ByteArray) : Int := if firstE l1 ≠ 0 then firstE l1 else if l2.any negS then 2 else 0
theorem jh {l : List ByteArray} : ∀ {k : Nat} {s : ByteArray}, l[k]? = some s → (∀ x ∈ l.take k, chk90 x.data.toList = 0) → chk90 s.data.toList ≠ 0 → firstE l = chk90 s.data.toList := by
 induction l with
 |nil => intro k s h; simp at h
 |cons x r ih =>
  intro k s h hk hs
  cases k with
  |zero =>
   simp at h
   subst h
   exact if_pos hs
  |succ k =>
   simp at h
   have h0 := hk x (by simp)
   show (if chk90 x.data.toList ≠ 0 then _ else firstE r) = _
   rw [if_neg (by simp [h0])]
   exact ih h (fun y hy => hk y (by simp [hy])) hs
theorem qD {l : List ByteArray} (h : ∀ x ∈ l, chk90 x.data.toList = 0) : firstE l = 0 := by
 induction l with
 |nil => rfl
 |cons x r ih =>
  show (if chk90 x.data.toList ≠ 0 then _ else firstE r) = 0
  rw [if_neg (by simp [h x (by simp)])]
  exact ih (fun y hy => h y (by simp [hy]))
theorem yez {l : List UInt8} (h : chk90 l = 0) : chkQ l = 0 ∧ (Lib.decDigits (valQ l).num.natAbs).length ≤ 90 ∧ (Lib.decDigits (valQ l).den).length ≤ 90 := by
 unfold chk90 at h
 by_cases h1 : chkQ l = 0
 ·rw [if_neg (by simp [h1])] at h
  by_cases h2 : 90 < max (Lib.decDigits (valQ l).num.natAbs).length (Lib.decDigits (valQ l).den).length
  ·rw [if_pos h2] at h; cases h
  ·exact ⟨h1, by omega, by omega⟩
 ·rw [if_pos h1] at h; exact absurd h h1
theorem ya6 {l : List UInt8} (h : chkQ l ≠ 0) : chk90 l = chkQ l := if_pos h
end Go.KI
namespace Go.Proofs.YtklgpilgalfckaaGreatDoor
open Go.RowKit Go.KP Go.KI Go.Shelf
attribute [local go_sem] Oper.semAt_some

theorem yc0 {s : ByteArray} (h : chk90 s.data.toList = 0) : ∃ q, roomy q ∧ s = T q := by
 obtain ⟨h1, h2, h3⟩ := yez h
 obtain ⟨e, f, _, _⟩ := qj h1
 exact ⟨valQ s.data.toList, ⟨f, h2, h3⟩, T_of e⟩
theorem xa {q : Rat} (h : roomy q) : chk90 (T q).data.toList = 0 := by
 unfold chk90
 rw [yI, vD, if_neg (by simp [xn h.1]), if_neg]
 have := h.2.1
 have := h.2.2
 omega
theorem yiB (q : Rat) : negS (T q) = decide (q.num < 0) := yir q
theorem yeq (b1 b2 : Nat) (l1 l2 : List ByteArray) (n1 : l1.length ≤ 1000) (n2 : l2.length ≤ 1000) (h1 : ∀ s ∈ l1, s.size ≤ 1000000) (B : Nat) (w : World) (c1 : StrsAt w b1 l1) (c2 : StrsAt w b2 l2) (hB : B ≤ w.heap.size) (hT : PQ B w) :
 Calls Tryz.prog 90 #[.slice (some ⟨b1, 0, none⟩) l1.length l1.length, .slice (some ⟨b2, 0, none⟩) l2.length l2.length] w (Ret w (.int .i64 (checkE l1 l2))) := by
 have HT := hide hT
 obtain ⟨n, hn⟩ := xe l1.length
 obtain ⟨m, hm⟩ := xe l2.length
 rw [← hn] at n1 ⊢
 rw [← hm] at n2 ⊢
 have C1 := hide c1
 have C2 := hide c2
 have N1 := hide hn
 have N2 := hide hm
 have R1 := hide h1
 obtain ⟨R, hR⟩ := xe (checkE l1 l2)
 rw [← hR]
 have HR := hide hR
 clear c1 c2 hn hm h1 hT hR
 go_enter Tryz.func90, Tryz.ntmps90
 go_wp2_with fail
 go_loopw [13] (fun i wr => ∃ k : Nat, k ≤ n ∧ i = .int .i64 k ∧ Hid ((∀ x ∈ l1.take k, chk90 x.data.toList = 0) ∧ Below w.heap.size w wr)) (fun i _ => n - (intOf i).toNat)
 case atStart => exact ⟨0, Nat.zero_le _, rfl, by simp, Below.refl _ _⟩
 case round =>
  obtain ⟨k, hk, rfl, hin⟩ := hrel
  obtain ⟨wo, hwo⟩ := xe wr
  subst hwo
  have IN := hide hin.out.1
  have HB0 := hide hin.out.2
  by_cases hlt : k < n
  ·have hki : (k : Int) < (n : Int) := by omega
   have hk0 : (0 : Int) ≤ (k : Int) := by omega
   obtain ⟨s, hs⟩ : ∃ s, l1[k]? = some s := ⟨_, List.getElem?_eq_getElem (by rw [← N1.out]; exact hlt)⟩
   have hss := R1.out s (List.mem_of_getElem? hs)
   have hcell := (C1.out.below HB0.out C1.out.1).2 k s hs
   have HC := hide (zW s hss B wo (Nat.le_trans hB HB0.out.size) (HT.out.on HB0.out hB))
   by_cases hq : chkQ s.data.toList = 0
   rotate_left
   ·have e : R = chkQ s.data.toList := by
     have h9 := ya6 hq
     have := jh hs IN.out (by rw [h9]; exact hq)
     rw [h9] at this
     rw [HR.out]
     unfold checkE
     rw [this, if_pos hq]
    have hqb : (chkQ s.data.toList == 0) = false := by simpa using hq
    rw [← e] at HC hqb
    clear hs hss hq e hlt hin
    go_wp2_with fail
    refine HC.out.mono ?_
    rintro e w1 ⟨rfl, hb1⟩
    have HB1 := bt HB0 hb1
    clear hb1 hcell
    go_wp2_with fail
    go_ret
    exact ⟨rfl, HB1.out⟩
   rw [hq] at HC
   obtain ⟨eT, fq, _, _⟩ := qj hq
   obtain ⟨q, hqq⟩ := xe (valQ s.data.toList)
   rw [← hqq] at eT fq
   have eS : s = T q := T_of eT
   have HO := hide (fun w hB hT => yfU fq B w hB hT)
   obtain ⟨D, hD⟩ := xe (denB q)
   obtain ⟨N, hN⟩ := xe (numB q)
   have HTP := hide (fun w => zm N w)
   rw [show N.data.toList = Lib.itoa q.num by rw [hN]; exact yh _, yQ] at HTP
   have hDs : D.size = (Lib.decDigits q.den).length := by
    rw [hD]
    unfold denB
    rw [yu, Lib.itoa_nonneg]
   obtain ⟨M, hM⟩ := xe (strB (Lib.decDigits q.num.natAbs))
   have hMs : M.size = (Lib.decDigits q.num.natAbs).length := by rw [hM, yu]
   have h9 : chk90 s.data.toList = if 90 < max M.size D.size then 4 else 0 := by
    unfold chk90
    rw [if_neg (by simp [hq]), ← hqq, hMs, hDs]
   rw [← hM] at HTP
   rw [← hN, ← hD] at HO
   rw [← eS] at HO
   have hbig : (90 < max M.size D.size ∧ R = 4 ∧ (90 : Int) < max (M.size : Int) (D.size : Int)) ∨ ((∀ x ∈ l1.take (k + 1), chk90 x.data.toList = 0) ∧ ((90 : Int) < max (M.size : Int) (D.size : Int)) = False) := by
    by_cases hb : 90 < max M.size D.size
    ·rw [if_pos hb] at h9
     refine .inl ⟨hb, ?_, by omega⟩
     have := jh hs IN.out (by rw [h9]; decide)
     rw [h9] at this
     rw [HR.out]
     unfold checkE
     rw [this, if_pos (by decide)]
    ·rw [if_neg hb] at h9
     refine .inr ⟨fun x hx => ?_, eq_false (by omega)⟩
     rw [List.take_add_one, hs] at hx
     rcases List.mem_append.1 hx with h | h
     ·exact IN.out x h
     ·simp at h; rw [h]; exact h9
   have HBIG := hide hbig
   clear hs hss hq eT fq hqq eS hD hN hM hMs hDs h9 hbig hlt hin
   go_wp2_with fail
   refine HC.out.mono ?_
   rintro e w1 ⟨rfl, hb1⟩
   have HB1 := bt HB0 hb1
   clear hb1 hcell HC
   go_wp2_with fail
   refine (HO.out _ (Nat.le_trans hB HB1.out.size) (HT.out.on HB1.out hB)).mono ?_
   rintro e w2 ⟨rfl, hb2⟩
   have X2 := hide (heap1 w2 (rpairO N D))
   have G2 := hide X2.out.1
   have HB2 := hide (HB1.out.trans ((hb2.trans (X2.out.2.2.mono hb2.size)).mono HB1.out.size))
   clear hb2
   go_wp2_with fail
   obtain ⟨W, hW⟩ := xe (w2.alloc (rpairO N D))
   rw [← hW] at G2 HB2 ⊢
   clear hW X2
   have HTC := hide (fun (x : Of (Below W.heap.size W)) => show Calls Tryz.prog 120 #[.string N, .string ⟨#[45]⟩] x.w fun e w' => e = .returned (.string M) ∧ Cls (Below W.heap.size W) w' from (HTP.out x.w).mono fun _ _ ⟨h, hb⟩ => ⟨h, by rw [← hb]; exact Cls.mk x.h⟩)
   have hx1 : ∀ x : Of (Below W.heap.size W), ∀ o, x.w.cell? ⟨w2.heap.size, o, none⟩ = W.cell? ⟨w2.heap.size, o, none⟩ := fun x o => x.h.cell (p := ⟨w2.heap.size, o, none⟩) (yd G2.out)
   have cc1 := fun o => ya G2.out o
   have kn : Nonempty (Of (Below W.heap.size W)) := ⟨⟨_, Below.refl _ _⟩⟩
   rcases HBIG.out with ⟨_, rfl, hmx⟩ | ⟨hall, hmx⟩
   ·refine zL (C := Cls (Below W.heap.size W)) (by kernel_rfl) (by kernel_rfl) (by kernel_rfl) (Cls.mk (Below.refl _ _).drew) ?_
    repeat (go_big_quiet_step (first | rfl | with_reducible exact HTC.out _))
    refine wpQuiet_nil ?_
    intro w3 hcl
    have HB3 := hide (HB2.out.trans (hcl.out.mono HB2.out.size))
    clear hcl hx1 cc1 HTC kn
    go_wp2_with fail
    go_ret
    exact ⟨rfl, HB3.out⟩
   ·have HALL := hide hall
    clear hall
    refine zL (C := Cls (Below W.heap.size W)) (by kernel_rfl) (by kernel_rfl) (by kernel_rfl) (Cls.mk (Below.refl _ _).drew) ?_
    repeat (go_big_quiet_step (first | rfl | with_reducible exact HTC.out _))
    refine wpQuiet_nil ?_
    intro w3 hcl
    have HB3 := hide (HB2.out.trans (hcl.out.mono HB2.out.size))
    clear hcl hx1 cc1 HTC kn
    go_wp2_with fail
    go_roundw
    case rel => exact ⟨k + 1, by omega, by simp, HALL.out, HB3.out⟩
    case measure => simp [intOf]; omega
  ·obtain rfl : k = n := by omega
   have hki : ((k : Int) < (k : Int)) = False := eq_false (by omega)
   have hR2 : Hid (R = if l2.any negS then 2 else 0) := hide (by
    have h := IN.out
    rw [List.take_of_length_le (by rw [← N1.out]; omega)] at h
    rw [HR.out]
    unfold checkE
    rw [qD h, if_neg (by simp)])
   clear hlt hin IN HR
   go_wp2_with fail
   go_loopw [36] (fun i wr => ∃ k : Nat, k ≤ m ∧ i = .int .i64 k ∧ wr = wo ∧ Hid ((l2.take k).any negS = false)) (fun i _ => m - (intOf i).toNat)
   case atStart => exact ⟨0, Nat.zero_le _, rfl, rfl, hide (by simp)⟩
   case round =>
    obtain ⟨j, hj, rfl, rfl, hng⟩ := hrel
    by_cases hlt : j < m
    ·have hji : (j : Int) < (m : Int) := by omega
     have hj0 : (0 : Int) ≤ (j : Int) := by omega
     obtain ⟨s, hs⟩ : ∃ s, l2[j]? = some s := ⟨_, List.getElem?_eq_getElem (by rw [← N2.out]; exact hlt)⟩
     have hcell := (C2.out.below HB0.out C2.out.1).2 j s hs
     have HN := hide (kM s wr)
     rw [show (s.data.toList.head? == some 45) = negS s from rfl] at HN
     have hc : (negS s = true ∧ R = 2) ∨ (negS s = false ∧ (l2.take (j + 1)).any negS = false) := by
      cases hv : negS s with
      |true => exact .inl ⟨rfl, by rw [hR2.out, if_pos (List.any_eq_true.2 ⟨s, List.mem_of_getElem? hs, hv⟩)]⟩
      |false => exact .inr ⟨rfl, by rw [List.take_add_one, hs, List.any_append, hng.out]; simp [hv]⟩
     have HCC := hide hc
     generalize negS s = v at HN HCC
     clear hs hlt hc hng
     rcases HCC.out with ⟨rfl, rfl⟩ | ⟨rfl, hnx⟩
     ·go_wp2_with fail
      refine HN.out.mono ?_
      rintro e w1 ⟨rfl, rfl⟩
      go_wp2_with fail
      go_ret
      exact ⟨rfl, HB0.out⟩
     ·have HNX := hide hnx
      clear hnx
      go_wp2_with fail
      refine HN.out.mono ?_
      rintro e w1 ⟨rfl, rfl⟩
      go_wp2_with fail
      go_roundw
      case rel => exact ⟨j + 1, by omega, by simp, trivial, HNX⟩
      case measure => simp [intOf]; omega
    ·obtain rfl : j = m := by omega
     have hji : ((j : Int) < (j : Int)) = False := eq_false (by omega)
     have hf : R = 0 := by
      have h := hng.out
      rw [List.take_of_length_le (by rw [← N2.out]; omega)] at h
      rw [hR2.out, h]
      rfl
     subst hf
     clear hlt hng
     go_wp2_with fail
     go_ret
     exact ⟨rfl, HB0.out⟩

theorem ye8 {q : Rat} (rq : roomy q) (hq : q.num < 0) : checkE [T q] [T q] = 2 := by
 unfold checkE
 rw [qD (fun x hx => by simp at hx; subst hx; exact xa rq), if_neg (by simp), if_pos]
 rw [List.any_cons, yiB, decide_eq_true hq]
 rfl
theorem vp : roomy (0 : Rat) := vi (p := 1) ⟨by decide, by decide⟩ (by omega)
theorem kA (B : Nat) (w : World) (hB : B ≤ w.heap.size) (hT : PQ B w) :
 Calls Tryz.prog 55 #[.string (T 0)] w (Ret w (.tuple #[.string ⟨#[48]⟩, .string ⟨#[49]⟩, .int .i64 0])) := by
 have HT := hide hT
 have X0 := hide (heap2 w (.cells #[.string (T 0)] 26) (.cells #[.string (T 0)] 26))
 have HC := hide (wk w.heap.size (w.heap.size + 1) [0] [0] (by simp) (by simp) (fun x hx => by simp at hx; subst hx; exact vp) (fun x hx => by simp at hx; subst hx; decide) B _ (nums1 X0.out.1) (nums1 X0.out.2.1) (Nat.le_trans hB X0.out.2.2.2.size) (hT.on X0.out.2.2.2 hB))
 have HO := hide (fun w hB hT => yfU vp.1 B w hB hT)
 have eN : numB 0 = ⟨#[48]⟩ := yp (by show (iB 0).data.toList = _; rw [yv, yP])
 rw [eN] at HO
 generalize denB 0 = D at HO
 generalize T 0 = X at *
 clear hT eN
 go_enter Tryz.func55, Tryz.ntmps55
 go_wp2_with fail
 refine HC.out.mono ?_
 rintro e w1 ⟨rfl, hb1⟩
 have HB1 := hide (X0.out.2.2.2.trans (hb1.mono X0.out.2.2.2.size))
 clear hb1
 go_wp2_with fail
 refine (HO.out _ (Nat.le_trans hB HB1.out.size) (HT.out.on HB1.out hB)).mono ?_
 rintro e w2 ⟨rfl, hb2⟩
 have X2 := hide (heap1 w2 (rpairO ⟨#[48]⟩ D))
 have HB2 := hide (HB1.out.trans ((hb2.trans (X2.out.2.2.mono hb2.size)).mono HB1.out.size))
 have k0 := ya X2.out.1 0
 have k1 := ya X2.out.1 1
 have kl := yd X2.out.1
 clear hb2
 go_wp2_with fail
 go_ret3
 exact ⟨rfl, HB2.out⟩
def nC (q : Rat) : Rat := if q.num = 0 then 0 else normC q
def nL (q : Rat) : Nat := if q.num = 0 then 1 else normL q
theorem ycr {q : Rat} (rq : roomy q) (hq : 0 ≤ q.num) (B : Nat) (w : World) (hB : B ≤ w.heap.size) (hT : PR B w) :
 Calls Tryz.prog 55 #[.string (T q)] w (Ret w (.tuple #[.string (T (nC q)), .string (T ((nL q : Nat) : Rat)), .int .i64 0])) := by
 unfold nC nL
 by_cases h : q.num = 0
 ·rw [if_pos h, if_pos h, Rat.num_eq_zero.1 h]
  have := kA B w hB hT.pq
  rw [← T0, ← T1] at this
  exact this
 ·rw [if_neg h, if_neg h]
  have := ydz rq (by omega) B w hB hT
  rw [iB_T] at this
  exact this
end Go.Proofs.YtklgpilgalfckaaGreatDoor
namespace Go.KI
open Go

theorem wu : ∀ (l : List Nat) (c m : Nat), 0 < m → (∀ q ∈ l, ¬ m % (q * q) = 0) → strips l c m = (c, m)
 | [], _, _, _, _ => rfl
 |q :: l, c, m, hm, h => by
  unfold strips
  rw [qA hm (h q (by simp))]
  exact wu l c m hm fun x hx => h x (by simp [hx])
theorem ydl {m : Nat} (hm : 0 < m) : normN (normN m).2 = (1, (normN m).2) := by
 obtain ⟨h1, h2, h3, h4, h5⟩ := jd hm
 obtain ⟨n, hn⟩ := xe ((normN m).2)
 rw [← hn] at h1 h2 h4 h5 ⊢
 unfold normN
 rw [wu primes25 1 n h2 h4]
 unfold closeN
 by_cases hq : rootN n * rootN n = n
 ·have h1n : n = 1 := h5.2 ⟨(normN m).1 * rootN n, by
   have : (normN m).1 * rootN n * ((normN m).1 * rootN n) = (normN m).1 * (normN m).1 * (rootN n * rootN n) := by grind
   rw [this, hq, h1]⟩
  rw [h1n]
  decide
 ·rw [if_neg hq]
theorem ybP (l : List UInt8) : numeral l ↔ l ≠ [] ∧ l.length ≤ (lead l).length ∧ ¬ (1 < l.length ∧ l.head? = some 48) := by
 constructor
 ·rintro ⟨h1, h2, h3⟩
  refine ⟨h1, by rw [ybJ (List.all_eq_true.1 h2)]; exact Nat.le_refl _, fun h => ?_⟩
  rw [h3 h.2] at h
  exact absurd h.1 (by decide)
 ·rintro ⟨h1, h2, h3⟩
  refine ⟨h1, List.all_eq_true.2 (ybV h2), fun hh => ?_⟩
  have h4 : ¬ 1 < l.length := fun e => h3 ⟨e, hh⟩
  cases l with
  |nil => exact absurd rfl h1
  |cons a b =>
   simp only [List.length_cons] at h4
   have : b = [] := List.eq_nil_of_length_eq_zero (by omega)
   rw [this]
   injection hh with hh
   rw [hh]
end Go.KI
namespace Go.Proofs.YtklgpilgalfckaaGreatDoor
open Go.RowKit Go.KP Go.KI Go.Shelf
attribute [local go_sem] Oper.semAt_some

theorem ycN (a b : Nat) (ha : a < 5000000000000000000) (hb : b < 5000000000000000000) (w : World) :
 Calls Tryz.prog 137 #[.int .i64 a, .int .i64 b] w (Ret w (.int .i64 (Nat.gcd a b : Nat))) := by
 obtain ⟨G, hG⟩ := xe (Nat.gcd a b)
 rw [← hG]
 have HG := hide hG
 clear hG
 go_enter Tryz.func137, Tryz.ntmps137
 go_wp2_with fail
 go_loopw [0, 1] (fun x y wr => ∃ p q : Nat, x = .int .i64 p ∧ y = .int .i64 q ∧ p < 5000000000000000000 ∧ q < 5000000000000000000 ∧ Hid (Nat.gcd p q = G ∧ Below w.heap.size w wr)) (fun _ y _ => (intOf y).toNat)
 case atStart => exact ⟨a, b, rfl, rfl, ha, hb, HG.out.symm, Below.refl _ _⟩
 case round =>
  obtain ⟨p, q, rfl, rfl, hp, hq, hin⟩ := hrel
  have IN := hide hin.out
  clear hin
  by_cases hq0 : q = 0
  ·subst hq0
   have hqq : (((0 : Nat) : Int) != 0) = false := rfl
   have hG : p = G := by have := IN.out.1; simpa using this
   have GG := hide hG
   clear hq hG
   go_wp2_with fail
   go_ret
   rw [← GG.out]
   exact ⟨rfl, IN.out.2⟩
  ·have hqq : ((q : Int) != 0) = true := by
    have : (q : Int) ≠ 0 := by omega
    simpa using this
   have hqz : ((q : Int) == 0) = false := by
    have : (q : Int) ≠ 0 := by omega
    simpa using this
   obtain ⟨r, hr⟩ := xe (p % q)
   have hri : (p : Int) % (q : Int) = (r : Int) := by rw [hr, Int.natCast_emod]
   have hrl : r < q := by rw [hr]; exact Nat.mod_lt _ (by omega)
   have HR := hide hr; have HRI := hide hri
   clear hq0 hr
   go_wp2_with fail
   go_quiet (fail)
   have HB := hide (below_drewN IN.out.2 nq)
   clear hqq hqz
   go_wp2_with fail
   go_roundw
   case rel =>
    refine ⟨q, r, rfl, by first | rfl | rw [HRI.out], by omega, by omega, ?_, HB.out⟩
    rw [HR.out, ← IN.out.1, Nat.gcd_comm q, ← Nat.gcd_rec, Nat.gcd_comm]
   case measure => simp [intOf]; omega
theorem kz (s : ByteArray) (hs : s.size ≤ 9223372036854775807) (b : Bool) (hb : b = decide (numeral s.data.toList)) (w : World) :
 Calls Tryz.prog 174 #[.string s] w (Ret w (.bool b)) := by
 have hnl := ybP s.data.toList
 rw [yg] at hnl
 by_cases h0 : s.size = 0
 ·have z : ((s.size : Int) == 0) = true := by rw [h0]; rfl
  have hbf : b = false := by
   rw [hb, decide_eq_false_iff_not, hnl]
   exact fun h => h.1 (List.eq_nil_of_length_eq_zero (by rw [yg]; exact h0))
  subst hbf
  clear hb hnl h0
  go_enter Tryz.func174, Tryz.ntmps174
  go_wp2_with fail
  go_ret
  exact ⟨rfl, Below.refl _ _⟩
 have z : ((s.size : Int) == 0) = false := by
  simp only [beq_eq_false_iff_ne, ne_eq]
  omega
 have hp : 0 < s.size := by omega
 have hne : s.data.toList ≠ [] := fun e => h0 (by rw [← yg, e]; rfl)
 have hh : s.data.toList.head? = some (s[0]'hp) := by
  have h3 : s.data.toList[0]? = some s.data[0] := by simp
  rw [List.head?_eq_getElem?]
  exact h3
 by_cases hbad : 1 < s.size ∧ s.data.toList.head? = some 48
 ·have y1 : (1 : Int) < (s.size : Int) := by omega
  have y2 : (((s[0]'hp).toNat : Int) == 48) = true := by
   have := hbad.2
   rw [hh] at this
   injection this with this
   rw [this]
   rfl
  have hbf : b = false := by rw [hb, decide_eq_false_iff_not, hnl]; exact fun h => h.2.2 hbad
  subst hbf
  clear hb hnl h0 hne hh hbad
  go_enter Tryz.func174, Tryz.ntmps174
  go_wp2_with fail
  go_ret
  exact ⟨rfl, Below.refl _ _⟩
 have hway : ((1 : Int) < (s.size : Int)) = False ∨ ((1 : Int) < (s.size : Int) ∧ (((s[0]'hp).toNat : Int) == 48) = false) := by
  by_cases h1 : 1 < s.size
  ·refine .inr ⟨by omega, ?_⟩
   have h48 : s[0]'hp ≠ 48 := fun e => hbad ⟨h1, by rw [hh, e]⟩
   have : (s[0]'hp).toNat ≠ 48 := fun e => h48 (UInt8.toNat_inj.1 e)
   simp only [beq_eq_false_iff_ne, ne_eq]
   omega
  ·exact .inl (eq_false (by omega))
 obtain ⟨L, hL⟩ := xe ((lead s.data.toList).length)
 have hLs : L ≤ s.size := by rw [hL, ← yg]; exact ydc _
 have HB := hide (show b = decide (s.size ≤ L) by
  rw [hb]
  refine decide_eq_decide.2 ?_
  rw [hnl, ← hL]
  exact ⟨fun h => h.2.1, fun h => ⟨hne, h, hbad⟩⟩)
 have HLE := hide hL
 clear hL hb hnl h0 hne hh hbad
 rcases hway with y1 | ⟨y1, y2⟩
 all_goals
  go_enter Tryz.func174, Tryz.ntmps174
  go_wp2_with fail
  clear y1
  go_loopw [3] (fun i wr => ∃ k : Nat, k ≤ L ∧ i = .int .i64 k ∧ wr = w) (fun i _ => s.size - (intOf i).toNat)
  case atStart => exact ⟨0, by omega, rfl, rfl⟩
  case round =>
   obtain ⟨k, hkL, rfl, rfl⟩ := hrel
   by_cases hkl : k < L
   ·have hlt : k < s.size := by omega
    have hki : (k : Int) < (s.size : Int) := by omega
    have hk0 : (0 : Int) ≤ (k : Int) := by omega
    obtain ⟨c, hc, hcd⟩ := yds (l := s.data.toList) (k := k) (by rw [← HLE.out]; exact hkl)
    have hat : s.data.toList[k]? = some (s[k]'hlt) := by
     have h1 : s.data.toList[k]? = some s.data[k] := by simp
     exact h1
    obtain ⟨y, hyv⟩ : ∃ y : Nat, y = (s[k]'hlt).toNat := ⟨_, rfl⟩
    have hyv2 : (s[k]'hlt).toNat = y := hyv.symm
    have hdg : 48 ≤ y ∧ y ≤ 57 := by
     rw [hat] at hc
     injection hc with hc
     rw [hyv, hc]
     exact yH.1 hcd
    have v0 : ((y : Int) < 48) = False := eq_false (by omega)
    have v1 : ((57 : Int) < (y : Int)) = False := eq_false (by omega)
    clear hat hyv hdg hc hcd
    go_wp2_with fail
    go_roundw
    case rel => exact ⟨k + 1, by omega, by go_num, trivial⟩
    case measure => simp [intOf]; omega
   ·have hkL2 : k = L := by omega
    have hk0 : (0 : Int) ≤ (k : Int) := by omega
    by_cases hfin : k < s.size
    ·have hki : (k : Int) < (s.size : Int) := by omega
     obtain ⟨c, hc⟩ : ∃ c, s[k]'hfin = c := ⟨_, rfl⟩
     have hat : s.data.toList[k]? = some c := by
      have h3 : s.data.toList[k]? = some s.data[k] := by simp
      rw [h3]
      exact congrArg some hc
     have hat2 : s.data.toList[(lead s.data.toList).length]? = some c := by rw [← HLE.out, ← hkL2]; exact hat
     have h4 := ya9 hat2
     have h5 : ¬ (48 ≤ c.toNat ∧ c.toNat ≤ 57) := fun h => by
      have h6 := yH.2 h
      rw [h4] at h6
      cases h6
     obtain ⟨y, hyv⟩ : ∃ y : Nat, y = c.toNat := ⟨_, rfl⟩
     have hyv2 : (s[k]'hfin).toNat = y := by rw [hc, hyv]
     have HBF := hide (show b = false by rw [HB.out, decide_eq_false_iff_not]; omega)
     rw [← hyv] at h5
     clear hyv hc hat hat2 h4 hkL2
     rcases (show y < 48 ∨ (¬ y < 48 ∧ 57 < y) by omega) with v0 | ⟨v0, v1⟩
     ·have v0i : (y : Int) < 48 := by omega
      clear v0
      go_wp2_with fail
      go_ret
      rw [HBF.out]
      exact ⟨rfl, Below.refl _ _⟩
     ·have v0i : ((y : Int) < 48) = False := eq_false (by omega)
      have v1i : (57 : Int) < (y : Int) := by omega
      clear v0 v1
      go_wp2_with fail
      go_ret
      rw [HBF.out]
      exact ⟨rfl, Below.refl _ _⟩
    ·have hki : ((k : Int) < (s.size : Int)) = False := eq_false (by omega)
     have HBF := hide (show b = true by rw [HB.out, decide_eq_true_iff]; omega)
     clear hkL2
     go_wp2_with fail
     go_ret
     rw [HBF.out]
     exact ⟨rfl, Below.refl _ _⟩
end Go.Proofs.YtklgpilgalfckaaGreatDoor
namespace Go.KI
open Go
theorem yg0 {c : UInt8} {l : List UInt8} {k : Nat} (h : k < (ahead c l).length) : ∃ x, l[k]? = some x ∧ x ≠ c := by
 have hp : (ahead c l) <+: l := List.takeWhile_prefix _
 obtain ⟨t, ht⟩ := hp
 refine ⟨(ahead c l)[k], ?_, yeo l _ (List.getElem_mem h)⟩
 have e : l[k]? = (ahead c l ++ t)[k]? := by rw [ht]
 rw [e, List.getElem?_append_left h]
 exact List.getElem?_eq_getElem h
theorem yew {c : UInt8} {l : List UInt8} (h : c ∈ l) : l.take (ahead c l).length = ahead c l := by
 have h2 := congrArg (List.take (ahead c l).length) (kU h)
 rw [List.take_left] at h2
 exact h2
theorem ydG {c : UInt8} {l : List UInt8} (h : c ∈ l) : l.drop ((ahead c l).length + 1) = behind c l := by
 have h2 := congrArg (List.drop ((ahead c l).length + 1)) (kU h)
 rw [h2, List.drop_append]
 simp
theorem ye6 {c : UInt8} {l : List UInt8} (h : c ∈ l) : l[(ahead c l).length]? = some c := by
 have e := kU h
 have h2 := congrArg (fun m : List UInt8 => m[(ahead c l).length]?) e
 rw [h2, List.getElem?_append_right (Nat.le_refl _), Nat.sub_self]
 rfl
end Go.KI
namespace Go.Proofs.YtklgpilgalfckaaGreatDoor
open Go.RowKit Go.KP Go.KI Go.Shelf
attribute [local go_sem] Oper.semAt_some

def splitR (l : List UInt8) : Value := .tuple #[.bool (isNeg l), .string (strB (KI.ahead 47 (digs l))), .string (strB (if 47 ∈ digs l then KI.behind 47 (digs l) else [])), .bool (decide (47 ∈ digs l))]
theorem ret4 {f : Func} {R : Ending → World → Prop} {a : Act} {W : World} {t0 t1 t2 t3 : Tmp} {v0 v1 v2 v3 : Value} (hf : f.results = #[.tmp t0, .tmp t1, .tmp t2, .tmp t3]) (h0 : a.tmps[t0]? = some v0) (h1 : a.tmps[t1]? = some v1) (h2 : a.tmps[t2]? = some v2) (h3 : a.tmps[t3]? = some v3) (hd : a.defers = []) (hR : R (.returned (.tuple #[v0, v1, v2, v3])) W) :
 bodyPost Tryz.prog f R .ret a W := by
 refine bodyPost_ret ?_ hd hR
 simp [results, hf, go_sem, h0, h1, h2, h3]
theorem xb (s : ByteArray) (hs : s.size ≤ 9223372036854775807) (w : World) :
 Calls Tryz.prog 135 #[.string s] w (Ret w (splitR s.data.toList)) := by
 obtain ⟨l, hl⟩ := xe (digs s.data.toList)
 obtain ⟨O, hO⟩ := xe (strB l)
 have hOl : O.data.toList = l := by rw [hO, yh]
 have hdl : l.length ≤ s.size := by rw [hl, yZ, List.length_drop, yg]; omega
 have hOs : O.size ≤ s.size := by rw [← yg, hOl]; exact hdl
 obtain ⟨K, hK⟩ := xe ((KI.ahead 47 l).length)
 have hKl : K ≤ O.size := by rw [hK, ← yg, hOl]; exact List.Sublist.length_le (List.takeWhile_sublist _)
 obtain ⟨neg, hneg⟩ := xe (isNeg s.data.toList)
 have HAT := hide (fun (k : Nat) (h : k < K) => show ∃ x, O.data.toList[k]? = some x ∧ x ≠ 47 by rw [hOl]; exact yg0 (by rw [← hK]; exact h))
 have hfin : (47 ∈ l ∧ O.data.toList[K]? = some 47 ∧ K < O.size ∧ splitR s.data.toList = .tuple #[.bool neg, .string (O.extract 0 K), .string (O.extract (K + 1) O.size), .bool true]) ∨
  (¬ 47 ∈ l ∧ K = O.size ∧ splitR s.data.toList = .tuple #[.bool neg, .string O, .string ⟨#[]⟩, .bool false]) := by
  unfold splitR
  rw [← hl, ← hneg]
  by_cases h : 47 ∈ l
  ·have h1 := ye6 h
   rw [← hK] at h1
   refine .inl ⟨h, by rw [hOl]; exact h1, ?_, ?_⟩
   ·have := (List.getElem?_eq_some_iff.1 h1).1
    rw [← yg, hOl]
    exact this
   ·rw [if_pos h, show decide (47 ∈ l) = true by simpa using h, qR, hOl]
    have e1 : strB (KI.ahead 47 l) = O.extract 0 K := by
     apply yp
     rw [yh, ← yew h, ← hK, hO]
     simp [strB]
    have e2 : KI.behind 47 l = l.drop (K + 1) := by rw [hK, ydG h]
    rw [e1, e2]
  ·refine .inr ⟨h, ?_, ?_⟩
   ·rw [hK, ybx h, ← yg, hOl]
   ·rw [if_neg h, show decide (47 ∈ l) = false by simpa using h, ybx h, ← hO]
    rfl
 have hstart : (neg = false ∧ O = s ∧ (((0 : Int) < (s.size : Int)) = False ∨ ∃ h : 0 < s.size, (((s[0]'h).toNat : Int) == 45) = false)) ∨ (neg = true ∧ ∃ h : 0 < s.size, (((s[0]'h).toNat : Int) == 45) = true ∧ s.extract 1 s.size = O) := by
  by_cases hne : s.data.toList = []
  ·refine .inl ⟨by rw [hneg, hne]; rfl, by apply yp; rw [hOl, hl, hne]; rfl, .inl (eq_false ?_)⟩
   have h00 : s.size = 0 := by rw [← yg, hne]; rfl
   omega
  ·obtain ⟨hp, hh⟩ := yT hne
   by_cases h45 : s[0] = 45
   ·refine .inr ⟨by rw [hneg]; unfold isNeg; rw [hh, h45]; rfl, hp, by rw [h45]; rfl, ?_⟩
    rw [qR, hO, hl, yZ, if_pos (by rw [hh, h45])]
   ·refine .inl ⟨by rw [hneg]; unfold isNeg; rw [hh]; simpa using h45, ?_, .inr ⟨hp, ?_⟩⟩
    ·apply yp
     rw [hOl, hl, yZ, if_neg (by rw [hh]; simpa using h45)]
     rfl
    ·have : s[0].toNat ≠ 45 := fun h => h45 (UInt8.toNat_inj.1 h)
     simp only [beq_eq_false_iff_ne, ne_eq]
     omega
 obtain ⟨V, hV⟩ := xe (splitR s.data.toList)
 rw [← hV] at hfin ⊢
 have HFI := hide hfin
 clear hl hO hOl hdl hK hneg hV hfin
 rcases hstart with ⟨e1, e2, e3 | ⟨hp, e3⟩⟩ | ⟨e1, hp, e3, e2⟩
 case' inl.inl =>
  subst e1; subst e2
  have e4 : (0 < O.size) = False := eq_false (by
   intro h
   have h2 : ¬ (0 : Int) < (O.size : Int) := of_eq_false e3
   omega)
  go_enter Tryz.func135, Tryz.ntmps135
  go_wp2_with fail
  clear e3 e4
 case' inl.inr =>
  subst e1; subst e2
  have hp0 : (0 : Int) < (O.size : Int) := by omega
  go_enter Tryz.func135, Tryz.ntmps135
  go_wp2_with fail
  clear e3
 case' inr =>
  subst e1
  have hp0 : (0 : Int) < (s.size : Int) := by omega
  have hp1 : (1 : Int) ≤ (s.size : Int) := by omega
  have HE := hide e2
  clear e2
  go_enter Tryz.func135, Tryz.ntmps135
  go_wp2_with fail
  rw [HE.out]
  clear e3
 all_goals
  go_loopw [8] (fun i wr => ∃ k : Nat, k ≤ K ∧ i = .int .i64 k ∧ wr = w) (fun i _ => O.size - (intOf i).toNat)
  case atStart => exact ⟨0, by omega, rfl, rfl⟩
  case round =>
   obtain ⟨k, hkL, rfl, rfl⟩ := hrel
   have hk0 : (0 : Int) ≤ (k : Int) := by omega
   by_cases hkl : k < K
   ·have hlt : k < O.size := by omega
    have hki : (k : Int) < (O.size : Int) := by omega
    obtain ⟨c, hc, hcd⟩ := HAT.out k hkl
    have h47 : (((O[k]'hlt).toNat : Int) == 47) = false := by
     have hat : O.data.toList[k]? = some (O[k]'hlt) := by
      have h1 : O.data.toList[k]? = some O.data[k] := by simp
      exact h1
     rw [hat] at hc
     injection hc with hc
     rw [hc]
     have : c.toNat ≠ 47 := fun h => hcd (UInt8.toNat_inj.1 h)
     simp only [beq_eq_false_iff_ne, ne_eq]
     omega
    clear hc hcd
    go_wp2_with fail
    go_roundw
    case rel => exact ⟨k + 1, by omega, by go_num, trivial⟩
    case measure => simp [intOf]; omega
   ·have hkK : k = K := by omega
    rcases HFI.out with ⟨_, f2, f3, f4⟩ | ⟨_, f3, f4⟩
    ·have hlt : k < O.size := by omega
     have hki : (k : Int) < (O.size : Int) := by omega
     have h47 : (((O[k]'hlt).toNat : Int) == 47) = true := by
      have hat : O.data.toList[k]? = some (O[k]'hlt) := by
       have h1 : O.data.toList[k]? = some O.data[k] := by simp
       exact h1
      rw [← hkK, hat] at f2
      injection f2 with f2
      rw [f2]
      rfl
     have HV := hide f4
     have HKK := hide hkK
     have hw1 : IntKind.i64.wrap ((k : Int) + 1) = ((k + 1 : Nat) : Int) := by
      rw [IntWalk.i64_in _ (by omega)]
      rfl
     have hk1 : k + 1 ≤ O.size := by omega
     have hk1i : ((k + 1 : Nat) : Int) ≤ (O.size : Int) := by omega
     have hk2 : k ≤ O.size := by omega
     have hk2i : (k : Int) ≤ (O.size : Int) := by omega
     clear f2 f4 hkK hkl
     go_wp2_with fail
     go_quiet (fail)
     go_wp2_with fail
     refine ret4 rfl rfl rfl rfl rfl rfl ?_
     rw [HV.out, ← HKK.out]
     exact ⟨rfl, below_drewN (Below.refl _ _) _⟩
    ·have hki : ((k : Int) < (O.size : Int)) = False := eq_false (by omega)
     have HV := hide f4
     clear f4 hkK f3 hkl
     go_wp2_with fail
     refine ret4 rfl rfl rfl rfl rfl rfl ?_
     rw [HV.out]
     exact ⟨rfl, Below.refl _ _⟩

def partsR2 (l : List UInt8) : Value :=
 .tuple #[.string (strB ((if isNeg l then [45] else []) ++ KI.ahead 47 (digs l))), .string (strB (if 47 ∈ digs l then KI.behind 47 (digs l) else [49]))]

theorem ret2v {f : Func} {R : Ending → World → Prop} {a : Act} {W : World} {t0 t1 : Tmp} {v0 v1 : Value} (hf : f.results = #[.tmp t0, .tmp t1]) (h0 : a.tmps[t0]? = some v0) (h1 : a.tmps[t1]? = some v1) (hd : a.defers = []) (hR : R (.returned (.tuple #[v0, v1])) W) :
 bodyPost Tryz.prog f R .ret a W := by
 refine bodyPost_ret ?_ hd hR
 simp [results, hf, go_sem, h0, h1]

theorem ycZ (s : ByteArray) (hs : s.size ≤ 1000000) (w : World) :
 Calls Tryz.prog 84 #[.string s] w (Ret w (partsR2 s.data.toList)) := by
 obtain ⟨V, hV⟩ := xe (partsR2 s.data.toList)
 rw [← hV]
 have HS := hide (fun w => xb s (by omega) w)
 have hnl : (KI.ahead 47 (digs s.data.toList)).length ≤ s.size := by
  refine Nat.le_trans (List.Sublist.length_le (List.takeWhile_sublist _)) ?_
  rw [yZ, List.length_drop, yg]
  omega
 obtain ⟨nn, hnn⟩ := xe (KI.ahead 47 (digs s.data.toList))
 obtain ⟨dd, hdd⟩ := xe ((if 47 ∈ digs s.data.toList then KI.behind 47 (digs s.data.toList) else []))
 obtain ⟨neg, hneg⟩ := xe (isNeg s.data.toList)
 obtain ⟨sl, hsl⟩ := xe (decide (47 ∈ digs s.data.toList))
 have hV2 : V = .tuple #[.string ((if neg then (⟨#[45]⟩ : ByteArray) else ⟨#[]⟩) ++ strB nn), .string (if sl then strB dd else ⟨#[49]⟩)] := by
  have a1 : strB ((if neg then [45] else []) ++ nn) = (if neg then (⟨#[45]⟩ : ByteArray) else ⟨#[]⟩) ++ strB nn := by
   apply yp
   cases neg <;> simp [strB]
  have a2 : strB (if 47 ∈ digs s.data.toList then KI.behind 47 (digs s.data.toList) else [49]) = if sl then strB dd else ⟨#[49]⟩ := by
   rw [hsl, hdd]
   by_cases h : 47 ∈ digs s.data.toList
   ·simp [h]
   ·simp only [h, if_false, decide_false, Bool.false_eq_true]
    rfl
  rw [hV, partsR2, ← hnn, ← hneg, a1, a2]
 unfold splitR at HS
 rw [← hnn, ← hdd, ← hneg, ← hsl] at HS
 rw [← hnn] at hnl
 clear hsl hneg hdd hnn hV
 obtain ⟨NN, hNN⟩ := xe (strB nn)
 obtain ⟨DD, hDD⟩ := xe (strB dd)
 have hNs : NN.size ≤ 1000000 := by rw [hNN, yu]; omega
 rw [← hNN, ← hDD] at HS hV2
 have HV := hide hV2
 have v1 : (9223372036854775807 < 1 + NN.size) = False := eq_false (by omega)
 clear hNN hDD hV2 hs hnl hNs
 cases neg <;> cases sl
 all_goals
  go_enter Tryz.func84, Tryz.ntmps84
  go_wp2_with fail
  refine (HS.out _).mono ?_
  rintro e w1 ⟨rfl, hb1⟩
  have HB1 := hide hb1
  clear hb1
  go_wp2_with fail
  refine ret2v rfl rfl rfl rfl ?_
  exact ⟨by rw [HV.out]; first | rfl | (simp; done), HB1.out⟩
end Go.Proofs.YtklgpilgalfckaaGreatDoor
namespace Go.KI
open Go
theorem jg {b : Nat} (hb : 0 < b) {p q : List Nat} (hp : Norm b p) (hq : Lt b q) (h : lv b p ≤ lv b q) : p.length ≤ q.length := by
 rcases Nat.lt_or_ge q.length p.length with h1 | h1
 ·have := zJ hb hq hp h1
  omega
 ·exact h1
theorem yc3 {b : Nat} (hb : 0 < b) {x y : List Nat} (hx : Lt b x) (hy : Lt b y) (hl : x.length = y.length) {k : Nat} (hk : k < x.length) (hs : ∀ j, j < k → lat x (x.length - 1 - j) = lat y (x.length - 1 - j)) :
 (lat x (x.length - 1 - k) < lat y (x.length - 1 - k) → lv b x < lv b y) ∧ (lat y (x.length - 1 - k) < lat x (x.length - 1 - k) → lv b y < lv b x) := by
 have hd : x.drop (x.length - 1 - k + 1) = y.drop (x.length - 1 - k + 1) := by
  apply List.ext_getElem?
  intro i
  rw [List.getElem?_drop, List.getElem?_drop]
  by_cases hi : x.length - 1 - k + 1 + i < x.length
  ·have h1 := hs (k - 1 - i) (by omega)
   rw [show x.length - 1 - (k - 1 - i) = x.length - 1 - k + 1 + i by omega] at h1
   rw [qO hi, qO (l := y) (by omega), h1]
  ·rw [List.getElem?_eq_none (by omega), List.getElem?_eq_none (by omega)]
 exact ⟨fun h => xM hb hx hl (i := x.length - 1 - k) (by omega) hd h, fun h => xM hb hy hl.symm (i := x.length - 1 - k) (by omega) hd.symm h⟩
end Go.KI
namespace Go.Proofs.YtklgpilgalfckaaGreatDoor
open Go.RowKit Go.KP Go.KI Go.Shelf
attribute [local go_sem] Oper.semAt_some

theorem vl (s t : ByteArray) (c1 : chkI s.data.toList = 0) (c2 : chkI t.data.toList = 0) (hs : s.size ≤ 17) (ht : t.size ≤ 17) (w : World) :
 Calls Tryz.prog 186 #[.string s, .string t] w (Ret w (.tuple #[.int .i64 (valI s.data.toList), .int .i64 (valI t.data.toList), .bool true])) := by
 have H1 := hide (fun w => kg s c1 hs w)
 have H2 := hide (fun w => kg t c2 ht w)
 clear c1 c2 hs ht
 go_enter Tryz.func186, Tryz.ntmps186
 go_wp2_with fail
 refine (H1.out _).mono ?_
 rintro e w1 ⟨rfl, hb1⟩
 have HB1 := hide hb1
 clear hb1 H1
 go_wp2_with fail
 refine (H2.out _).mono ?_
 rintro e w2 ⟨rfl, hb2⟩
 have HB2 := bt HB1 hb2
 clear hb2 H2 HB1
 go_wp2_with fail
 go_ret3
 exact ⟨rfl, HB2.out⟩
def TwoNo (w : World) (e : Ending) (w2 : World) : Prop := ∃ x y : Int, Ret w (.tuple #[.int .i64 x, .int .i64 y, .bool false]) e w2
theorem wM (s t : ByteArray) (c1 : chkI s.data.toList = 0) (h : ¬ (s.size ≤ 17 ∧ t.size ≤ 17)) (w : World) :
 Calls Tryz.prog 186 #[.string s, .string t] w (TwoNo w) := by
 by_cases hs : s.size ≤ 17
 ·have H1 := hide (fun w => kg s c1 hs w)
  have H2 := hide (fun w => ycF t (by omega) w)
  clear c1 hs h
  go_enter Tryz.func186, Tryz.ntmps186
  go_wp2_with fail
  refine (H1.out _).mono ?_
  rintro e w1 ⟨rfl, hb1⟩
  have HB1 := hide hb1
  clear hb1 H1
  go_wp2_with fail
  refine (H2.out _).mono ?_
  rintro e w2 ⟨rfl, hb2⟩
  have HB2 := bt HB1 hb2
  clear hb2 H2 HB1
  go_wp2_with fail
  go_ret3
  exact ⟨_, _, rfl, HB2.out⟩
 ·have H1 := hide (fun w => ycF s (by omega) w)
  clear c1 hs h
  go_enter Tryz.func186, Tryz.ntmps186
  go_wp2_with fail
  refine (H1.out _).mono ?_
  rintro e w1 ⟨rfl, hb1⟩
  have HB1 := hide hb1
  clear hb1 H1
  go_wp2_with fail
  go_ret3
  exact ⟨_, _, rfl, HB1.out⟩
def SizeRes (x y : List Nat) (w : World) (e : Ending) (w2 : World) : Prop := ∃ r : Int, e = .returned (.int .i64 r) ∧ CmpRes r (lv 1000000 x) (lv 1000000 y) ∧ Below w.heap.size w w2
theorem yao (va vb : Value) (x y : List Nat) (B : Nat) (w : World) (ha : LimbAt B w va x) (hb : LimbAt B w vb y) (hB : B ≤ w.heap.size) (hx : Norm 1000000 x) (hy : Norm 1000000 y) (lx : x.length ≤ 100000) :
 Calls Tryz.prog 209 #[va, vb] w (SizeRes x y w) := by
 obtain ⟨a0, c0, hva⟩ := ha.form
 obtain ⟨a1, c1, hvb⟩ := hb.form
 subst hva; subst hvb
 have HA := hide ha; have HBB := hide hb; have HX := hide hx; have HY := hide hy
 clear ha hb hx hy
 by_cases hlen : x.length = y.length
 ·have hq : ((x.length : Int) != (y.length : Int)) = false := by rw [hlen]; simp
  have HL := hide hlen
  obtain ⟨n, hn⟩ := xe x.length
  have hyn : y.length = n := by omega
  have HN := hide hn; have HYN := hide hyn
  rw [← hn] at lx hq ⊢
  rw [hyn] at hq ⊢
  clear hlen hn hyn
  go_enter Tryz.func209, Tryz.ntmps209
  go_wp2_with fail
  go_loopw [5] (fun i wr => ∃ k : Nat, k ≤ n ∧ i = .int .i64 ((n : Int) - 1 - k) ∧ Hid ((∀ j, j < k → lat x (n - 1 - j) = lat y (n - 1 - j)) ∧ Below w.heap.size w wr)) (fun i _ => (intOf i + 1).toNat)
  case atStart => exact ⟨0, Nat.zero_le _, by simp, fun j hj => by omega, Below.refl _ _⟩
  case round =>
   obtain ⟨k, hk, rfl, hin⟩ := hrel
   have IN := hide hin.out
   clear hin
   by_cases hlt : k < n
   ·obtain ⟨m, hm⟩ : ∃ m : Nat, (n : Int) - 1 - (k : Int) = m := ⟨n - 1 - k, by omega⟩
    have hm2 : n - 1 - k = m := by omega
    rw [hm]
    have hmi : (m : Int) < (n : Int) := by omega
    rcases (HA.out.below IN.out.2 hB).cases with ⟨_, _, _, hnil⟩ | ⟨g, o, cap, hv, hg, hc⟩
    ·have := HN.out
     rw [hnil] at this
     simp at this
     omega
    injection hv with hv1 hv2 hv3
    rcases (HBB.out.below IN.out.2 hB).cases with ⟨_, _, _, hnil⟩ | ⟨g', o', cap', hv', hg', hc'⟩
    ·have := HYN.out
     rw [hnil] at this
     simp at this
     omega
    injection hv' with hv1' hv2' hv3'
    subst hv1; subst hv1'
    have q1 := hc m (by have := HN.out; omega)
    have q2 := hc' m (by have := HYN.out; omega)
    have hc3 := yc3 (b := 1000000) (by omega) HX.out.lt HY.out.lt HL.out (k := k) (by have := HN.out; omega) (by rw [← HN.out]; exact IN.out.1)
    rw [← HN.out, hm2] at hc3
    obtain ⟨X, hX⟩ := xe (lat x m)
    obtain ⟨Y, hY⟩ := xe (lat y m)
    have HXY := hide (show X = Y → lat x (n - 1 - k) = lat y (n - 1 - k) from fun h => by rw [hm2, ← hX, ← hY]; exact h)
    rw [← hX, ← hY] at hc3
    rw [← hX] at q1
    rw [← hY] at q2
    have HC3 := hide hc3
    have HM := hide hm
    clear hc hc' hv2 hv2' hv3 hv3' hX hY hc3 hm hm2 hg hg'
    by_cases h1 : X < Y
    ·have t1 : (X : Int) < (Y : Int) := by omega
     have HR := hide (HC3.out.1 h1)
     clear h1
     go_wp2_with fail
     go_quiet (fail)
     have HB2 := hide (below_drewN IN.out.2 nq)
     go_wp2_with fail
     go_ret
     exact ⟨_, rfl, ⟨⟨fun _ => HR.out, fun _ => by omega⟩, ⟨fun h => by omega, fun h => by have := HR.out; omega⟩⟩, HB2.out⟩
    ·have t1 : ((X : Int) < (Y : Int)) = False := eq_false (by omega)
     by_cases h2 : Y < X
     ·have t2 : (Y : Int) < (X : Int) := by omega
      have HR := hide (HC3.out.2 h2)
      clear h1 h2
      go_wp2_with fail
      go_quiet (fail)
      have HB2 := hide (below_drewN IN.out.2 nq)
      go_wp2_with fail
      go_quiet (fail)
      have HB3 := hide (below_drewN HB2.out nq)
      go_wp2_with fail
      go_ret
      exact ⟨_, rfl, ⟨⟨fun h => by omega, fun h => by have := HR.out; omega⟩, ⟨fun h => by omega, fun h => by have := HR.out; omega⟩⟩, HB3.out.os, HB3.out.tape, HB3.out.output, HB3.out.size, HB3.out.block⟩
     ·have t2 : ((Y : Int) < (X : Int)) = False := eq_false (by omega)
      have HE := hide (HXY.out (by omega))
      clear h1 h2
      go_wp2_with fail
      go_quiet (fail)
      have HB2 := hide (below_drewN IN.out.2 nq)
      go_wp2_with fail
      go_quiet (fail)
      have HB3 := hide (below_drewN HB2.out nq)
      go_wp2_with fail
      go_roundw
      case rel =>
       refine ⟨k + 1, by omega, by have := HM.out; congr 1; omega, fun j hj => ?_, HB3.out.os, HB3.out.tape, HB3.out.output, HB3.out.size, HB3.out.block⟩
       rcases Nat.lt_or_ge j k with h | h
       ·exact IN.out.1 j h
       ·obtain rfl : j = k := by omega
        exact HE.out
      case measure => simp [intOf]
   ·obtain rfl : k = n := by omega
    have hm : (k : Int) - 1 - (k : Int) = -1 := by omega
    rw [hm]
    have HXY := hide (show x = y from yfD HL.out (fun j hj => by rw [← HN.out]; exact IN.out.1 j (by have := HN.out; omega)))
    clear hm hlt
    go_wp2_with fail
    go_ret
    exact ⟨_, rfl, ⟨by rw [HXY.out]; omega, by rw [HXY.out]; simp⟩, IN.out.2⟩
 ·have hq : ((x.length : Int) != (y.length : Int)) = true := by
   have : (x.length : Int) ≠ (y.length : Int) := by omega
   simpa using this
  rcases Nat.lt_or_gt_of_ne hlen with h | h
  ·have HR := hide (zJ (b := 1000000) (by omega) HX.out.lt HY.out h)
   have t1 : (x.length : Int) < (y.length : Int) := by omega
   clear hlen h
   go_enter Tryz.func209, Tryz.ntmps209
   go_wp2_with fail
   go_ret
   exact ⟨_, rfl, ⟨⟨fun _ => HR.out, fun _ => by omega⟩, ⟨fun h => by omega, fun h => by have := HR.out; omega⟩⟩, Below.refl _ _⟩
  ·have HR := hide (zJ (b := 1000000) (by omega) HY.out.lt HX.out h)
   have t1 : ((x.length : Int) < (y.length : Int)) = False := eq_false (by omega)
   clear hlen h
   go_enter Tryz.func209, Tryz.ntmps209
   go_wp2_with fail
   go_ret
   exact ⟨_, rfl, ⟨⟨fun h => by omega, fun h => by have := HR.out; omega⟩, ⟨fun h => by omega, fun h => by have := HR.out; omega⟩⟩, Below.refl _ _⟩

theorem yf7 {X Y C : Nat} (hX : X < 1000000) (hY : Y < 1000000) (hC : C ≤ 1) :
 ∃ T Q R : Nat, (X : Int) + (Y : Int) + (C : Int) = (T : Int) ∧ (T : Int) / 1000000 = (Q : Int) ∧ (T : Int) % 1000000 = (R : Int) ∧ T ≤ 2000000 ∧ Q ≤ 1 ∧ R < 1000000 ∧ X + Y + C = R + 1000000 * Q := by
 refine ⟨X + Y + C, (X + Y + C) / 1000000, (X + Y + C) % 1000000, by omega, by omega, by omega, by omega, by omega, by omega, by omega⟩
def RowRes (v : Nat) (n : Nat) (w : World) (e : Ending) (w2 : World) : Prop := ∃ l, LimbsRet w l e w2 ∧ Norm 1000000 l ∧ lv 1000000 l = v ∧ l.length ≤ n
theorem wI (w : World) : OwnL w.heap.size (w.alloc (.cells #[] 3)) (.slice (some ⟨w.heap.size, 0, none⟩) 0 0) [] := by
 refine ⟨by simp [icells], .inr ⟨w.heap.size, 0, #[], rfl, Nat.le_refl _, heap_alloc_new _ _, Nat.le_refl _, by unfold maxLen; omega, rfl, rfl⟩⟩
theorem ybX (va vb : Value) (x y : List Nat) (B : Nat) (w : World) (ha : LimbAt B w va x) (hb : LimbAt B w vb y) (hB : B ≤ w.heap.size) (hx : Lt 1000000 x) (hy : Lt 1000000 y) (lx : x.length ≤ 100000) (ly : y.length ≤ 100000) :
 Calls Tryz.prog 211 #[va, vb] w (RowRes (lv 1000000 x + lv 1000000 y) (max x.length y.length + 1) w) := by
 obtain ⟨a0, c0, hva⟩ := ha.form
 obtain ⟨a1, c1, hvb⟩ := hb.form
 subst hva; subst hvb
 obtain ⟨i0, hi0, hz0, hz1, hz2⟩ := info_parts info3
 have HA := hide ha; have HBB := hide hb; have HX := hide hx; have HY := hide hy
 obtain ⟨n, hn⟩ := xe (max x.length y.length)
 have hnl : n ≤ 100000 := by omega
 have HN := hide hn
 have HE0 := hide (wI w)
 have HBe := hide ((Below.refl w.heap.size w).alloc (Nat.le_refl _) (.cells #[] 3))
 clear ha hb hx hy hn
 go_enter Tryz.func211, Tryz.ntmps211
 go_wp2_with fail
 go_loopw [5, 6, 7] (fun v c i wr => ∃ (k C : Nat) (L : List Nat), k ≤ n + 1 ∧ i = .int .i64 k ∧ c = .int .i64 C ∧ C ≤ 1 ∧ Hid (OwnL w.heap.size wr v L ∧ Below w.heap.size w wr ∧ L.length = k ∧ Lt 1000000 L ∧ lv 1000000 L + 1000000 ^ k * C = lvT 1000000 x k + lvT 1000000 y k)) (fun _ _ i _ => n + 2 - (intOf i).toNat)
 case atStart => exact ⟨0, 0, [], Nat.zero_le _, rfl, rfl, Nat.zero_le _, HE0.out, HBe.out, rfl, fun z hz => by simp at hz, by rw [qn, qn]; rfl⟩
 case round =>
  obtain ⟨k, C, L, hk, rfl, rfl, hC, hin⟩ := hrel
  have hsz := hin.out.2.1.size
  obtain ⟨va2, vc2, hvf, hcap, _⟩ := hin.out.1.form
  have hLk := hin.out.2.2.1
  rw [hLk] at hvf hcap
  subst hvf
  have IN := hide hin.out
  clear hin
  have hcarry : n + 1 ≤ k → C = 0 := fun h => by
   have h1 := IN.out.2.2.2.2
   rw [zo (l := x) (by have := HN.out; omega), zo (l := y) (by have := HN.out; omega)] at h1
   have h2 := xB HX.out
   have h3 := xB HY.out
   have h4 : 1000000 ^ x.length ≤ 1000000 ^ n := Nat.pow_le_pow_right (by omega) (by have := HN.out; omega)
   have h5 : 1000000 ^ y.length ≤ 1000000 ^ n := Nat.pow_le_pow_right (by omega) (by have := HN.out; omega)
   obtain rfl : k = n + 1 := by omega
   rw [Nat.pow_succ] at h1
   rcases Nat.eq_zero_or_pos C with h6 | h6
   ·exact h6
   ·exfalso
    have h7 : 1000000 ^ n * 1000000 * 1 ≤ 1000000 ^ n * 1000000 * C := Nat.mul_le_mul_left _ h6
    omega
  have HCA := hide hcarry
  clear hcarry
  rcases (show (k < x.length) ∨ (¬ k < x.length ∧ k < y.length) ∨ (¬ k < x.length ∧ ¬ k < y.length ∧ 0 < C) ∨ (¬ k < x.length ∧ ¬ k < y.length ∧ C = 0) by omega) with h1 | ⟨h1, h2⟩ | ⟨h1, h2, h3⟩ | ⟨h1, h2, h3⟩
  case' inl =>
   have t1 : (k : Int) < (x.length : Int) := by omega
   have hkn : k ≤ n := by have := HN.out; omega
  case' inr.inl =>
   have t1 : ((k : Int) < (x.length : Int)) = False := eq_false (by omega)
   have t2 : (k : Int) < (y.length : Int) := by omega
   have hkn : k ≤ n := by have := HN.out; omega
  case' inr.inr.inl =>
   have t1 : ((k : Int) < (x.length : Int)) = False := eq_false (by omega)
   have t2 : ((k : Int) < (y.length : Int)) = False := eq_false (by omega)
   have t3 : 0 < C := h3
   have hkn : k ≤ n := by
    rcases Nat.lt_or_ge n k with h | h
    ·have := HCA.out h
     omega
    ·exact h
  rotate_right
  ·have t1 : ((k : Int) < (x.length : Int)) = False := eq_false (by omega)
   have t2 : ((k : Int) < (y.length : Int)) = False := eq_false (by omega)
   subst h3
   have HT := hide (zy va2 vc2 L wr.heap.size wr (by rw [hLk]; exact IN.out.1.at_) (by omega) (by omega))
   rw [hLk] at HT
   have HV := hide (show lv 1000000 L = lv 1000000 x + lv 1000000 y by
    have h4 := IN.out.2.2.2.2
    rw [zo (l := x) (by omega), zo (l := y) (by omega), Nat.mul_zero, Nat.add_zero] at h4
    exact h4)
   have HLK := hide hLk
   clear h1 h2 hLk
   go_wp2_with fail
   refine HT.out.mono ?_
   rintro e w1 ⟨rfl, rfl⟩
   go_wp2_with fail
   go_ret
   refine ⟨trimL L, ⟨_, rfl, IN.out.2.1, ?_⟩, yB IN.out.2.2.2.1, by rw [yR, HV.out], ?_⟩
   ·have hc := IN.out.1.cut (k := trimTo L k) (by rw [HLK.out]; have := yj L k; omega)
    unfold trimL
    rw [HLK.out]
    exact hc
   ·rw [yJ]
    have := yj L L.length
    have := HLK.out
    have := HN.out
    omega
  all_goals
   have hL1 := hide (fun W (h : Below w.heap.size w W) => qz (.slice a0 x.length c0) x k B W (HA.out.below h hB) (by omega))
   have hL2 := hide (fun W (h : Below w.heap.size w W) => qz (.slice a1 y.length c1) y k B W (HBB.out.below h hB) (by omega))
   have hxk := yF (by omega) HX.out k
   have hyk := yF (by omega) HY.out k
   obtain ⟨X, hX⟩ := xe (lat x k)
   obtain ⟨Y, hY⟩ := xe (lat y k)
   rw [← hX] at hL1 hxk
   rw [← hY] at hL2 hyk
   obtain ⟨T, Q, R, hT, hQ, hR, hTl, hQl, hRl, hs⟩ := yf7 hxk hyk hC
   have HXE := hide hX; have HYE := hide hY; have HS := hide hs; have HQE := hide hQ
   have HOW := hide (show (wr.alloc (.cells #[.int .i64 R] 3)).ownsRow w.heap.size 3 1 (.slice va2 k vc2) k (icells L) by
    have h := IN.out.1
    unfold OwnL at h
    rw [hLk] at h
    exact h.alloc _)
   have HNW := hide (show ∀ j u, ([.int .i64 R] : List Value)[j]? = some u → (wr.alloc (.cells #[.int .i64 R] 3)).cell? ((⟨wr.heap.size, 0, none⟩ : Addr).add j) = some u from World.news_of_block (cs := #[.int .i64 R]) (t := 3) (fr := (0, 0)) (heap_alloc_new wr _))
   have HLK := hide hLk
   clear hX hY hs hLk
   go_wp2_with fail
   refine (hL1.out wr IN.out.2.1).mono ?_
   rintro e w1 ⟨rfl, rfl⟩
   go_wp2_with fail
   refine (hL2.out _ IN.out.2.1).mono ?_
   rintro e w1 ⟨rfl, rfl⟩
   clear hL1 hL2
   go_wp2_with (at_builtin; go_must (refine wpList_append_own _ rfl (.tmp 35) (.tmp 38) 199 rfl w.heap.size 3 i0 _ 1 8 Tryz.underlying199 hi0 hz0 hz1 hz2 rfl (by decide) (.slice va2 k vc2) _ _ rfl HOW.out ⟨w1.heap.size, 0, none⟩ 1 1 [.int .i64 R] rfl rfl HNW.out (by simp [Value.oneCell']) (by simp only [maxLen]; omega) (by omega) (by simp; omega) ?_); intro v1 w5 hown hg1 hiff; clear hiff; have HOW5 := hide hown; have HGR := hide hg1; clear hown hg1)
   go_roundw
   case rel =>
    refine ⟨k + 1, Q, L ++ [R], by omega, by go_num, by first | rfl | rw [HQE.out], hQl, ?_, (IN.out.2.1.alloc (by omega) _).grown HGR.out (by simp; omega) (qG IN.out.1 (Nat.le_refl _)), by rw [List.length_append, HLK.out]; rfl, ?_, ?_⟩
    ·show World.ownsRow _ _ _ _ _ (L ++ [R]).length (icells (L ++ [R]))
     rw [List.length_append, HLK.out, za]
     exact HOW5.out
    ·intro z hz
     rcases List.mem_append.1 hz with h | h
     ·exact IN.out.2.2.2.1 z h
     ·simp only [List.mem_singleton] at h
      rw [h]
      exact hRl
    ·rw [qB, HLK.out, yy, yy, ← HXE.out, ← HYE.out]
     exact ycL IN.out.2.2.2.2 HS.out
   case measure => simp [intOf]; omega
theorem yfN {X Y C : Nat} (hX : X < 1000000) (hY : Y < 1000000) (hC : C ≤ 1) :
 (∃ R : Nat, (X : Int) - (Y : Int) - (C : Int) = (R : Int) ∧ R < 1000000 ∧ R + Y + C = X + 1000000 * 0) ∨
 (∃ m R : Nat, (X : Int) - (Y : Int) - (C : Int) = -(m : Int) ∧ 0 < m ∧ m ≤ 1000000 ∧ -(m : Int) + 1000000 = (R : Int) ∧ R < 1000000 ∧ R + Y + C = X + 1000000 * 1) := by
 by_cases h : Y + C ≤ X
 ·exact .inl ⟨X - (Y + C), by omega, by omega, by omega⟩
 ·exact .inr ⟨Y + C - X, 1000000 + X - (Y + C), by omega, by omega, by omega, by omega, by omega, by omega⟩
theorem vo (va vb : Value) (x y : List Nat) (B : Nat) (w : World) (ha : LimbAt B w va x) (hb : LimbAt B w vb y) (hB : B ≤ w.heap.size) (hx : Lt 1000000 x) (hy : Norm 1000000 y) (lx : x.length ≤ 100000) (hle : lv 1000000 y ≤ lv 1000000 x) :
 Calls Tryz.prog 223 #[va, vb] w (RowRes (lv 1000000 x - lv 1000000 y) x.length w) := by
 obtain ⟨a0, c0, hva⟩ := ha.form
 obtain ⟨a1, c1, hvb⟩ := hb.form
 subst hva; subst hvb
 obtain ⟨i0, hi0, hz0, hz1, hz2⟩ := info_parts info3
 have hyl := jg (b := 1000000) (by omega) hy hx hle
 have HA := hide ha; have HBB := hide hb; have HX := hide hx; have HY := hide hy.lt; have HLE := hide hle
 have HE0 := hide (wI w)
 have HBe := hide ((Below.refl w.heap.size w).alloc (Nat.le_refl _) (.cells #[] 3))
 clear ha hb hx hy hle
 go_enter Tryz.func223, Tryz.ntmps223
 go_wp2_with fail
 go_loopw [5, 6, 7] (fun v c i wr => ∃ (k C : Nat) (L : List Nat), k ≤ x.length ∧ i = .int .i64 k ∧ c = .int .i64 C ∧ C ≤ 1 ∧ Hid (OwnL w.heap.size wr v L ∧ Below w.heap.size w wr ∧ L.length = k ∧ Lt 1000000 L ∧ lv 1000000 L + lvT 1000000 y k = lvT 1000000 x k + 1000000 ^ k * C)) (fun _ _ i _ => x.length - (intOf i).toNat)
 case atStart => exact ⟨0, 0, [], Nat.zero_le _, rfl, rfl, Nat.zero_le _, HE0.out, HBe.out, rfl, fun z hz => by simp at hz, by rw [qn, qn]; rfl⟩
 case round =>
  obtain ⟨k, C, L, hk, rfl, rfl, hC, hin⟩ := hrel
  have hsz := hin.out.2.1.size
  obtain ⟨va2, vc2, hvf, hcap, _⟩ := hin.out.1.form
  have hLk := hin.out.2.2.1
  rw [hLk] at hvf hcap
  subst hvf
  have IN := hide hin.out
  clear hin
  by_cases hlt : k < x.length
  ·have t1 : (k : Int) < (x.length : Int) := by omega
   have hk0 : (0 : Int) ≤ (k : Int) := by omega
   rcases (HA.out.below IN.out.2.1 hB).cases with ⟨_, _, _, hnil⟩ | ⟨g, o, cap, hv, hg, hcl⟩
   ·rw [hnil] at hlt
    simp at hlt
   injection hv with hv1 hv2 hv3
   subst hv1; subst hv3
   have q1 := hcl k hlt
   have hL2 := hide (fun m : Nat => qz (.slice a1 y.length c1) y k B (wr.drewN m) (HBB.out.below (below_drewN IN.out.2.1 m) hB) (by omega))
   have hxk := yF (by omega) HX.out k
   have hyk := yF (by omega) HY.out k
   obtain ⟨X, hX⟩ := xe (lat x k)
   obtain ⟨Y, hY⟩ := xe (lat y k)
   rw [← hX] at q1 hxk
   rw [← hY] at hL2 hyk
   have HXE := hide hX; have HYE := hide hY; have HLK := hide hLk
   have hnums := yfN hxk hyk hC
   have hw0 : IntKind.i64.wrap ((X : Int) - (Y : Int)) = (X : Int) - (Y : Int) := IntWalk.i64_in _ (by omega)
   clear hX hY hcl hv2 hg hlt
   rcases hnums with ⟨R, hR, hRl, hs⟩ | ⟨m, R, hm, hm0, hml, hR, hRl, hs⟩
   case' inl =>
    have hw1 : IntKind.i64.wrap ((X : Int) - (Y : Int) - (C : Int)) = (R : Int) := by rw [hR]; exact IntWalk.i64_in _ (by omega)
    have t2 : ((R : Int) < 0) = False := eq_false (by omega)
    have HCN := hide (show (0 : Nat) ≤ 1 by omega)
    obtain ⟨C2, hC2⟩ : ∃ C2 : Nat, C2 = 0 := ⟨_, rfl⟩
   case' inr =>
    have hw1 : IntKind.i64.wrap ((X : Int) - (Y : Int) - (C : Int)) = -(m : Int) := by rw [hm]; exact IntWalk.i64_in _ (by omega)
    have hw2 : IntKind.i64.wrap (-(m : Int) + 1000000) = (R : Int) := by rw [hR]; exact IntWalk.i64_in _ (by omega)
    have t2 : 0 < m := hm0
    clear hm hR
    obtain ⟨C2, hC2⟩ : ∃ C2 : Nat, C2 = 1 := ⟨_, rfl⟩
   all_goals
    rw [← hC2] at hs
    have HS := hide hs
    have HC2 := hide hC2
    have HOW := hide (fun nq : Nat => show ((wr.drewN nq).alloc (.cells #[.int .i64 R] 3)).ownsRow w.heap.size 3 1 (.slice va2 k vc2) k (icells L) by
     have h : OwnL w.heap.size (wr.drewN nq) (.slice va2 k vc2) L := IN.out.1
     unfold OwnL at h
     rw [hLk] at h
     exact h.alloc _)
    have HNW := hide (fun nq : Nat => show ∀ j u, ([.int .i64 R] : List Value)[j]? = some u → ((wr.drewN nq).alloc (.cells #[.int .i64 R] 3)).cell? ((⟨wr.heap.size, 0, none⟩ : Addr).add j) = some u from World.news_of_block (cs := #[.int .i64 R]) (t := 3) (fr := (0, 0)) (heap_alloc_new (wr.drewN nq) _))
    clear hs hC2 hLk
    go_wp2_with fail
    go_quiet ((go_at_call 245; exact Calls.quiet_of_same (hL2.out _)))
    clear hL2 q1 hw0 hw1
    go_wp2_with (at_builtin; go_must (refine wpList_append_own _ rfl (.tmp 30) (.tmp 32) 199 rfl w.heap.size 3 i0 _ 1 8 Tryz.underlying199 hi0 hz0 hz1 hz2 rfl (by decide) (.slice va2 k vc2) _ _ rfl (HOW.out nq) ⟨wr.heap.size, 0, none⟩ 1 1 [.int .i64 R] rfl rfl (HNW.out nq) (by simp [Value.oneCell']) (by simp only [maxLen]; omega) (by omega) (by simp; omega) ?_); intro v1 w5 hown hg1 hiff; clear hiff; have HOW5 := hide hown; have HGR := hide hg1; clear hown hg1)
    go_roundw
    case rel =>
     refine ⟨k + 1, C2, L ++ [R], by omega, by go_num, by rw [HC2.out]; rfl, by have := HC2.out; omega, ?_, ((below_drewN IN.out.2.1 nq).alloc (by show w.heap.size ≤ wr.heap.size; omega) _).grown HGR.out (by simp; omega) (qG IN.out.1 (Nat.le_refl _)), by rw [List.length_append, HLK.out]; rfl, ?_, ?_⟩
     ·show World.ownsRow _ _ _ _ _ (L ++ [R]).length (icells (L ++ [R]))
      rw [List.length_append, HLK.out, za]
      exact HOW5.out
     ·intro z hz
      rcases List.mem_append.1 hz with h | h
      ·exact IN.out.2.2.2.1 z h
      ·simp only [List.mem_singleton] at h
       rw [h]
       exact hRl
     ·rw [qB, HLK.out, yy, yy, ← HXE.out, ← HYE.out]
      have := yaO IN.out.2.2.2.2 HS.out
      omega
    case measure => simp [intOf]; omega
  ·obtain rfl : k = x.length := by omega
   have t1 : ((x.length : Int) < (x.length : Int)) = False := eq_false (by omega)
   have HT := hide (zy va2 vc2 L wr.heap.size wr (by rw [hLk]; exact IN.out.1.at_) (by omega) (by omega))
   rw [hLk] at HT
   have HV := hide (show lv 1000000 L = lv 1000000 x - lv 1000000 y by
    have h4 := IN.out.2.2.2.2
    rw [zo (l := x) (Nat.le_refl _), zo (l := y) hyl] at h4
    have h5 := xB IN.out.2.2.2.1
    rw [hLk] at h5
    have h6 := HLE.out
    rcases Nat.eq_zero_or_pos C with h7 | h7
    ·rw [h7, Nat.mul_zero] at h4
     omega
    ·exfalso
     have h8 : 1000000 ^ x.length * 1 ≤ 1000000 ^ x.length * C := Nat.mul_le_mul_left _ h7
     omega)
   have HLK := hide hLk
   clear hlt hLk
   go_wp2_with fail
   refine HT.out.mono ?_
   rintro e w1 ⟨rfl, rfl⟩
   go_wp2_with fail
   go_ret
   refine ⟨trimL L, ⟨_, rfl, IN.out.2.1, ?_⟩, yB IN.out.2.2.2.1, by rw [yR, HV.out], ?_⟩
   ·have hc := IN.out.1.cut (k := trimTo L x.length) (by rw [HLK.out]; have := yj L x.length; omega)
    unfold trimL
    rw [HLK.out]
    exact hc
   ·rw [yJ]
    have := yj L L.length
    have := HLK.out
    omega
end Go.Proofs.YtklgpilgalfckaaGreatDoor
namespace Go.KI
open Go
theorem yeh (ds : List UInt8) {lo e : Nat} (h : lo ≤ e) (_ : e ≤ ds.length) : dv (ds.drop lo) = dv ((ds.drop lo).take (e - lo)) * 10 ^ (ds.length - e) + dv (ds.drop e) := by
 have h1 : ds.drop lo = (ds.drop lo).take (e - lo) ++ ds.drop e := by
  conv => lhs; rw [← List.take_append_drop (e - lo) (ds.drop lo)]
  rw [List.drop_drop]
  congr 2
  omega
 conv => lhs; rw [h1]
 rw [qh, List.length_drop]
theorem jY {ds : List UInt8} (hd : ∀ c ∈ ds, isDg c = true) (lo j : Nat) : dv ((ds.drop lo).take j) < 10 ^ j := by
 have h1 := yay ((ds.drop lo).take j) (fun c hc => hd c (List.mem_of_mem_drop (List.mem_of_mem_take hc)))
 exact Nat.lt_of_lt_of_le h1 (Nat.pow_le_pow_right (by omega) (List.length_take_le _ _))
theorem qP (ds : List UInt8) {lo j : Nat} (h : lo ≤ j) {c : UInt8} (hc : ds[j]? = some c) : dv ((ds.drop lo).take (j + 1 - lo)) = dv ((ds.drop lo).take (j - lo)) * 10 + (c.toNat - 48) := by
 rw [show j + 1 - lo = (j - lo) + 1 by omega, List.take_add_one, List.getElem?_drop, show lo + (j - lo) = j by omega, hc]
 exact qV _ _
end Go.KI
namespace Go.Proofs.YtklgpilgalfckaaGreatDoor
open Go.RowKit Go.KP Go.KI Go.Shelf
attribute [local go_sem] Oper.semAt_some

theorem vn {R : Ending → World → Prop} {a : Act} {W : World} {b : Nat} {m : Bool} {v : Value} (hb : W.heap[b]? = some (.cells #[.bool m, v] 222 (0, 0)))
 (h2 : a.tmps[2]? = some (.pointer (some ⟨b, 0, none⟩))) (hd : a.defers = []) (hR : R (.returned (numV m v)) W) : bodyPost Tryz.prog Tryz.f189 R .ret a W := by
 have hcell := fun o => ya hb o
 refine bodyPost_ret ?_ hd hR
 simp [results, go_sem, hcell, h2]
def RNum (z : Int) (n : Nat) (w : World) (e : Ending) (w2 : World) : Prop := ∃ (m : Bool) (v : Value) (l : List Nat), e = .returned (numV m v) ∧ Below w.heap.size w w2 ∧ OwnL w.heap.size w2 v l ∧ Norm 1000000 l ∧ valS m (lv 1000000 l) = z ∧ l.length ≤ n
theorem ze (s : ByteArray) (c1 : chkI s.data.toList = 0) (w : World) :
 Calls Tryz.prog 189 #[.string s] w (RNum (valI s.data.toList) 60 w) := by
 obtain ⟨i0, hi0, hz0, hz1, hz2⟩ := info_parts info3
 obtain ⟨mi, hmi⟩ := xe (decide (s.data.toList.head? = some 45))
 have HV := hide (ydS s.data.toList)
 rw [← hmi] at HV
 have hpos := jL c1
 have hlen := (yL c1).2
 rw [yg] at hpos hlen
 have hne : s.data.toList ≠ [] := fun e => by have := yg s; rw [e] at this; simp at this; omega
 obtain ⟨hp, hh⟩ := yT hne
 have hp0 : (0 : Int) < (s.size : Int) := by omega
 have h45 : ((s[0].toNat : Int) == 45) = mi := by
  rw [hmi, hh]
  by_cases h : s[0] = 45
  ·rw [h]; rfl
  ·have : s[0].toNat ≠ 45 := fun e => h (UInt8.toNat_inj.1 e)
   have h2 : ((s[0].toNat : Int) == 45) = false := by
    simp only [beq_eq_false_iff_ne, ne_eq]
    omega
   rw [h2]
   simp [h]
 have HDG := hide (yL c1).1
 obtain ⟨ds, hds⟩ := xe (digs s.data.toList)
 have hd := yZ s.data.toList
 rw [← hds] at HDG HV hd
 have hdl : ds.length ≤ 300 := by
  have h1 := zb.1 (qg c1).2
  have h2 := yQ (valI s.data.toList)
  rw [← (qg c1).1, ← hds] at h2
  rw [h2]
  exact h1
 obtain ⟨t, ht⟩ : ∃ t : ByteArray, t.data.toList = ds := ⟨strB ds, yh _⟩
 have htl : t.size = ds.length := by rw [← yg, ht]
 have htT : mi = true → s.extract 1 s.size = t := fun h => by
  rw [h] at hmi
  apply yp
  rw [ht, hd, if_pos (of_decide_eq_true hmi.symm)]
  simp
  exact List.take_of_length_le (by rw [List.length_tail, yg]; exact Nat.le_refl _)
 have htF : mi = false → s = t := fun h => by
  rw [h] at hmi
  apply yp
  rw [ht, hd, if_neg (of_decide_eq_false hmi.symm)]
  rfl
 have HTT := hide htT; have HTF := hide htF; have HT := hide ht
 obtain ⟨D, hD⟩ := xe t.size
 have hDl : D ≤ 300 := by omega
 have HD := hide hD; have HDD := hide (show ds.length = D by omega)
 clear hmi hne hh c1 hd hds hlen hdl ht htl htT htF hpos hD
 go_enter Tryz.func189, Tryz.ntmps189
 cases mi
 ·have HST := hide (HTF.out rfl)
  clear HTT HTF
  go_wp2_with fail
  have hst := HST.out
  subst hst
  have HSZ := hide (show s.size = D from HD.out.symm)
  obtain ⟨p0, p1, ps, pb⟩ := heap2 w (.cells #[.bool false, .slice none 0 0] 222) (.cells #[.bool false, .slice none 0 0] 222)
  obtain ⟨w0, hw0⟩ : ∃ w0, (w.alloc (.cells #[.bool false, .slice none 0 0] 222)).alloc (.cells #[.bool false, .slice none 0 0] 222) = w0 := ⟨_, rfl⟩
  rw [hw0] at p0 p1 ps pb ⊢
  have P0 := hide p0; have P1 := hide p1; have PB := hide pb; have PS := hide ps
  clear p0 p1 ps pb hw0 h45
  go_loopw [4] (fun e wr => ∃ k : Nat, e = .int .i64 ((D : Int) - 6 * (k : Int)) ∧ 6 * k ≤ D + 5 ∧ Hid (∃ (v : Value) (L : List Nat), wr.heap[w.heap.size]? = some (.cells #[.bool false, .slice none 0 0] 222 (0, 0)) ∧ wr.heap[w.heap.size + 1]? = some (.cells #[.bool false, v] 222 (0, 0)) ∧ Below w.heap.size w wr ∧ OwnL (w.heap.size + 2) wr v L ∧ L.length = k ∧ Lt 1000000 L ∧ lv 1000000 L = dv (ds.drop (D - 6 * k)))) (fun e _ => (intOf e).toNat)
  case atStart => exact ⟨0, by have := HSZ.out; first | rfl | (congr 1 <;> omega), by omega, .slice none 0 0, [], P0.out, P1.out, PB.out, OwnL.nil _ _, rfl, fun z hz => by simp at hz, by
   rw [List.drop_of_length_le (by have := HDD.out; omega)]; rfl⟩
  case round =>
   obtain ⟨k, rfl, hk6, hin⟩ := hrel
   obtain ⟨v, L, r0, r1, rb, ro, rl, rt, rv⟩ := hin.out
   obtain ⟨va, vc, hvf, hcap, _⟩ := ro.form
   rw [rl] at hvf hcap
   subst hvf
   have hwr : w.heap.size + 2 ≤ wr.heap.size := by
    have h1 := yd r1
    omega
   by_cases hlt : 6 * k < D
   ·obtain ⟨E, hE⟩ := xe (D - 6 * k)
    have hEi : (D : Int) - 6 * (k : Int) = (E : Int) := by omega
    obtain ⟨lo, hlo⟩ := xe (E - 6)
    have hmax : max (0 : Int) ((E : Int) - 6) = (lo : Int) := by omega
    have hE0 : (0 : Int) < (E : Int) := by omega
    have hEl : (E : Int) ≤ 300 := by omega
    rw [hEi]
    have R0 := hide r0; have R1 := hide r1; have RB := hide rb; have RO := hide ro; have RL := hide rl; have RT := hide rt; have RV := hide rv
    have HE := hide hE; have HLO := hide hlo
    have hloE : lo ≤ E := by omega
    have hED : E ≤ D := by omega
    clear r0 r1 rb ro rl rt rv hin hE hlo hEi
    go_wp2_with fail
    clear hmax
    obtain ⟨wo, hwo⟩ := xe wr
    subst hwo
    go_loopw [5, 6] (fun nn i wr2 => ∃ j A : Nat, lo ≤ j ∧ j ≤ E ∧ i = .int .i64 j ∧ nn = .int .i64 A ∧ Hid (A = dv ((ds.drop lo).take (j - lo))) ∧ wr2 = wo) (fun _ i _ => E - (intOf i).toNat)
    case atStart => exact ⟨lo, 0, Nat.le_refl _, hloE, rfl, rfl, by rw [Nat.sub_self]; rfl, rfl⟩
    case round =>
     obtain ⟨j, A, hj1, hj2, rfl, rfl, hA, hww⟩ := hrel
     obtain rfl := hww.symm
     have hAb := jY HDG.out lo (j - lo)
     rw [← hA.out] at hAb
     by_cases hlt2 : j < E
     ·have hji : (j : Int) < (E : Int) := by omega
      have hj0 : (0 : Int) ≤ (j : Int) := by omega
      have hjt : j < s.size := by have := HD.out; omega
      have hjti : (j : Int) < (s.size : Int) := by omega
      obtain ⟨y, hyv⟩ : ∃ y : Nat, y = (s[j]'hjt).toNat := ⟨_, rfl⟩
      have hyv2 : (s[j]'hjt).toNat = y := hyv.symm
      have hat : ds[j]? = some (s[j]'hjt) := by
       rw [← HT.out]
       have h1 : s.data.toList[j]? = some s.data[j] := by simp
       exact h1
      have hdg := yH.1 (HDG.out _ (List.mem_of_getElem? hat))
      rw [hyv2] at hdg
      have hnew := qP ds hj1 hat
      rw [hyv2, ← hA.out] at hnew
      have hp5 : (10 : Nat) ^ (j - lo) ≤ 10 ^ 5 := Nat.pow_le_pow_right (by omega) (by have := HLO.out; omega)
      have hA5 : A < 100000 := Nat.lt_of_lt_of_le hAb hp5
      have HN := hide hnew.symm
      have y0 : (48 : Int) ≤ (y : Int) := by omega
      have y1 : (y : Int) ≤ 57 := by omega
      have a1 : (A : Int) < 100000 := by omega
      have HC := hide (show 10 * (A : Int) + ((y : Int) - 48) = ((A * 10 + (y - 48) : Nat) : Int) by omega)
      clear hat hyv hdg hnew hA hAb hp5 hA5
      go_wp2_with fail
      go_roundw
      case rel => exact ⟨j + 1, A * 10 + (y - 48), by omega, by omega, by go_num, by rw [← HC.out], HN, trivial⟩
      case measure => simp [intOf]; omega
     ·obtain rfl : j = E := by omega
      have hji : ((j : Int) < (j : Int)) = False := eq_false (by omega)
      have hp6 : (10 : Nat) ^ (j - lo) ≤ 10 ^ 6 := Nat.pow_le_pow_right (by omega) (by have := HLO.out; omega)
      have hAl : A < 1000000 := Nat.lt_of_lt_of_le hAb hp6
      have HAL := hide hAl
      have HAE := hide hA.out
      have q1 := ya R1.out 1
      have qf := yf R1.out 1
      have HOW := hide (show (wo.alloc (.cells #[.int .i64 A] 3)).ownsRow (w.heap.size + 2) 3 1 (.slice va k vc) k (icells L) by
       have h := RO.out
       unfold OwnL at h
       rw [RL.out] at h
       exact h.alloc _)
      have HNW := hide (show ∀ j u, ([.int .i64 A] : List Value)[j]? = some u → (wo.alloc (.cells #[.int .i64 A] 3)).cell? ((⟨wo.heap.size, 0, none⟩ : Addr).add j) = some u from World.news_of_block (cs := #[.int .i64 A]) (t := 3) (fr := (0, 0)) (heap_alloc_new wo _))
      clear hA hAb hp6 hAl hlt2
      go_wp2_with (at_builtin; go_must (refine wpList_append_own _ rfl (.tmp 37) (.tmp 39) 199 rfl (w.heap.size + 2) 3 i0 _ 1 8 Tryz.underlying199 hi0 hz0 hz1 hz2 rfl (by decide) (.slice va k vc) _ _ rfl HOW.out ⟨wo.heap.size, 0, none⟩ 1 1 [.int .i64 A] rfl rfl HNW.out (by simp [Value.oneCell']) (by simp only [maxLen]; omega) (by omega) (by simp; omega) ?_); intro v1 w5 hown hg1 hiff; clear hiff; obtain ⟨va1, vc1, hvf⟩ := xG hown; subst hvf; have HOW5 := hide hown; have HB5 := hide (show Below (w.heap.size + 2) wo w5 from ((Below.refl (w.heap.size + 2) wo).alloc hwr _).grown hg1 (by simp; omega) (qG RO.out (Nat.le_refl _))); clear hown hg1 q1 qf; have R1' := hide (yc HB5.out R1.out (by omega)); have R0' := hide (yc HB5.out R0.out (by omega)); have qf := yf R1'.out 1; have qc5 := ya R1'.out 1; have ql := yd R1'.out)
      go_roundw
      case rel =>
       refine ⟨k + 1, by have := HE.out; have := HLO.out; congr 1; omega, by have := HE.out; omega, .slice va1 (k + 1) vc1, L ++ [A], (ye (by omega)).trans R0'.out, ?_, (RB.out.trans (HB5.out.mono (by omega))).setCell (p := ⟨w.heap.size + 1, 1, none⟩) (by simp) _, ?_, by rw [List.length_append, RL.out]; rfl, ?_, ?_⟩
       ·have h := R1'.out
        simp only [World.setCell, Array.getElem?_modify, h]
        rfl
       ·refine OwnL.other ?_ (p := ⟨w.heap.size + 1, 1, none⟩) (by simp) _
        show World.ownsRow _ _ _ _ _ (L ++ [A]).length (icells (L ++ [A]))
        rw [List.length_append, RL.out, za]
        exact HOW5.out
       ·intro z hz
        rcases List.mem_append.1 hz with h | h
        ·exact RT.out z h
        ·simp only [List.mem_singleton] at h
         rw [h]
         exact HAL.out
       ·rw [qB, RL.out, RV.out]
        have h1 := yeh ds (lo := lo) (e := j) hj1 (by rw [HDD.out]; exact hED)
        have e1 : D - 6 * (k + 1) = lo := by have := HE.out; have := HLO.out; omega
        have e2 : D - 6 * k = j := HE.out.symm
        have e3 : (1000000 : Nat) ^ k = 10 ^ (ds.length - j) := by
         rw [show (1000000 : Nat) = 10 ^ 6 by decide, ← Nat.pow_mul]
         congr 1
         have := HE.out
         have := HDD.out
         omega
        rw [e1, e2, h1, ← HAE.out, e3, Nat.mul_comm A, Nat.add_comm]
      case measure => simp [intOf]; omega
   ·have hEi : ((0 : Int) < (D : Int) - 6 * (k : Int)) = False := eq_false (by omega)
    have HT2 := hide (fun W (h : OwnL (w.heap.size + 2) W (.slice va k vc) L) => zy va vc L W.heap.size W (by rw [rl]; exact h.at_) (by omega) (by omega))
    rw [rl] at HT2
    have HT3 := hide (HT2.out wr ro)
    have q1 := ya r1 1
    have q0 := ya r1 0
    have qf := yf r1 1
    have ql := yd r1
    have z0 := ya r0 0
    have z1 := ya r0 1
    have zf := yf r0 0
    have zg := yf r0 1
    have zl := yd r0
    have R0 := hide r0; have R1 := hide r1; have RB := hide rb; have RO := hide ro; have RL := hide rl; have RT := hide rt; have RV := hide rv
    have hk60 : k ≤ 60 := by omega
    clear r0 r1 rb ro rl rt rv hin HT2
    go_wp2_with fail
    refine HT3.out.mono ?_
    rintro e w1 ⟨rfl, rfl⟩
    go_wp2_with fail
    obtain ⟨Wa, hWa⟩ := xe (wr.setCell ⟨w.heap.size + 1, 1, none⟩ (.slice va (trimTo L k) vc))
    rw [← hWa]
    have A0 : Wa.heap[w.heap.size]? = some (.cells #[.bool false, .slice none 0 0] 222 (0, 0)) := by rw [hWa]; exact (ye (by omega)).trans R0.out
    have AB : Below w.heap.size w Wa := by rw [hWa]; exact RB.out.setCell (p := ⟨w.heap.size + 1, 1, none⟩) (by simp) _
    have AO : OwnL (w.heap.size + 2) Wa (.slice va k vc) L := by rw [hWa]; exact RO.out.other (p := ⟨w.heap.size + 1, 1, none⟩) (by simp) _
    obtain ⟨s1, s2⟩ := set2 A0 (.bool false) (.slice va (trimTo L k) vc)
    refine vn s1 rfl rfl ?_
    refine ⟨false, _, trimL L, rfl, AB.trans s2, ?_, yB RT.out, ?_, ?_⟩
    ·have h1 := (((AO.other (p := ⟨w.heap.size, 0, none⟩) (by simp) (.bool false)).other (p := ⟨w.heap.size, 1, none⟩) (by simp) (.slice va (trimTo L k) vc)).cut (k := trimTo L k) (by have := yj L k; rw [RL.out]; exact this)).mono (show w.heap.size ≤ w.heap.size + 2 by omega)
     unfold trimL
     rw [RL.out]
     exact h1
    ·rw [yR, RV.out, show D - 6 * k = 0 by omega, List.drop_zero, HV.out]
    ·rw [yJ]
     have := yj L L.length
     have := RL.out
     omega
 ·have HST := hide (HTT.out rfl)
  clear HTT HTF
  go_wp2_with fail
  have hst := HST.out
  have hsz : s.size - 1 = D := by
   rw [HD.out, ← hst]
   simp
  rw [hst, hsz]
  clear hst hsz
  have HSZ := hide (show D = D from rfl)
  obtain ⟨p0, p1, ps, pb⟩ := heap2 w (.cells #[.bool false, .slice none 0 0] 222) (.cells #[.bool true, .slice none 0 0] 222)
  obtain ⟨w0, hw0⟩ : ∃ w0, (w.alloc (.cells #[.bool false, .slice none 0 0] 222)).alloc (.cells #[.bool true, .slice none 0 0] 222) = w0 := ⟨_, rfl⟩
  rw [hw0] at p0 p1 ps pb ⊢
  have P0 := hide p0; have P1 := hide p1; have PB := hide pb; have PS := hide ps
  clear p0 p1 ps pb hw0 h45
  go_loopw [4] (fun e wr => ∃ k : Nat, e = .int .i64 ((D : Int) - 6 * (k : Int)) ∧ 6 * k ≤ D + 5 ∧ Hid (∃ (v : Value) (L : List Nat), wr.heap[w.heap.size]? = some (.cells #[.bool false, .slice none 0 0] 222 (0, 0)) ∧ wr.heap[w.heap.size + 1]? = some (.cells #[.bool true, v] 222 (0, 0)) ∧ Below w.heap.size w wr ∧ OwnL (w.heap.size + 2) wr v L ∧ L.length = k ∧ Lt 1000000 L ∧ lv 1000000 L = dv (ds.drop (D - 6 * k)))) (fun e _ => (intOf e).toNat)
  case atStart => exact ⟨0, by have := HSZ.out; first | rfl | (congr 1 <;> omega), by omega, .slice none 0 0, [], P0.out, P1.out, PB.out, OwnL.nil _ _, rfl, fun z hz => by simp at hz, by
   rw [List.drop_of_length_le (by have := HDD.out; omega)]; rfl⟩
  case round =>
   obtain ⟨k, rfl, hk6, hin⟩ := hrel
   obtain ⟨v, L, r0, r1, rb, ro, rl, rt, rv⟩ := hin.out
   obtain ⟨va, vc, hvf, hcap, _⟩ := ro.form
   rw [rl] at hvf hcap
   subst hvf
   have hwr : w.heap.size + 2 ≤ wr.heap.size := by
    have h1 := yd r1
    omega
   by_cases hlt : 6 * k < D
   ·obtain ⟨E, hE⟩ := xe (D - 6 * k)
    have hEi : (D : Int) - 6 * (k : Int) = (E : Int) := by omega
    obtain ⟨lo, hlo⟩ := xe (E - 6)
    have hmax : max (0 : Int) ((E : Int) - 6) = (lo : Int) := by omega
    have hE0 : (0 : Int) < (E : Int) := by omega
    have hEl : (E : Int) ≤ 300 := by omega
    rw [hEi]
    have R0 := hide r0; have R1 := hide r1; have RB := hide rb; have RO := hide ro; have RL := hide rl; have RT := hide rt; have RV := hide rv
    have HE := hide hE; have HLO := hide hlo
    have hloE : lo ≤ E := by omega
    have hED : E ≤ D := by omega
    clear r0 r1 rb ro rl rt rv hin hE hlo hEi
    go_wp2_with fail
    clear hmax
    obtain ⟨wo, hwo⟩ := xe wr
    subst hwo
    go_loopw [5, 6] (fun nn i wr2 => ∃ j A : Nat, lo ≤ j ∧ j ≤ E ∧ i = .int .i64 j ∧ nn = .int .i64 A ∧ Hid (A = dv ((ds.drop lo).take (j - lo))) ∧ wr2 = wo) (fun _ i _ => E - (intOf i).toNat)
    case atStart => exact ⟨lo, 0, Nat.le_refl _, hloE, rfl, rfl, by rw [Nat.sub_self]; rfl, rfl⟩
    case round =>
     obtain ⟨j, A, hj1, hj2, rfl, rfl, hA, hww⟩ := hrel
     obtain rfl := hww.symm
     have hAb := jY HDG.out lo (j - lo)
     rw [← hA.out] at hAb
     by_cases hlt2 : j < E
     ·have hji : (j : Int) < (E : Int) := by omega
      have hj0 : (0 : Int) ≤ (j : Int) := by omega
      have hjt : j < t.size := by have := HD.out; omega
      have hjti : (j : Int) < (t.size : Int) := by omega
      obtain ⟨y, hyv⟩ : ∃ y : Nat, y = (t[j]'hjt).toNat := ⟨_, rfl⟩
      have hyv2 : (t[j]'hjt).toNat = y := hyv.symm
      have hat : ds[j]? = some (t[j]'hjt) := by
       rw [← HT.out]
       have h1 : t.data.toList[j]? = some t.data[j] := by simp
       exact h1
      have hdg := yH.1 (HDG.out _ (List.mem_of_getElem? hat))
      rw [hyv2] at hdg
      have hnew := qP ds hj1 hat
      rw [hyv2, ← hA.out] at hnew
      have hp5 : (10 : Nat) ^ (j - lo) ≤ 10 ^ 5 := Nat.pow_le_pow_right (by omega) (by have := HLO.out; omega)
      have hA5 : A < 100000 := Nat.lt_of_lt_of_le hAb hp5
      have HN := hide hnew.symm
      have y0 : (48 : Int) ≤ (y : Int) := by omega
      have y1 : (y : Int) ≤ 57 := by omega
      have a1 : (A : Int) < 100000 := by omega
      have HC := hide (show 10 * (A : Int) + ((y : Int) - 48) = ((A * 10 + (y - 48) : Nat) : Int) by omega)
      clear hat hyv hdg hnew hA hAb hp5 hA5
      go_wp2_with fail
      go_roundw
      case rel => exact ⟨j + 1, A * 10 + (y - 48), by omega, by omega, by go_num, by rw [← HC.out], HN, trivial⟩
      case measure => simp [intOf]; omega
     ·obtain rfl : j = E := by omega
      have hji : ((j : Int) < (j : Int)) = False := eq_false (by omega)
      have hp6 : (10 : Nat) ^ (j - lo) ≤ 10 ^ 6 := Nat.pow_le_pow_right (by omega) (by have := HLO.out; omega)
      have hAl : A < 1000000 := Nat.lt_of_lt_of_le hAb hp6
      have HAL := hide hAl
      have HAE := hide hA.out
      have q1 := ya R1.out 1
      have qf := yf R1.out 1
      have HOW := hide (show (wo.alloc (.cells #[.int .i64 A] 3)).ownsRow (w.heap.size + 2) 3 1 (.slice va k vc) k (icells L) by
       have h := RO.out
       unfold OwnL at h
       rw [RL.out] at h
       exact h.alloc _)
      have HNW := hide (show ∀ j u, ([.int .i64 A] : List Value)[j]? = some u → (wo.alloc (.cells #[.int .i64 A] 3)).cell? ((⟨wo.heap.size, 0, none⟩ : Addr).add j) = some u from World.news_of_block (cs := #[.int .i64 A]) (t := 3) (fr := (0, 0)) (heap_alloc_new wo _))
      clear hA hAb hp6 hAl hlt2
      go_wp2_with (at_builtin; go_must (refine wpList_append_own _ rfl (.tmp 37) (.tmp 39) 199 rfl (w.heap.size + 2) 3 i0 _ 1 8 Tryz.underlying199 hi0 hz0 hz1 hz2 rfl (by decide) (.slice va k vc) _ _ rfl HOW.out ⟨wo.heap.size, 0, none⟩ 1 1 [.int .i64 A] rfl rfl HNW.out (by simp [Value.oneCell']) (by simp only [maxLen]; omega) (by omega) (by simp; omega) ?_); intro v1 w5 hown hg1 hiff; clear hiff; obtain ⟨va1, vc1, hvf⟩ := xG hown; subst hvf; have HOW5 := hide hown; have HB5 := hide (show Below (w.heap.size + 2) wo w5 from ((Below.refl (w.heap.size + 2) wo).alloc hwr _).grown hg1 (by simp; omega) (qG RO.out (Nat.le_refl _))); clear hown hg1 q1 qf; have R1' := hide (yc HB5.out R1.out (by omega)); have R0' := hide (yc HB5.out R0.out (by omega)); have qf := yf R1'.out 1; have qc5 := ya R1'.out 1; have ql := yd R1'.out)
      go_roundw
      case rel =>
       refine ⟨k + 1, by have := HE.out; have := HLO.out; congr 1; omega, by have := HE.out; omega, .slice va1 (k + 1) vc1, L ++ [A], (ye (by omega)).trans R0'.out, ?_, (RB.out.trans (HB5.out.mono (by omega))).setCell (p := ⟨w.heap.size + 1, 1, none⟩) (by simp) _, ?_, by rw [List.length_append, RL.out]; rfl, ?_, ?_⟩
       ·have h := R1'.out
        simp only [World.setCell, Array.getElem?_modify, h]
        rfl
       ·refine OwnL.other ?_ (p := ⟨w.heap.size + 1, 1, none⟩) (by simp) _
        show World.ownsRow _ _ _ _ _ (L ++ [A]).length (icells (L ++ [A]))
        rw [List.length_append, RL.out, za]
        exact HOW5.out
       ·intro z hz
        rcases List.mem_append.1 hz with h | h
        ·exact RT.out z h
        ·simp only [List.mem_singleton] at h
         rw [h]
         exact HAL.out
       ·rw [qB, RL.out, RV.out]
        have h1 := yeh ds (lo := lo) (e := j) hj1 (by rw [HDD.out]; exact hED)
        have e1 : D - 6 * (k + 1) = lo := by have := HE.out; have := HLO.out; omega
        have e2 : D - 6 * k = j := HE.out.symm
        have e3 : (1000000 : Nat) ^ k = 10 ^ (ds.length - j) := by
         rw [show (1000000 : Nat) = 10 ^ 6 by decide, ← Nat.pow_mul]
         congr 1
         have := HE.out
         have := HDD.out
         omega
        rw [e1, e2, h1, ← HAE.out, e3, Nat.mul_comm A, Nat.add_comm]
      case measure => simp [intOf]; omega
   ·have hEi : ((0 : Int) < (D : Int) - 6 * (k : Int)) = False := eq_false (by omega)
    have HT2 := hide (fun W (h : OwnL (w.heap.size + 2) W (.slice va k vc) L) => zy va vc L W.heap.size W (by rw [rl]; exact h.at_) (by omega) (by omega))
    rw [rl] at HT2
    have HT3 := hide (HT2.out wr ro)
    have q1 := ya r1 1
    have q0 := ya r1 0
    have qf := yf r1 1
    have ql := yd r1
    have z0 := ya r0 0
    have z1 := ya r0 1
    have zf := yf r0 0
    have zg := yf r0 1
    have zl := yd r0
    have R0 := hide r0; have R1 := hide r1; have RB := hide rb; have RO := hide ro; have RL := hide rl; have RT := hide rt; have RV := hide rv
    have hk60 : k ≤ 60 := by omega
    clear r0 r1 rb ro rl rt rv hin HT2
    go_wp2_with fail
    refine HT3.out.mono ?_
    rintro e w1 ⟨rfl, rfl⟩
    go_wp2_with fail
    obtain ⟨Wa, hWa⟩ := xe (wr.setCell ⟨w.heap.size + 1, 1, none⟩ (.slice va (trimTo L k) vc))
    rw [← hWa]
    have A0 : Wa.heap[w.heap.size]? = some (.cells #[.bool false, .slice none 0 0] 222 (0, 0)) := by rw [hWa]; exact (ye (by omega)).trans R0.out
    have AB : Below w.heap.size w Wa := by rw [hWa]; exact RB.out.setCell (p := ⟨w.heap.size + 1, 1, none⟩) (by simp) _
    have AO : OwnL (w.heap.size + 2) Wa (.slice va k vc) L := by rw [hWa]; exact RO.out.other (p := ⟨w.heap.size + 1, 1, none⟩) (by simp) _
    obtain ⟨s1, s2⟩ := set2 A0 (.bool true) (.slice va (trimTo L k) vc)
    refine vn s1 rfl rfl ?_
    refine ⟨true, _, trimL L, rfl, AB.trans s2, ?_, yB RT.out, ?_, ?_⟩
    ·have h1 := (((AO.other (p := ⟨w.heap.size, 0, none⟩) (by simp) (.bool true)).other (p := ⟨w.heap.size, 1, none⟩) (by simp) (.slice va (trimTo L k) vc)).cut (k := trimTo L k) (by have := yj L k; rw [RL.out]; exact this)).mono (show w.heap.size ≤ w.heap.size + 2 by omega)
     unfold trimL
     rw [RL.out]
     exact h1
    ·rw [yR, RV.out, show D - 6 * k = 0 by omega, List.drop_zero, HV.out]
    ·rw [yJ]
     have := yj L L.length
     have := RL.out
     omega
end Go.Proofs.YtklgpilgalfckaaGreatDoor
