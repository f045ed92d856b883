/-
  Texts laid together.
-/
import Derived.Test.YtpmnhipffkhcpaaGreatDoorMB1
import Derived.Test.YtpmnhipffkhcpaaGreatDoorMB2
import Derived.Test.YtpmnhipffkhcpaaGreatDoorMB3
import Derived.Test.YtpmnhipffkhcpaaGreatDoorMB4
import Derived.Test.YtpmnhipffkhcpaaGreatDoorMB5
import Derived.Test.YtpmnhipffkhcpaaGreatDoorMB6
import Derived.Test.YtpmnhipffkhcpaaGreatDoorMB7
import Derived.Test.YtpmnhipffkhcpaaGreatDoorMB8
import Derived.Test.YtpmnhipffkhcpaaGreatDoorMB9
import Derived.Test.YtpmnhipffkhcpaaGreatDoorMB10
import Derived.Test.YtpmnhipffkhcpaaGreatDoorMB11
import Derived.Test.YtpmnhipffkhcpaaGreatDoorMB12
import Derived.Test.YtpmnhipffkhcpaaGreatDoorMB13
import Derived.Test.YtpmnhipffkhcpaaGreatDoorMB14
import Derived.Test.YtpmnhipffkhcpaaGreatDoorMB15
import Derived.Test.YtpmnhipffkhcpaaGreatDoorMB16
import Derived.Test.YtpmnhipffkhcpaaGreatDoorMB17
import Derived.Test.YtpmnhipffkhcpaaGreatDoorMB18
set_option maxRecDepth 100000
set_option maxHeartbeats 64000000
namespace Go.KI
open Go

def farF (a : Rat) (f : Rat × Rat) : Rat := if a < f.1 then momF a f else 0
def fromB (a f : Rat) : Rat := if a < f then f else a
def farS (a : Rat) (s : Rat × Rat × Rat) : Rat := if a < s.2.1 then momS a (fromB a s.1, s.2.1, s.2.2) else 0
theorem far_force (a : Rat) (f : Rat × Rat) : farF a f = momF a f + forceT (backAt a) a f := by
  unfold farF forceT momF backAt
  by_cases h : a < f.1
  · rw [if_pos h, if_neg (Rat.not_le.2 h)]
    grind
  · rw [if_neg h, if_pos (Rat.not_lt.1 h)]
    grind
theorem far_spread {a : Rat} {s : Rat × Rat × Rat} (hs : s.1 < s.2.1) : farS a s = momS a s + spreadT (backAt a) a s := by
  obtain ⟨f, t, z⟩ := s
  change f < t at hs
  unfold farS spreadT momS backAt fromB cutTo
  show (if a < t then z * (t - (if a < f then f else a)) * (((if a < f then f else a) + t) * (1 / 2) - a) else 0) = z * (t - f) * ((f + t) * (1 / 2) - a) + (if f < (if a < t then a else t) then z * ((if a < t then a else t) - f) * (a - (f + (if a < t then a else t)) / 2) else 0)
  rw [half_eq]
  by_cases h : a < t
  · rw [if_pos h, if_pos h]
    by_cases g : f < a
    · rw [if_pos g, if_neg (Rat.not_lt.2 (Rat.le_of_lt g))]
      grind
    · rw [if_neg g]
      by_cases k : a < f
      · rw [if_pos k]
        grind
      · rw [if_neg k]
        have : a = f := Rat.le_antisymm (Rat.not_lt.1 g) (Rat.not_lt.1 k)
        subst this
        grind
  · rw [if_neg h, if_neg h, if_pos hs]
    grind
theorem bothSidesB {b : Bm} (h : BmOK b) (a : Rat) : momentB b a = (if a < b.lft then leftB b * (b.lft - a) else 0) + (if a < b.rgt then rightB b * (b.rgt - a) else 0) - sumL (farF a) b.F - sumL (farS a) b.S := by
  have e1 : sumL (farF a) b.F = sumL (momF a) b.F + sumL (forceT (backAt a) a) b.F := by
    rw [← sumL_add]
    exact sumL_congr fun f _ => far_force a f
  have e2 : sumL (farS a) b.S = sumL (momS a) b.S + sumL (spreadT (backAt a) a) b.S := by
    rw [← sumL_add]
    exact sumL_congr fun s hs => far_spread (h.S s hs).2.1
  have hb := balanceB h a
  rw [e1, e2]
  unfold momentB foldB
  have k1 : (if b.lft < a then leftB b * (a - b.lft) else 0) = (if a < b.lft then leftB b * (b.lft - a) else 0) - leftB b * (b.lft - a) := by
    by_cases h1 : b.lft < a
    · rw [if_pos h1, if_neg (Rat.not_lt.2 (Rat.le_of_lt h1))]
      grind
    · rw [if_neg h1]
      by_cases h2 : a < b.lft
      · rw [if_pos h2]
        grind
      · rw [if_neg h2]
        have : a = b.lft := Rat.le_antisymm (Rat.not_lt.1 h1) (Rat.not_lt.1 h2)
        rw [this]
        grind
  have k2 : (if b.rgt < a then rightB b * (a - b.rgt) else 0) = (if a < b.rgt then rightB b * (b.rgt - a) else 0) - rightB b * (b.rgt - a) := by
    by_cases h1 : b.rgt < a
    · rw [if_pos h1, if_neg (Rat.not_lt.2 (Rat.le_of_lt h1))]
      grind
    · rw [if_neg h1]
      by_cases h2 : a < b.rgt
      · rw [if_pos h2]
        grind
      · rw [if_neg h2]
        have : a = b.rgt := Rat.le_antisymm (Rat.not_lt.1 h1) (Rat.not_lt.1 h2)
        rw [this]
        grind
  rw [k1, k2]
  grind
end Go.KI
namespace Go.Proofs.YtpmnhipffkhcpaaGreatDoor
open Go.RowKit Go.KP Go.KI Go.Shelf
attribute [local go_sem] Oper.semAt_some

theorem cmp_neg1 (x y : Rat) : (cmpR x y < 0) = (x < y) := by
  rcases cmpT_cases x y with ⟨h1, h2⟩ | ⟨h1, h2⟩ | ⟨h1, h2⟩ <;> rw [h2]
  · exact propext ⟨fun _ => h1, fun _ => by omega⟩
  · rw [h1]
    exact propext ⟨fun h => by omega, fun h => absurd h Rat.lt_irrefl⟩
  · exact propext ⟨fun h => by omega, fun h => absurd h (Rat.not_lt.2 (Rat.le_of_lt h1))⟩
theorem beyond_T {a x : Rat} {p q : Nat} (sA : sz p a) (sX : sz q x) (h : p + q ≤ 300) (ba : Nat) (B : Nat) (w : World) (hb : w.heap[ba]? = some (boxO a)) (hB : B ≤ w.heap.size) (hT : PQ B w) :
    Calls Tryz.prog 22 #[.string (T x), .pointer (some ⟨ba, 0, none⟩)] w (Ret w (.bool (decide (a < x)))) := by
  have HT := hide hT
  have H1 := hide (fun w hB hT => qcmp_T (sz_fits sA (by rw [most_eq]; omega)) (sz_fits sX (by rw [most_eq]; omega)) (cmpC_of sA sX (by rw [most_eq]; omega)) B w hB hT)
  rw [show decide (a < x) = decide (cmpR a x < 0) from decide_eq_decide.2 (Iff.of_eq (cmp_neg1 a x).symm)]
  delta boxO at hb
  generalize cmpR a x = C at *
  generalize T a = TA at *
  generalize T x = TX at *
  have k0 := cell_blk hb 0
  have l0 := lt_blk hb
  clear sA sX h hT hb
  go_enter Tryz.func22, Tryz.ntmps22
  go_wp2_with fail
  refine (H1.out _ hB HT.out).mono ?_
  rintro e w1 ⟨rfl, hb1⟩
  have HB1 := hide hb1
  clear hb1
  go_wp2_with fail
  go_ret
  exact ⟨rfl, HB1.out⟩
end Go.Proofs.YtpmnhipffkhcpaaGreatDoor
namespace Go.KI
open Go
def sideX (b : Bm) (a : Rat) (h i j : Nat) : Rat := (0 : Rat) + sumL (farF a) ((supL b).take h) - sumL (farF a) (b.F.take i) - sumL (farS a) (b.S.take j)
theorem sideX_end {b : Bm} (h : BmS b) (a : Rat) : sideX b a 2 b.F.length b.S.length = momentB b a := by
  have := bothSidesB h.toBmOK a
  unfold sideX
  rw [List.take_of_length_le (Nat.le_refl _), List.take_of_length_le (Nat.le_refl _), show (supL b).take 2 = supL b from rfl, this, Rat.zero_add]
  unfold supL farF momF
  simp only [sumL]
  grind
theorem farF_gr {K : Nat} (hK : K ≤ 2 * gq) {f : Rat × Rat} {a : Rat} (h1 : Gr gp gq f.1) (h2 : Gr gp gq f.2) (ha : Gr gp gq a) : Gr (zD K) zB (farF a f) := by
  unfold farF
  split
  · exact momF_gr hK h1 h2 ha
  · exact gr_zero _ _
theorem from_gr {a f : Rat} (ha : Gr gp gq a) (hf : Gr gp gq f) : Gr gp gq (fromB a f) := by
  unfold fromB
  split
  · exact hf
  · exact ha
theorem farS_gr {K : Nat} (hK : K ≤ 2 * gq) {f : Rat × Rat × Rat} {a : Rat} (h1 : Gr gp gq f.1) (h2 : Gr gp gq f.2.1) (h3 : Gr gp gq f.2.2) (ha : Gr gp gq a) : Gr (zD K) zB (farS a f) := by
  unfold farS
  split
  · exact momS_gr hK (from_gr ha h1) h2 h3 ha
  · exact gr_zero _ _
end Go.KI
namespace Go.Proofs.YtpmnhipffkhcpaaGreatDoor
open Go.RowKit Go.KP Go.KI Go.Shelf
attribute [local go_sem] Oper.semAt_some

theorem sideX_U {b : Bm} {a : Rat} {h : Nat} (hh : h < (supL b).length) : sideX b a h 0 0 + farF a (fAt (supL b) h) = sideX b a (h + 1) 0 0 := by
  unfold sideX
  rw [fsum_step _ hh]
  show _ - (0 : Rat) - (0 : Rat) + _ = _ - (0 : Rat) - (0 : Rat)
  grind
theorem sideX_F {b : Bm} {a : Rat} {h i : Nat} (hi : i < b.F.length) : sideX b a h i 0 - farF a (fAt b.F i) = sideX b a h (i + 1) 0 := by
  unfold sideX
  rw [fsum_step _ hi]
  show _ - (0 : Rat) - _ = _ - (0 : Rat)
  grind
theorem sideX_S {b : Bm} {a : Rat} {h n j : Nat} (hj : j < b.S.length) : sideX b a h n j - farS a (sAt b.S j) = sideX b a h n (j + 1) := by
  unfold sideX
  rw [ssum_step _ hj]
  grind
theorem sideX_start (b : Bm) (a : Rat) : sideX b a 0 0 0 = 0 := by
  unfold sideX
  show (0 : Rat) + 0 - 0 - 0 = 0
  decide +kernel
theorem beyond_enters : ∀ args w, (callFunc 22 args).run Tryz.prog w = .ok (.enter 22 args) w := enters_of Tryz.func22 (by kernel_rfl) rfl
theorem supF_cells {w : World} {g : Nat} {b : Bm} (h : w.heap[g]? = some (.cells #[.string (T b.lft), .string (T (leftB b)), .string (T b.rgt), .string (T (rightB b))] 39 (0, 0))) {k : Nat} (hk : k < 2) :
    w.cell? ⟨g, k * 2, none⟩ = some (.string (T (fAt (supL b) k).1)) ∧ w.cell? ⟨g, k * 2 + 1, none⟩ = some (.string (T (fAt (supL b) k).2)) := by
  have : k = 0 ∨ k = 1 := by omega
  rcases this with rfl | rfl
  · exact ⟨cell_blk h 0, cell_blk h 1⟩
  · exact ⟨cell_blk h 2, cell_blk h 3⟩
theorem topBothSides_any (L l r : ByteArray) (F : List Fr) (S : List Sp) (fa : Option Addr) (fc : Nat) (sa : Option Addr) (sc : Nat) (m : Nat) (hm : m ≤ 255) (B : Nat) (w : World) (hB : B ≤ w.heap.size) (hT : PQ B w) (hF : FrRow w.heap.size w fa F) (hS : SpRow w.heap.size w sa S) :
    Calls Tryz.prog 4 #[beamV L l r fa F.length fc sa S.length sc, .int .u8 (m : Int)] w (Ret w (.bool true)) := by
  have HT := hide (hT.mono hB)
  clear hT hB B
  have HRF := hide hF
  have HRS := hide hS
  have X0 := hide (heap1 w (beamO L l r fa F.length fc sa S.length sc))
  have HSU := hide (fun w2 (h : Below w.heap.size w w2) => t52Sure_any L l r F S fa fc sa sc w.heap.size w2 h.size (HT.out.on h (Nat.le_refl _)) (hF.cells fun k o hk => h.cell (p := ⟨k, o, none⟩) hk) (hS.cells fun k o hk => h.cell (p := ⟨k, o, none⟩) hk))
  have HAW := hide (fun w2 (h : Below w.heap.size w w2) => t52awake_any w.heap.size w2 h.size (HT.out.on h (Nat.le_refl _)))
  obtain ⟨n1, hn1⟩ : ∃ n, n = F.length := ⟨_, rfl⟩
  obtain ⟨n2, hn2⟩ : ∃ n, n = S.length := ⟨_, rfl⟩
  rw [← hn1, ← hn2] at X0 HSU ⊢
  have HN1 := hide hn1
  have HN2 := hide hn2
  clear hF hS hn1 hn2
  go_enter Tryz.func4, Tryz.ntmps4
  go_wp2_with fail
  refine (HSU.out _ X0.out.2.2).mono ?_
  rintro e w1 ⟨ok, rfl, hb1, hok⟩
  have G1 := hide (below_blk hb1 X0.out.1 (lt_blk X0.out.1))
  have HB1 := hide (X0.out.2.2.trans (hb1.mono X0.out.2.2.size))
  have HOK := hide hok
  clear hb1 hok X0
  cases ok with
  | false =>
    go_wp2_with fail
    refine (HAW.out _ HB1.out).mono ?_
    rintro e w2 ⟨rfl, hb2⟩
    have HB2 := hide (HB1.out.trans (hb2.mono HB1.out.size))
    clear hb2
    go_wp2_with fail
    go_ret
    exact ⟨rfl, HB2.out⟩
  | true =>
    obtain ⟨b, rfl, rfl, rfl, hFF, hSS, hs⟩ := HOK.out rfl
    subst hFF
    subst hSS
    rw [TF_len] at HN1
    rw [TS_len] at HN2
    have HBM := hide (show BeamAt w.heap.size w fa sa b from ⟨HRF.out, HRS.out⟩)
    obtain ⟨k, hk⟩ : ∃ k, k = m % 25 := ⟨_, rfl⟩
    obtain ⟨a0, a1, ga⟩ := atB_in hs (k := k) (by omega)
    have HAT := hide (fun w2 (h : Below w.heap.size w w2) => t52At_T hs m hm fa fc sa sc w.heap.size w2 h.size (HT.out.on h (Nat.le_refl _)))
    rw [← hk] at HAT
    obtain ⟨a, ha⟩ : ∃ a, a = atB b k := ⟨_, rfl⟩
    rw [← ha] at HAT a0 a1 ga
    have HRE := hide (fun w2 (h : Below w.heap.size w w2) => bReactions_T hs fa fc sa sc w.heap.size w2 h.size (HT.out.on h (Nat.le_refl _)) (HBM.out.below h (Nat.le_refl _)))
    have HMO := hide (fun w2 (h : Below w.heap.size w w2) => bMoment_T hs ga a0 a1 fa fc sa sc w.heap.size w2 h.size (HT.out.on h (Nat.le_refl _)) (HBM.out.below h (Nat.le_refl _)))
    obtain ⟨K, k1, k2, g1, g2, _⟩ := moment_gr hs ga
    have HK1 := hide k1
    have HK2 := hide k2
    rw [← HN1.out, ← HN2.out] at HAT HRE HMO
    have hsup : ∀ f ∈ supL b, Gr gp gq f.1 ∧ sz 100 f.2 ∧ Gr (zD K) zB (farF a f) := fun f hf => by
      unfold supL at hf
      simp only [List.mem_cons, List.not_mem_nil, or_false] at hf
      unfold farF momF
      rcases hf with rfl | rfl
      · refine ⟨small_gr hs.sf, left_sz hs, ?_⟩
        split
        · exact react_arm g1 (small_gr hs.sf) ga
        · exact gr_zero _ _
      · refine ⟨small_gr hs.sr, right_sz hs, ?_⟩
        split
        · exact react_arm g2 (small_gr hs.sr) ga
        · exact gr_zero _ _
    have sA := place_sz ga
    have mean_sz : ∀ x y, Gr gp gq x → Gr gp gq y → sz 60 ((x + y) * (1 / 2)) := fun x y hx hy => gr_sz (by decide) (mean_gr hx hy) (by decide) (by decide)
    have CG := hide (fun x y p q (sx : sz p x) (sy : sz q y) (hpq : p + q + 1 ≤ 300) s w2 bs hb (h : Below w.heap.size w w2) => t52gap_T (s := s) sx sy hpq bs w.heap.size w2 hb h.size (HT.out.on h (Nat.le_refl _)))
    have CM := hide (fun x y p q (sx : sz p x) (sy : sz q y) (hpq : p + q + 3 ≤ 300) s w2 bs hb (h : Below w.heap.size w w2) => t52mean_T (s := s) sx sy hpq bs w.heap.size w2 hb h.size (HT.out.on h (Nat.le_refl _)))
    have CB := hide (fun x (sx : sz 20 x) w2 ba hb (h : Below w.heap.size w w2) => beyond_T sA sx (by omega) ba w.heap.size w2 hb h.size (HT.out.on h (Nat.le_refl _)))
    have AU := hide (fun f (hf : f ∈ supL b) (hlt : a < f.1) x n (hx : Gr (zD K) (n * zB) x) (hn : n ≤ 1000) w2 bs r hb hr (h : Below w.heap.size w w2) => t52add2 (s := x) (hsup f hf).2.1 (sz_sub (place_sz (hsup f hf).1) sA) (by omega) (run_sz k1 k2 hn hx) (run_sz (n := 1) k1 k2 (by omega) (by have := (hsup f hf).2.2; unfold farF momF at this; rw [if_pos hlt] at this; rw [Nat.one_mul]; exact this)) bs r w.heap.size w2 hb hr h.size (HT.out.on h (Nat.le_refl _)))
    have AF := hide (fun f (hf : f ∈ b.F) x n (hx : Gr (zD K) (n * zB) x) (hn : n ≤ 1000) w2 bs r hb hr (h : Below w.heap.size w w2) => t52sub2 (s := x) (place_sz (small_gr (hs.sF f hf).2)) (sz_sub (place_sz (small_gr (hs.sF f hf).1)) sA) (by omega) (run_sz k1 k2 hn hx) (run_sz (n := 1) k1 k2 (by omega) (by rw [Nat.one_mul]; exact momF_gr k2 (small_gr (hs.sF f hf).1) (small_gr (hs.sF f hf).2) ga)) bs r w.heap.size w2 hb hr h.size (HT.out.on h (Nat.le_refl _)))
    have AS := hide (fun f (hf : f ∈ b.S) d (gd : Gr gp gq d) x n (hx : Gr (zD K) (n * zB) x) (hn : n ≤ 1000) w2 bs r hb hr (h : Below w.heap.size w w2) => t52sub3 (s := x) (place_sz (small_gr (hs.sS f hf).2.2)) (sz_sub (place_sz (small_gr (hs.sS f hf).2.1)) (place_sz gd)) (sz_sub (mean_sz d f.2.1 gd (small_gr (hs.sS f hf).2.1)) sA) (by omega) (run_sz k1 k2 hn hx) (run_sz (n := 1) k1 k2 (by omega) (by rw [Nat.one_mul]; exact momS_gr k2 gd (small_gr (hs.sS f hf).2.1) (small_gr (hs.sS f hf).2.2) ga)) bs r w.heap.size w2 hb hr h.size (HT.out.on h (Nat.le_refl _)))
    have GU := hide hsup
    have GF := hide (fun f (hf : f ∈ b.F) => And.intro (small_gr (hs.sF f hf).1) (farF_gr k2 (small_gr (hs.sF f hf).1) (small_gr (hs.sF f hf).2) ga))
    have GS := hide (fun f (hf : f ∈ b.S) => And.intro (small_gr (hs.sS f hf).1) (And.intro (small_gr (hs.sS f hf).2.1) (farS_gr k2 (small_gr (hs.sS f hf).1) (small_gr (hs.sS f hf).2.1) (small_gr (hs.sS f hf).2.2) ga)))
    have HGA := hide ga
    have HMS := hide mean_sz
    have HSA := hide sA
    have HEN := hide (sideX_end hs a)
    have HFW := hide hs.few
    have m1 : n1 ≤ 64 := by rw [HN1.out]; exact hs.fF
    have m2 : n2 ≤ 64 := by rw [HN2.out]; exact hs.fS
    rw [← HN1.out, ← HN2.out] at HFW HEN
    clear hs ga a0 a1 ha hk sA g1 g2 mean_sz k1 k2 HOK HRF HRS hm hsup
    have h00 := T0
    obtain ⟨TA, hTA⟩ : ∃ x, x = T a := ⟨_, rfl⟩
    have HTA := hide hTA
    obtain ⟨TL, hTL⟩ : ∃ x, x = T b.len := ⟨_, rfl⟩
    obtain ⟨Tl, hTl⟩ : ∃ x, x = T b.lft := ⟨_, rfl⟩
    obtain ⟨Tr, hTr⟩ : ∃ x, x = T b.rgt := ⟨_, rfl⟩
    obtain ⟨Ta, hTa⟩ : ∃ x, x = T (leftB b) := ⟨_, rfl⟩
    obtain ⟨Tb, hTb⟩ : ∃ x, x = T (rightB b) := ⟨_, rfl⟩
    obtain ⟨TM, hTM⟩ : ∃ x, x = T (momentB b a) := ⟨_, rfl⟩
    have HSL := hide (And.intro hTl (And.intro hTr (And.intro hTa hTb)))
    have HTM := hide hTM
    rw [← hTL, ← hTl, ← hTr] at HAT G1
    rw [← hTL, ← hTl, ← hTr] at HRE
    rw [← hTL, ← hTl, ← hTr] at HMO
    rw [← hTA] at HAT HMO
    rw [← hTM] at HMO
    rw [← hTa, ← hTb] at HRE
    clear hTA hTL hTl hTr hTa hTb hTM
    have q0 := cell_blk G1.out 0
    have q1 := cell_blk G1.out 1
    have q2 := cell_blk G1.out 2
    have q3 := cell_blk G1.out 3
    have q4 := cell_blk G1.out 4
    have ql := lt_blk G1.out
    go_wp2_with fail
    refine (HAT.out _ HB1.out).mono ?_
    rintro e w2 ⟨rfl, hb2⟩
    have G2 := hide (below_blk hb2 G1.out ql)
    have HB2 := hide (HB1.out.trans (hb2.mono HB1.out.size))
    have X2 := hide (heap1 w2 (.cells #[.string TA] 22))
    have G2b := hide (below_blk X2.out.2.2 G2.out (lt_blk G2.out))
    have HB2b := hide (HB2.out.trans (X2.out.2.2.mono HB2.out.size))
    have EA := hide X2.out.1
    have hbaw : w.heap.size < w2.heap.size := lt_blk G2.out
    clear hb2 q0 q1 q2 q3 q4 ql X2 HAT HB2 G2
    have q0 := cell_blk G2b.out 0
    have q1 := cell_blk G2b.out 1
    have q2 := cell_blk G2b.out 2
    have q3 := cell_blk G2b.out 3
    have q4 := cell_blk G2b.out 4
    have ql := lt_blk G2b.out
    go_wp2_with fail
    generalize w2.alloc (.cells #[.string TA] 22) = W2 at *
    generalize w2.heap.size = ba at *
    refine (HRE.out _ HB2b.out).mono ?_
    rintro e w3 ⟨rfl, hb3⟩
    have G3 := hide (below_blk hb3 G2b.out ql)
    have EA3 := hide (below_blk hb3 EA.out (lt_blk EA.out))
    have HB3 := hide (HB2b.out.trans (hb3.mono HB2b.out.size))
    clear hb3 q0 q1 q2 q3 q4 ql HRE G2b EA HB2b
    have q0 := cell_blk G3.out 0
    have q1 := cell_blk G3.out 1
    have q2 := cell_blk G3.out 2
    have q3 := cell_blk G3.out 3
    have q4 := cell_blk G3.out 4
    have ql := lt_blk G3.out
    have p0 := cell_blk EA3.out 0
    have pl := lt_blk EA3.out
    go_wp2_with fail
    refine (HMO.out _ HB3.out).mono ?_
    rintro e w4 ⟨rfl, hb4⟩
    have G4 := hide (below_blk hb4 G3.out ql)
    have EA4 := hide (below_blk hb4 EA3.out (lt_blk EA3.out))
    have HB4 := hide (HB3.out.trans (hb4.mono HB3.out.size))
    clear hb4 q0 q1 q2 q3 q4 ql p0 pl HMO G3 EA3 HB3
    have X5 := hide (heap2 w4 (.cells #[.string ⟨#[48]⟩, .int .i64 0] 35) (.cells #[.string Tl, .string Ta, .string Tr, .string Tb] 39))
    obtain ⟨W3, hW3⟩ : ∃ W, W = (w4.alloc (.cells #[.string ⟨#[48]⟩, .int .i64 0] 35)).alloc (.cells #[.string Tl, .string Ta, .string Tr, .string Tb] 39) := ⟨_, rfl⟩
    rw [← hW3] at X5
    obtain ⟨bs, hbs⟩ : ∃ n, n = w4.heap.size := ⟨_, rfl⟩
    have hbw : w.heap.size < bs := by
      have := lt_blk G4.out
      omega
    have hbab : ba < bs := by
      have := lt_blk EA4.out
      omega
    have HB5 := hide (HB4.out.trans (X5.out.2.2.2.mono HB4.out.size))
    have G5 := hide (below_blk X5.out.2.2.2 G4.out (lt_blk G4.out))
    have EA5 := hide (below_blk X5.out.2.2.2 EA4.out (lt_blk EA4.out))
    have E5 := hide (show W3.heap[bs]? = some (sumO 0) by rw [hbs]; show _ = some (Obj.cells #[.string (T 0), .int .i64 0] _); rw [h00]; exact X5.out.1)
    have ES5 := hide (show W3.heap[bs + 1]? = some (.cells #[.string (T b.lft), .string (T (leftB b)), .string (T b.rgt), .string (T (rightB b))] 39 (0, 0)) by
      rw [hbs, ← HSL.out.1, ← HSL.out.2.1, ← HSL.out.2.2.1, ← HSL.out.2.2.2]
      exact X5.out.2.1)
    have q1 := cell_blk G4.out 1
    have q2 := cell_blk G4.out 2
    have ql := lt_blk G4.out
    clear X5 h00
    have q1b : (w4.alloc (.cells #[.string ⟨#[48]⟩, .int .i64 0] 35)).cell? ⟨w.heap.size, 1, none⟩ = some (.string Tl) := cell_blk (below_blk (heap1 w4 _).2.2 G4.out (lt_blk G4.out)) 1
    have q2b : (w4.alloc (.cells #[.string ⟨#[48]⟩, .int .i64 0] 35)).cell? ⟨w.heap.size, 2, none⟩ = some (.string Tr) := cell_blk (below_blk (heap1 w4 _).2.2 G4.out (lt_blk G4.out)) 2
    go_wp2_with fail
    rw [← hW3]
    clear hW3 q1b q2b
    rw [← hbs]
    clear hbs q1 q2 ql
    have R0 := hide (show RunAt bs W3 W3 K (0 + 0) (sideX b a 0 0 0) from ⟨Only.refl _ _, by rw [sideX_start]; exact E5.out, by rw [sideX_start]; exact gr_zero _ _⟩)
    have HBS := hide (show ∀ W K n x, RunAt bs W3 W K n x → Below w.heap.size w W from fun W K n x h => h.on HB5.out (Nat.le_of_lt hbw) HB5.out.size)
    have HGS := hide (show ∀ W K n x, RunAt bs W3 W K n x → W.heap[w.heap.size]? = some (beamO TL Tl Tr fa n1 fc sa n2 sc) from fun W K n x h => only_blk h.only G5.out (Nat.ne_of_lt hbw))
    have HEA := hide (show ∀ W K n x, RunAt bs W3 W K n x → W.heap[ba]? = some (.cells #[.string TA] 22) from fun W K n x h => only_blk h.only EA5.out (Nat.ne_of_lt hbab))
    have HES := hide (show ∀ W K n x, RunAt bs W3 W K n x → W.heap[bs + 1]? = some (.cells #[.string (T b.lft), .string (T (leftB b)), .string (T b.rgt), .string (T (rightB b))] 39 (0, 0)) from fun W K n x h => only_blk h.only ES5.out (by omega))
    have HEB := hide (show ∀ W K n x, RunAt bs W3 W K n x → W.heap[ba]? = some (boxO a) from fun W K n x h => by show _ = some (Obj.cells #[.string (T a)] _); rw [← HTA.out]; exact HEA.out W K n x h)
    clear HB5 G5 EA5 E5 ES5 HB4 G4 EA4
    have hen := @beyond_enters
    go_loopw [65] (fun t wr => ∃ h : Nat, h ≤ 2 ∧ t = .int .i64 h ∧ Hid (RunAt bs W3 wr K (0 + h) (sideX b a h 0 0))) (fun t _ => 2 - (intOf t).toNat)
    case atStart => exact ⟨0, Nat.zero_le _, rfl, R0.out⟩
    clear R0
    case round =>
      obtain ⟨h, hk, rfl, hin⟩ := hrel
      obtain ⟨wo, hwo⟩ : ∃ wo, wo = wr := ⟨_, rfl⟩
      subst hwo
      have HI := hide hin.out
      clear hin
      have HBw := hide (HBS.out _ _ _ _ HI.out)
      by_cases hlt : h < 2
      · have hki : (h : Int) < 2 := by omega
        have hk0 : (0 : Int) ≤ (h : Int) := by omega
        have hkl : h < (supL b).length := hlt
        obtain ⟨c1, c2⟩ := supF_cells (HES.out _ _ _ _ HI.out) hlt
        have hfm := fAt_mem hkl
        have HST := hide (sideX_U (a := a) hkl)
        have HGR := hide (GU.out _ hfm)
        obtain ⟨f, hf⟩ : ∃ f, f = fAt (supL b) h := ⟨_, rfl⟩
        rw [← hf] at c1 c2 hfm HST HGR
        have hkw : bs + 1 < wo.heap.size := lt_blk (HES.out _ _ _ _ HI.out)
        have XF := hide (heap1 wo (frcO (T f.1) (T f.2)))
        obtain ⟨W1, hW1⟩ : ∃ W, W = wo.alloc (frcO (T f.1) (T f.2)) := ⟨_, rfl⟩
        rw [← hW1] at XF
        have E1 := hide XF.out.1
        have HR1 := hide (HI.out.below XF.out.2.2)
        have HB1 := hide (HBS.out _ _ _ _ HR1.out)
        have HY := hide (CB.out f.1 (place_sz HGR.out.1) W1 ba (HEB.out _ _ _ _ HR1.out) HB1.out)
        obtain ⟨TP, hTP⟩ : ∃ x, x = T f.1 := ⟨_, rfl⟩
        obtain ⟨TQ, hTQ⟩ : ∃ x, x = T f.2 := ⟨_, rfl⟩
        rw [← hTP] at HY c1
        rw [← hTQ] at c2
        rw [← hTP, ← hTQ] at E1 hW1
        have HTP := hide hTP
        have HTQ := hide hTQ
        have cc := cell_blk E1.out 0
        have cl := lt_blk E1.out
        clear hTP hTQ hf hlt hkl XF
        by_cases hfar : a < f.1
        · have HC := hide (CG.out f.1 a _ _ (place_sz HGR.out.1) HSA.out (by omega))
          have HA := hide (AU.out f hfm hfar _ _ HI.out.gr (by omega))
          have HTE := hide (show farF a f = f.2 * (f.1 - a) from if_pos hfar)
          rw [decide_eq_true hfar] at HY
          rw [← HTP.out, ← HTA.out] at HC
          obtain ⟨TD, hTD⟩ : ∃ x, x = T (f.1 - a) := ⟨_, rfl⟩
          rw [← hTD] at HC
          rw [← HTQ.out, ← hTD] at HA
          clear hTD hfar hfm
          go_wp2_with fail
          rw [← hW1]
          clear hW1
          refine HY.out.mono ?_
          rintro e w5 ⟨rfl, hb5⟩
          have HR5 := hide (HR1.out.below hb5)
          have HB5 := hide (HBS.out _ _ _ _ HR5.out)
          have E5 := hide (below_blk hb5 E1.out cl)
          have EA5 := hide (HEA.out _ _ _ _ HR5.out)
          obtain ⟨W5, hW5⟩ : ∃ W, W = w5 := ⟨_, rfl⟩
          subst hW5
          clear hb5 cc cl c1 c2 hkw HY
          have cc := fun o => cell_blk E5.out o
          have ca := fun o => cell_blk EA5.out o
          have cl := lt_blk E5.out
          have cla := lt_blk EA5.out
          have HN := hide (fun (o : Of (Below W5.heap.size W5)) => cls_own o (HC.out _ o.w bs (below_blk o.h HR5.out.box (lt_blk HR5.out.box)) (HB5.out.trans (o.h.mono HB5.out.size))))
          go_wp2_with fail
          have hx0 : ∀ x : Of (Below W5.heap.size W5), ∀ o, x.w.cell? ⟨wo.heap.size, o, none⟩ = W5.cell? ⟨wo.heap.size, o, none⟩ := fun x o => x.h.cell (p := ⟨wo.heap.size, o, none⟩) cl
          have hx1 : ∀ x : Of (Below W5.heap.size W5), ∀ o, x.w.cell? ⟨ba, o, none⟩ = W5.cell? ⟨ba, o, none⟩ := fun x o => x.h.cell (p := ⟨ba, o, none⟩) cla
          have kn : Nonempty (Of (Below W5.heap.size W5)) := ⟨⟨_, Below.refl _ _⟩⟩
          refine region_prefix (C := Cls (Below W5.heap.size W5)) 6 (by kernel_rfl) (by decide) (by kernel_rfl) (by kernel_rfl) (by kernel_rfl) (by kernel_rfl) (Cls.mk (Below.refl _ _).drew) ?_
          simp only [List.take_succ_cons, List.take_zero, List.drop_succ_cons, List.drop_zero]
          repeat (go_big_quiet_step (first | rfl | with_reducible exact HN.out _))
          refine wpQuiet_nil ?_
          intro w6 hcl
          have hb6 := hcl.out
          have X6 := hide (heap1 w6 (.cells #[.string TQ, .string TD] 22))
          have HR6 := hide (HR5.out.below (hb6.trans (X6.out.2.2.mono hb6.size)))
          have HB6 := hide (HBS.out _ _ _ _ HR6.out)
          clear hcl hb6 hx0 hx1 kn cc ca cl cla E5 EA5 HN
          go_wp2_with fail
          refine (HA.out _ bs _ HR6.out.box X6.out.1 HB6.out).mono ?_
          rintro e w7 ⟨⟨v7, rfl⟩, ho7, hb7⟩
          have HR7 := hide (HR6.out.step ho7 hb7 (gr_snoc HI.out.gr (by have := HGR.out.2.2; rw [HTE.out] at this; exact this)))
          clear ho7 hb7 X6
          go_wp2_with fail
          go_roundw
          case rel =>
            refine ⟨h + 1, by omega, by simp, ?_⟩
            have := HR7.out
            rw [← HTE.out, HST.out] at this
            exact this
          case measure => simp [intOf]; omega
        · have HTE := hide (show farF a f = 0 from if_neg hfar)
          rw [decide_eq_false hfar] at HY
          clear hfar hfm
          go_wp2_with fail
          rw [← hW1]
          clear hW1
          refine HY.out.mono ?_
          rintro e w5 ⟨rfl, hb5⟩
          have HR5 := hide (HR1.out.below hb5)
          clear hb5 cc cl c1 c2 hkw HY
          go_wp2_with fail
          go_roundw
          case rel =>
            refine ⟨h + 1, by omega, by simp, ?_⟩
            have := HST.out
            rw [HTE.out] at this
            rw [← this, Rat.add_zero]
            exact ⟨HR5.out.only, HR5.out.box, gr_mono HR5.out.gr (Nat.mul_le_mul_right _ (by omega))⟩
          case measure => simp [intOf]; omega
      · have hh : h = 2 := by omega
        have hki : ((h : Int) < 2) = False := eq_false (by omega)
        have HI2 := hide (show RunAt bs W3 wo K (2 + 0) (sideX b a 2 0 0) from by
          have := HI.out
          rw [hh] at this
          exact this)
        have G8 := hide (HGS.out _ _ _ _ HI.out)
        have q3 := cell_blk G8.out 3
        have ql := lt_blk G8.out
        clear hlt AU GU hh HI
        go_wp2_with fail
        clear q3 ql G8
        go_loopw [85] (fun t wr => ∃ i : Nat, i ≤ n1 ∧ t = .int .i64 i ∧ Hid (RunAt bs W3 wr K (2 + i) (sideX b a 2 i 0))) (fun t _ => n1 - (intOf t).toNat)
        case atStart => exact ⟨0, Nat.zero_le _, rfl, HI2.out⟩
        clear HI2 HBw
        case round =>
          obtain ⟨i, hk, rfl, hin⟩ := hrel
          obtain ⟨wo, hwo⟩ : ∃ wo, wo = wr := ⟨_, rfl⟩
          subst hwo
          have HI := hide hin.out
          clear hin
          have HBw := hide (HBS.out _ _ _ _ HI.out)
          by_cases hlt : i < n1
          · have hki : (i : Int) < (n1 : Int) := by omega
            have hk0 : (0 : Int) ≤ (i : Int) := by omega
            have hkl : i < (b.F).length := by rw [← HN1.out]; exact hlt
            obtain ⟨kb, ko, hfa, hkb, c1, c2⟩ := (HBM.out.below HBw.out (Nat.le_refl _)).force hkl
            subst hfa
            have hfm := fAt_mem hkl
            have HST := hide (sideX_F (a := a) (h := 2) hkl)
            have HGR := hide (GF.out _ hfm)
            obtain ⟨f, hf⟩ : ∃ f, f = fAt (b.F) i := ⟨_, rfl⟩
            rw [← hf] at c1 c2 hfm HST HGR
            have hkw : kb < wo.heap.size := by have := HBw.out.size; omega
            have XF := hide (heap1 wo (frcO (T f.1) (T f.2)))
            obtain ⟨W1, hW1⟩ : ∃ W, W = wo.alloc (frcO (T f.1) (T f.2)) := ⟨_, rfl⟩
            rw [← hW1] at XF
            have E1 := hide XF.out.1
            have HR1 := hide (HI.out.below XF.out.2.2)
            have HB1 := hide (HBS.out _ _ _ _ HR1.out)
            have HY := hide (CB.out f.1 (place_sz HGR.out.1) W1 ba (HEB.out _ _ _ _ HR1.out) HB1.out)
            obtain ⟨TP, hTP⟩ : ∃ x, x = T f.1 := ⟨_, rfl⟩
            obtain ⟨TQ, hTQ⟩ : ∃ x, x = T f.2 := ⟨_, rfl⟩
            rw [← hTP] at HY c1
            rw [← hTQ] at c2
            rw [← hTP, ← hTQ] at E1 hW1
            have HTP := hide hTP
            have HTQ := hide hTQ
            have cc := cell_blk E1.out 0
            have cl := lt_blk E1.out
            clear hTP hTQ hf hlt hkl XF
            by_cases hfar : a < f.1
            · have HC := hide (CG.out f.1 a _ _ (place_sz HGR.out.1) HSA.out (by omega))
              have HA := hide (AF.out f hfm _ _ HI.out.gr (by have := HFW.out; omega))
              have HTE := hide (show farF a f = f.2 * (f.1 - a) from if_pos hfar)
              rw [decide_eq_true hfar] at HY
              rw [← HTP.out, ← HTA.out] at HC
              obtain ⟨TD, hTD⟩ : ∃ x, x = T (f.1 - a) := ⟨_, rfl⟩
              rw [← hTD] at HC
              rw [← HTQ.out, ← hTD] at HA
              clear hTD hfar hfm
              go_wp2_with fail
              rw [← hW1]
              clear hW1
              refine HY.out.mono ?_
              rintro e w5 ⟨rfl, hb5⟩
              have HR5 := hide (HR1.out.below hb5)
              have HB5 := hide (HBS.out _ _ _ _ HR5.out)
              have E5 := hide (below_blk hb5 E1.out cl)
              have EA5 := hide (HEA.out _ _ _ _ HR5.out)
              obtain ⟨W5, hW5⟩ : ∃ W, W = w5 := ⟨_, rfl⟩
              subst hW5
              clear hb5 cc cl c1 c2 hkw HY
              have cc := fun o => cell_blk E5.out o
              have ca := fun o => cell_blk EA5.out o
              have cl := lt_blk E5.out
              have cla := lt_blk EA5.out
              have HN := hide (fun (o : Of (Below W5.heap.size W5)) => cls_own o (HC.out _ o.w bs (below_blk o.h HR5.out.box (lt_blk HR5.out.box)) (HB5.out.trans (o.h.mono HB5.out.size))))
              go_wp2_with fail
              have hx0 : ∀ x : Of (Below W5.heap.size W5), ∀ o, x.w.cell? ⟨wo.heap.size, o, none⟩ = W5.cell? ⟨wo.heap.size, o, none⟩ := fun x o => x.h.cell (p := ⟨wo.heap.size, o, none⟩) cl
              have hx1 : ∀ x : Of (Below W5.heap.size W5), ∀ o, x.w.cell? ⟨ba, o, none⟩ = W5.cell? ⟨ba, o, none⟩ := fun x o => x.h.cell (p := ⟨ba, o, none⟩) cla
              have kn : Nonempty (Of (Below W5.heap.size W5)) := ⟨⟨_, Below.refl _ _⟩⟩
              refine region_prefix (C := Cls (Below W5.heap.size W5)) 6 (by kernel_rfl) (by decide) (by kernel_rfl) (by kernel_rfl) (by kernel_rfl) (by kernel_rfl) (Cls.mk (Below.refl _ _).drew) ?_
              simp only [List.take_succ_cons, List.take_zero, List.drop_succ_cons, List.drop_zero]
              repeat (go_big_quiet_step (first | rfl | with_reducible exact HN.out _))
              refine wpQuiet_nil ?_
              intro w6 hcl
              have hb6 := hcl.out
              have X6 := hide (heap1 w6 (.cells #[.string TQ, .string TD] 22))
              have HR6 := hide (HR5.out.below (hb6.trans (X6.out.2.2.mono hb6.size)))
              have HB6 := hide (HBS.out _ _ _ _ HR6.out)
              clear hcl hb6 hx0 hx1 kn cc ca cl cla E5 EA5 HN
              go_wp2_with fail
              refine (HA.out _ bs _ HR6.out.box X6.out.1 HB6.out).mono ?_
              rintro e w7 ⟨⟨v7, rfl⟩, ho7, hb7⟩
              have HR7 := hide (HR6.out.step ho7 hb7 (gr_snoc_sub HI.out.gr (by have := HGR.out.2; rw [HTE.out] at this; exact this)))
              clear ho7 hb7 X6
              go_wp2_with fail
              go_roundw
              case rel =>
                refine ⟨i + 1, by omega, by simp, ?_⟩
                have := HR7.out
                rw [← HTE.out, HST.out] at this
                exact this
              case measure => simp [intOf]; omega
            · have HTE := hide (show farF a f = 0 from if_neg hfar)
              rw [decide_eq_false hfar] at HY
              clear hfar hfm
              go_wp2_with fail
              rw [← hW1]
              clear hW1
              refine HY.out.mono ?_
              rintro e w5 ⟨rfl, hb5⟩
              have HR5 := hide (HR1.out.below hb5)
              clear hb5 cc cl c1 c2 hkw HY
              go_wp2_with fail
              go_roundw
              case rel =>
                refine ⟨i + 1, by omega, by simp, ?_⟩
                have := HST.out
                rw [HTE.out] at this
                rw [← this, Rat.sub_eq_add_neg, Rat.neg_zero, Rat.add_zero]
                exact ⟨HR5.out.only, HR5.out.box, gr_mono HR5.out.gr (Nat.mul_le_mul_right _ (by omega))⟩
              case measure => simp [intOf]; omega
          · obtain rfl : i = n1 := by omega
            have hki : ((i : Int) < (i : Int)) = False := eq_false (by omega)
            have G8 := hide (HGS.out _ _ _ _ HI.out)
            have q4 := cell_blk G8.out 4
            have ql := lt_blk G8.out
            clear hlt AF GF
            go_wp2_with fail
            clear q4 ql G8
            go_loopw [105] (fun t wr => ∃ j : Nat, j ≤ n2 ∧ t = .int .i64 j ∧ Hid (RunAt bs W3 wr K (2 + i + j) (sideX b a 2 i j))) (fun t _ => n2 - (intOf t).toNat)
            case atStart => exact ⟨0, Nat.zero_le _, rfl, HI.out⟩
            clear HI HBw
            case round =>
              obtain ⟨j, hj, rfl, hin⟩ := hrel
              obtain ⟨wo, hwo⟩ : ∃ wo, wo = wr := ⟨_, rfl⟩
              subst hwo
              have HI := hide hin.out
              clear hin
              have HBw := hide (HBS.out _ _ _ _ HI.out)
              by_cases hlt : j < n2
              · have hki : (j : Int) < (n2 : Int) := by omega
                have hk0 : (0 : Int) ≤ (j : Int) := by omega
                have hkl : j < b.S.length := by rw [← HN2.out]; exact hlt
                obtain ⟨kb, ko, hfa, hkb, c1, c2, c3⟩ := (HBM.out.below HBw.out (Nat.le_refl _)).spread hkl
                subst hfa
                have hfm := sAt_mem hkl
                have HST := hide (sideX_S (a := a) (h := 2) (n := i) hkl)
                have HGR := hide (GS.out _ hfm)
                obtain ⟨f, hf⟩ : ∃ f, f = sAt b.S j := ⟨_, rfl⟩
                rw [← hf] at c1 c2 c3 hfm HST HGR
                have hkw : kb < wo.heap.size := by have := HBw.out.size; omega
                have XF := hide (heap1 wo (sprO (T f.1) (T f.2.1) (T f.2.2)))
                obtain ⟨W1, hW1⟩ : ∃ W, W = wo.alloc (sprO (T f.1) (T f.2.1) (T f.2.2)) := ⟨_, rfl⟩
                rw [← hW1] at XF
                have E1 := hide XF.out.1
                have HR1 := hide (HI.out.below XF.out.2.2)
                have HB1 := hide (HBS.out _ _ _ _ HR1.out)
                have HY := hide (CB.out f.2.1 (place_sz HGR.out.2.1) W1 ba (HEB.out _ _ _ _ HR1.out) HB1.out)
                have HY2 := hide (CB.out f.1 (place_sz HGR.out.1))
                obtain ⟨TP, hTP⟩ : ∃ x, x = T f.1 := ⟨_, rfl⟩
                obtain ⟨TE, hTE⟩ : ∃ x, x = T f.2.1 := ⟨_, rfl⟩
                obtain ⟨TQ, hTQ⟩ : ∃ x, x = T f.2.2 := ⟨_, rfl⟩
                rw [← hTE] at HY c2
                rw [← hTP] at HY2 c1
                rw [← hTQ] at c3
                rw [← hTP, ← hTE, ← hTQ] at E1 hW1
                have HTP := hide hTP
                have HTE := hide hTE
                have HTQ := hide hTQ
                have cc := cell_blk E1.out 1
                have cl := lt_blk E1.out
                clear hTP hTE hTQ hf hlt hkl XF
                by_cases hfar : a < f.2.1
                · have HTE2 := hide (show farS a f = momS a (fromB a f.1, f.2.1, f.2.2) from if_pos hfar)
                  rw [decide_eq_true hfar] at HY
                  clear hfar
                  go_wp2_with fail
                  rw [← hW1]
                  clear hW1
                  refine HY.out.mono ?_
                  rintro e w5 ⟨rfl, hb5⟩
                  have HR5 := hide (HR1.out.below hb5)
                  have HB5 := hide (HBS.out _ _ _ _ HR5.out)
                  have E5 := hide (below_blk hb5 E1.out cl)
                  clear hb5 cc cl c1 c2 c3 hkw HY
                  have cc := cell_blk E5.out 0
                  have cl := lt_blk E5.out
                  have HY3 := hide (HY2.out w5 ba (HEB.out _ _ _ _ HR5.out) HB5.out)
                  clear HY2
                  obtain ⟨d, hd⟩ : ∃ d, d = fromB a f.1 := ⟨_, rfl⟩
                  have gd : Gr gp gq d := by rw [hd]; exact from_gr HGA.out HGR.out.1
                  rw [← hd] at HTE2
                  have HC1 := hide (CG.out f.2.1 d _ _ (place_sz HGR.out.2.1) (place_sz gd) (by omega))
                  have HC2 := hide (CM.out d f.2.1 _ _ (place_sz gd) (place_sz HGR.out.2.1) (by omega))
                  have HC3 := hide (CG.out ((d + f.2.1) * (1 / 2)) a _ _ (HMS.out d f.2.1 gd HGR.out.2.1) HSA.out (by omega))
                  have HA := hide (AS.out f hfm d gd _ _ HI.out.gr (by have := HFW.out; omega))
                  obtain ⟨TD, hTD⟩ : ∃ x, x = T (f.2.1 - d) := ⟨_, rfl⟩
                  obtain ⟨TN, hTN⟩ : ∃ x, x = T ((d + f.2.1) * (1 / 2)) := ⟨_, rfl⟩
                  obtain ⟨TO, hTO⟩ : ∃ x, x = T ((d + f.2.1) * (1 / 2) - a) := ⟨_, rfl⟩
                  obtain ⟨TF, hTF⟩ : ∃ x, x = T d := ⟨_, rfl⟩
                  rw [← HTE.out, ← hTD, ← hTF] at HC1
                  rw [← HTE.out, ← hTN, ← hTF] at HC2
                  rw [← hTN, ← hTO, ← HTA.out] at HC3
                  rw [← HTQ.out, ← hTD, ← hTO] at HA
                  have HGT := hide (show Gr (zD K) zB (f.2.2 * (f.2.1 - d) * ((d + f.2.1) * (1 / 2) - a)) from by have := HGR.out.2.2; rw [HTE2.out] at this; exact this)
                  have hcase : (a < f.1 ∧ TF = TP) ∨ (¬ a < f.1 ∧ TF = TA) := by
                    by_cases h : a < f.1
                    · exact .inl ⟨h, by rw [hTF, HTP.out, hd]; unfold fromB; rw [if_pos h]⟩
                    · exact .inr ⟨h, by rw [hTF, HTA.out, hd]; unfold fromB; rw [if_neg h]⟩
                  clear hTD hTN hTO hTF hd gd hfm
                  rcases hcase with ⟨hc, rfl⟩ | ⟨hc, rfl⟩
                  · rw [decide_eq_true hc] at HY3
                    clear hc
                    go_wp2_with fail
                    refine HY3.out.mono ?_
                    rintro e w6 ⟨rfl, hb6⟩
                    have HR6 := hide (HR5.out.below hb6)
                    have HB6 := hide (HBS.out _ _ _ _ HR6.out)
                    have E6 := hide (below_blk hb6 E5.out cl)
                    have EA6 := hide (HEA.out _ _ _ _ HR6.out)
                    obtain ⟨W5, hW5⟩ : ∃ W, W = w6 := ⟨_, rfl⟩
                    subst hW5
                    clear hb6 cc cl HY3
                    have cc := fun o => cell_blk E6.out o
                    have ca := fun o => cell_blk EA6.out o
                    have cl := lt_blk E6.out
                    have cla := lt_blk EA6.out
                    have HN1 := hide (fun (o : Of (Below W5.heap.size W5)) => cls_own o (HC1.out _ o.w bs (below_blk o.h HR6.out.box (lt_blk HR6.out.box)) (HB6.out.trans (o.h.mono HB6.out.size))))
                    have HN2 := hide (fun (o : Of (Below W5.heap.size W5)) => cls_own o (HC2.out _ o.w bs (below_blk o.h HR6.out.box (lt_blk HR6.out.box)) (HB6.out.trans (o.h.mono HB6.out.size))))
                    have HN3 := hide (fun (o : Of (Below W5.heap.size W5)) => cls_own o (HC3.out _ o.w bs (below_blk o.h HR6.out.box (lt_blk HR6.out.box)) (HB6.out.trans (o.h.mono HB6.out.size))))
                    go_wp2_with fail
                    have hx0 : ∀ x : Of (Below W5.heap.size W5), ∀ o, x.w.cell? ⟨wo.heap.size, o, none⟩ = W5.cell? ⟨wo.heap.size, o, none⟩ := fun x o => x.h.cell (p := ⟨wo.heap.size, o, none⟩) cl
                    have hx1 : ∀ x : Of (Below W5.heap.size W5), ∀ o, x.w.cell? ⟨ba, o, none⟩ = W5.cell? ⟨ba, o, none⟩ := fun x o => x.h.cell (p := ⟨ba, o, none⟩) cla
                    have kn : Nonempty (Of (Below W5.heap.size W5)) := ⟨⟨_, Below.refl _ _⟩⟩
                    refine region_prefix (C := Cls (Below W5.heap.size W5)) 12 (by kernel_rfl) (by decide) (by kernel_rfl) (by kernel_rfl) (by kernel_rfl) (by kernel_rfl) (Cls.mk (Below.refl _ _).drew) ?_
                    simp only [List.take_succ_cons, List.take_zero, List.drop_succ_cons, List.drop_zero]
                    repeat (go_big_quiet_step (first | rfl | with_reducible exact HN1.out _ | with_reducible exact HN2.out _ | with_reducible exact HN3.out _))
                    refine wpQuiet_nil ?_
                    intro w7 hcl
                    have hb7 := hcl.out
                    have X7 := hide (heap1 w7 (.cells #[.string TQ, .string TD, .string TO] 22))
                    have HR7 := hide (HR6.out.below (hb7.trans (X7.out.2.2.mono hb7.size)))
                    have HB7 := hide (HBS.out _ _ _ _ HR7.out)
                    clear hcl hb7 hx0 hx1 kn cc ca cl cla E6 EA6 HN1 HN2 HN3
                    go_wp2_with fail
                    refine (HA.out _ bs _ HR7.out.box X7.out.1 HB7.out).mono ?_
                    rintro e w8 ⟨⟨v8, rfl⟩, ho8, hb8⟩
                    have HR8 := hide (HR7.out.step ho8 hb8 (gr_snoc_sub HI.out.gr HGT.out))
                    clear ho8 hb8 X7
                    go_wp2_with fail
                    go_roundw
                    case rel =>
                      refine ⟨j + 1, by omega, by simp, ?_⟩
                      have := HR8.out
                      rw [show sideX b a 2 i j - f.2.2 * (f.2.1 - d) * ((d + f.2.1) * (1 / 2) - a) = sideX b a 2 i (j + 1) from by rw [← HST.out, HTE2.out]; rfl] at this
                      exact this
                    case measure => simp [intOf]; omega
                  · rw [decide_eq_false hc] at HY3
                    clear hc
                    go_wp2_with fail
                    refine HY3.out.mono ?_
                    rintro e w6 ⟨rfl, hb6⟩
                    have HR6 := hide (HR5.out.below hb6)
                    have HB6 := hide (HBS.out _ _ _ _ HR6.out)
                    have E6 := hide (below_blk hb6 E5.out cl)
                    have EA6 := hide (HEA.out _ _ _ _ HR6.out)
                    obtain ⟨W5, hW5⟩ : ∃ W, W = w6 := ⟨_, rfl⟩
                    subst hW5
                    clear hb6 cc cl HY3
                    have cc := fun o => cell_blk E6.out o
                    have ca := fun o => cell_blk EA6.out o
                    have cl := lt_blk E6.out
                    have cla := lt_blk EA6.out
                    have HN1 := hide (fun (o : Of (Below W5.heap.size W5)) => cls_own o (HC1.out _ o.w bs (below_blk o.h HR6.out.box (lt_blk HR6.out.box)) (HB6.out.trans (o.h.mono HB6.out.size))))
                    have HN2 := hide (fun (o : Of (Below W5.heap.size W5)) => cls_own o (HC2.out _ o.w bs (below_blk o.h HR6.out.box (lt_blk HR6.out.box)) (HB6.out.trans (o.h.mono HB6.out.size))))
                    have HN3 := hide (fun (o : Of (Below W5.heap.size W5)) => cls_own o (HC3.out _ o.w bs (below_blk o.h HR6.out.box (lt_blk HR6.out.box)) (HB6.out.trans (o.h.mono HB6.out.size))))
                    go_wp2_with fail
                    have hx0 : ∀ x : Of (Below W5.heap.size W5), ∀ o, x.w.cell? ⟨wo.heap.size, o, none⟩ = W5.cell? ⟨wo.heap.size, o, none⟩ := fun x o => x.h.cell (p := ⟨wo.heap.size, o, none⟩) cl
                    have hx1 : ∀ x : Of (Below W5.heap.size W5), ∀ o, x.w.cell? ⟨ba, o, none⟩ = W5.cell? ⟨ba, o, none⟩ := fun x o => x.h.cell (p := ⟨ba, o, none⟩) cla
                    have kn : Nonempty (Of (Below W5.heap.size W5)) := ⟨⟨_, Below.refl _ _⟩⟩
                    refine region_prefix (C := Cls (Below W5.heap.size W5)) 12 (by kernel_rfl) (by decide) (by kernel_rfl) (by kernel_rfl) (by kernel_rfl) (by kernel_rfl) (Cls.mk (Below.refl _ _).drew) ?_
                    simp only [List.take_succ_cons, List.take_zero, List.drop_succ_cons, List.drop_zero]
                    repeat (go_big_quiet_step (first | rfl | with_reducible exact HN1.out _ | with_reducible exact HN2.out _ | with_reducible exact HN3.out _))
                    refine wpQuiet_nil ?_
                    intro w7 hcl
                    have hb7 := hcl.out
                    have X7 := hide (heap1 w7 (.cells #[.string TQ, .string TD, .string TO] 22))
                    have HR7 := hide (HR6.out.below (hb7.trans (X7.out.2.2.mono hb7.size)))
                    have HB7 := hide (HBS.out _ _ _ _ HR7.out)
                    clear hcl hb7 hx0 hx1 kn cc ca cl cla E6 EA6 HN1 HN2 HN3
                    go_wp2_with fail
                    refine (HA.out _ bs _ HR7.out.box X7.out.1 HB7.out).mono ?_
                    rintro e w8 ⟨⟨v8, rfl⟩, ho8, hb8⟩
                    have HR8 := hide (HR7.out.step ho8 hb8 (gr_snoc_sub HI.out.gr HGT.out))
                    clear ho8 hb8 X7
                    go_wp2_with fail
                    go_roundw
                    case rel =>
                      refine ⟨j + 1, by omega, by simp, ?_⟩
                      have := HR8.out
                      rw [show sideX b a 2 i j - f.2.2 * (f.2.1 - d) * ((d + f.2.1) * (1 / 2) - a) = sideX b a 2 i (j + 1) from by rw [← HST.out, HTE2.out]; rfl] at this
                      exact this
                    case measure => simp [intOf]; omega
                · have HTE2 := hide (show farS a f = 0 from if_neg hfar)
                  rw [decide_eq_false hfar] at HY
                  clear hfar hfm
                  go_wp2_with fail
                  rw [← hW1]
                  clear hW1
                  refine HY.out.mono ?_
                  rintro e w5 ⟨rfl, hb5⟩
                  have HR5 := hide (HR1.out.below hb5)
                  clear hb5 cc cl c1 c2 c3 hkw HY
                  go_wp2_with fail
                  go_roundw
                  case rel =>
                    refine ⟨j + 1, by omega, by simp, ?_⟩
                    have := HST.out
                    rw [HTE2.out] at this
                    rw [← this, Rat.sub_eq_add_neg, Rat.neg_zero, Rat.add_zero]
                    exact ⟨HR5.out.only, HR5.out.box, gr_mono HR5.out.gr (Nat.mul_le_mul_right _ (by omega))⟩
                  case measure => simp [intOf]; omega
              · obtain rfl : j = n2 := by omega
                have hki : ((j : Int) < (j : Int)) = False := eq_false (by omega)
                have hbx := HI.out.box
                rw [HEN.out] at hbx
                rw [show sumO (momentB b a) = Obj.cells #[.string TM, .int .i64 0] 35 by rw [HTM.out]] at hbx
                have k0 := cell_blk hbx 0
                have k1 := cell_blk hbx 1
                have kl := lt_blk hbx
                have hee : (TM.toList == TM.toList) = true := by simp
                clear hbx hlt
                go_wp2_with fail
                refine (HAW.out _ HBw.out).mono ?_
                rintro e w2 ⟨rfl, hb2⟩
                have HB2 := hide (HBw.out.trans (hb2.mono HBw.out.size))
                clear hb2 k0 k1 kl
                go_wp2_with fail
                go_ret
                exact ⟨rfl, HB2.out⟩
end Go.Proofs.YtpmnhipffkhcpaaGreatDoor
