/-
  Texts laid together.
-/
import Derived.Test.YtpmnhipffkhcpaaGreatDoorMB17
import Derived.Test.YtpmnhipffkhcpaaGreatDoorMB12
import Derived.ChangeSame
import Derived.ChangeSlices
import Derived.Deep.Fields
import Derived.Deep.Slices
import Derived.Lib.SmallJoins
set_option maxRecDepth 100000
set_option maxHeartbeats 64000000
namespace Go.Proofs.YtpmnhipffkhcpaaGreatDoor
open Go.RowKit Go.KP Go.KI Go.Shelf
attribute [local go_sem] Oper.semAt_some

structure RunAt (bs : Nat) (W0 W : World) (K n : Nat) (x : Rat) : Prop where
  only : Only bs W0 W
  box : W.heap[bs]? = some (sumO x)
  gr : Gr (zD K) (n * zB) x
theorem RunAt.below {bs : Nat} {W0 W W1 : World} {K n : Nat} {x : Rat} (h : RunAt bs W0 W K n x) (hb : Below W.heap.size W W1) : RunAt bs W0 W1 K n x := ⟨h.only.trans (only_of hb), below_blk hb h.box (lt_blk h.box), h.gr⟩
theorem RunAt.step {bs : Nat} {W0 W W2 : World} {K n m : Nat} {x y : Rat} (h : RunAt bs W0 W K n x) (k : Only bs W W2) (hy : W2.heap[bs]? = some (sumO y)) (hg : Gr (zD K) (m * zB) y) : RunAt bs W0 W2 K m y := ⟨h.only.trans k, hy, hg⟩
theorem gr_snoc_sub {D B n : Nat} {x y : Rat} (hx : Gr D (n * B) x) (hy : Gr D B y) : Gr D ((n + 1) * B) (x - y) := by
  have := gr_snoc hx (gr_neg hy)
  rwa [← Rat.sub_eq_add_neg] at this
theorem RunAt.on {bs B : Nat} {w W0 W : World} {K n : Nat} {x : Rat} (h : RunAt bs W0 W K n x) (hb : Below B w W0) (hB : B ≤ bs) (hs : B ≤ W0.heap.size) : Below B w W := hb.trans (only_on h.only hB hs)
theorem cls_own {f : Nat} {args : Array Value} {v : Value} {W1 : World} (x : Of (Below W1.heap.size W1)) (h : Calls Tryz.prog f args x.w (Ret x.w v)) : Calls Tryz.prog f args x.w fun e w' => e = .returned v ∧ Cls (Below W1.heap.size W1) w' :=
  h.mono fun _ _ ⟨h, hb⟩ => ⟨h, Cls.mk (x.h.trans (hb.mono x.h.size))⟩
def balX (b : Bm) (a : Rat) (i j : Nat) : Rat := (0 : Rat) + leftB b * (b.lft - a) + rightB b * (b.rgt - a) - sumL (momF a) (b.F.take i) - sumL (momS a) (b.S.take j)
theorem balX_start (b : Bm) (a : Rat) : balX b a 0 0 = (0 : Rat) + leftB b * (b.lft - a) + rightB b * (b.rgt - a) := by
  unfold balX
  show _ - (0 : Rat) - (0 : Rat) = _
  grind
theorem balX_F {b : Bm} {a : Rat} {i : Nat} (h : i < b.F.length) : balX b a i 0 - momF a (fAt b.F i) = balX b a (i + 1) 0 := by
  unfold balX
  rw [fsum_step _ h]
  show _ - (0 : Rat) - _ = _ - (0 : Rat)
  grind
theorem balX_S {b : Bm} {a : Rat} {n j : Nat} (h : j < b.S.length) : balX b a n j - momS a (sAt b.S j) = balX b a n (j + 1) := by
  unfold balX
  rw [ssum_step _ h]
  grind
theorem balX_end {b : Bm} (h : BmS b) (a : Rat) : balX b a b.F.length b.S.length = 0 := by
  have := balanceB h.toBmOK a
  unfold balX
  rw [List.take_of_length_le (Nat.le_refl _), List.take_of_length_le (Nat.le_refl _), Rat.zero_add, this]
  grind
theorem topBalance_any (L l r : ByteArray) (F : List Fr) (S : List Sp) (fa : Option Addr) (fc : Nat) (sa : Option Addr) (sc : Nat) (m : Nat) (hm : m ≤ 255) (B : Nat) (w : World) (hB : B ≤ w.heap.size) (hT : PQ B w) (hF : FrRow w.heap.size w fa F) (hS : SpRow w.heap.size w sa S) :
    Calls Tryz.prog 3 #[beamV L l r fa F.length fc sa S.length sc, .int .u8 (m : Int)] w (Ret w (.bool true)) := by
  have HT := hide (hT.mono hB)
  clear hT hB B
  have HRF := hide hF
  have HRS := hide hS
  have X0 := hide (heap1 w (beamO L l r fa F.length fc sa S.length sc))
  have HSU := hide (fun w2 (h : Below w.heap.size w w2) => t52Sure_any L l r F S fa fc sa sc w.heap.size w2 h.size (HT.out.on h (Nat.le_refl _)) (hF.cells fun k o hk => h.cell (p := ⟨k, o, none⟩) hk) (hS.cells fun k o hk => h.cell (p := ⟨k, o, none⟩) hk))
  have HAW := hide (fun w2 (h : Below w.heap.size w w2) => t52awake_any w.heap.size w2 h.size (HT.out.on h (Nat.le_refl _)))
  obtain ⟨n1, hn1⟩ : ∃ n, n = F.length := ⟨_, rfl⟩
  obtain ⟨n2, hn2⟩ : ∃ n, n = S.length := ⟨_, rfl⟩
  rw [← hn1, ← hn2] at X0 HSU ⊢
  have HN1 := hide hn1
  have HN2 := hide hn2
  clear hF hS hn1 hn2
  go_enter Tryz.func3, Tryz.ntmps3
  go_wp2_with fail
  refine (HSU.out _ X0.out.2.2).mono ?_
  rintro e w1 ⟨ok, rfl, hb1, hok⟩
  have G1 := hide (below_blk hb1 X0.out.1 (lt_blk X0.out.1))
  have HB1 := hide (X0.out.2.2.trans (hb1.mono X0.out.2.2.size))
  have HOK := hide hok
  clear hb1 hok X0
  cases ok with
  | false =>
    go_wp2_with fail
    refine (HAW.out _ HB1.out).mono ?_
    rintro e w2 ⟨rfl, hb2⟩
    have HB2 := hide (HB1.out.trans (hb2.mono HB1.out.size))
    clear hb2
    go_wp2_with fail
    go_ret
    exact ⟨rfl, HB2.out⟩
  | true =>
    obtain ⟨b, rfl, rfl, rfl, hFF, hSS, hs⟩ := HOK.out rfl
    subst hFF
    subst hSS
    rw [TF_len] at HN1
    rw [TS_len] at HN2
    have HS := hide hs
    have HBM := hide (show BeamAt w.heap.size w fa sa b from ⟨HRF.out, HRS.out⟩)
    obtain ⟨k, hk⟩ : ∃ k, k = m % 25 := ⟨_, rfl⟩
    obtain ⟨a0, a1, ga⟩ := atB_in hs (k := k) (by omega)
    have HAT := hide (fun w2 (h : Below w.heap.size w w2) => t52At_T hs m hm fa fc sa sc w.heap.size w2 h.size (HT.out.on h (Nat.le_refl _)))
    rw [← hk] at HAT
    obtain ⟨a, ha⟩ : ∃ a, a = atB b k := ⟨_, rfl⟩
    rw [← ha] at HAT a0 a1 ga
    have HRE := hide (fun w2 (h : Below w.heap.size w w2) => bReactions_T hs fa fc sa sc w.heap.size w2 h.size (HT.out.on h (Nat.le_refl _)) (HBM.out.below h (Nat.le_refl _)))
    obtain ⟨K, k1, k2, g1, g2, _⟩ := moment_gr hs ga
    have HK1 := hide k1
    have HK2 := hide k2
    have HGA := hide ga
    rw [← HN1.out, ← HN2.out] at HAT HRE
    have gL := react_arm g1 (small_gr hs.sf) ga
    have gR := react_arm g2 (small_gr hs.sr) ga
    have gx1 : Gr (zD K) (1 * zB) ((0 : Rat) + leftB b * (b.lft - a)) := by rw [Rat.zero_add, Nat.one_mul]; exact gL
    have gx2 := gr_snoc gx1 gR
    have HG1 := hide gx1
    have HG2 := hide gx2
    have sL := left_sz hs
    have sR := right_sz hs
    have sA := place_sz ga
    have sl := place_sz (small_gr hs.sf)
    have sr := place_sz (small_gr hs.sr)
    have C1 := hide (fun s w2 bs hb (h : Below w.heap.size w w2) => t52gap_T (s := s) sl sA (by omega) bs w.heap.size w2 hb h.size (HT.out.on h (Nat.le_refl _)))
    have C2 := hide (fun s w2 bs hb (h : Below w.heap.size w w2) => t52gap_T (s := s) sr sA (by omega) bs w.heap.size w2 hb h.size (HT.out.on h (Nat.le_refl _)))
    have A1 := hide (fun w2 bs r hb hr (h : Below w.heap.size w w2) => t52add2 (s := 0) sL (sz_sub sl sA) (by omega) (sz_mono sz_zero1 (by omega)) (run_sz (n := 1) k1 k2 (by omega) (by rw [Nat.one_mul]; exact gL)) bs r w.heap.size w2 hb hr h.size (HT.out.on h (Nat.le_refl _)))
    have A2 := hide (fun w2 bs r hb hr (h : Below w.heap.size w w2) => t52add2 (s := 0 + leftB b * (b.lft - a)) sR (sz_sub sr sA) (by omega) (run_sz k1 k2 (by omega) gx1) (run_sz (n := 1) k1 k2 (by omega) (by rw [Nat.one_mul]; exact gR)) bs r w.heap.size w2 hb hr h.size (HT.out.on h (Nat.le_refl _)))
    have C3 := hide (fun f (hf : f ∈ b.F) s w2 bs hb (h : Below w.heap.size w w2) => t52gap_T (s := s) (place_sz (small_gr (hs.sF f hf).1)) sA (by omega) bs w.heap.size w2 hb h.size (HT.out.on h (Nat.le_refl _)))
    have A3 := hide (fun f (hf : f ∈ b.F) x n (hx : Gr (zD K) (n * zB) x) (hn : n ≤ 1000) w2 bs r hb hr (h : Below w.heap.size w w2) => t52sub2 (s := x) (place_sz (small_gr (hs.sF f hf).2)) (sz_sub (place_sz (small_gr (hs.sF f hf).1)) sA) (by omega) (run_sz k1 k2 hn hx) (run_sz (n := 1) k1 k2 (by omega) (by rw [Nat.one_mul]; exact momF_gr k2 (small_gr (hs.sF f hf).1) (small_gr (hs.sF f hf).2) ga)) bs r w.heap.size w2 hb hr h.size (HT.out.on h (Nat.le_refl _)))
    have C4 := hide (fun f (hf : f ∈ b.S) s w2 bs hb (h : Below w.heap.size w w2) => t52gap_T (s := s) (place_sz (small_gr (hs.sS f hf).2.1)) (place_sz (small_gr (hs.sS f hf).1)) (by omega) bs w.heap.size w2 hb h.size (HT.out.on h (Nat.le_refl _)))
    have C5 := hide (fun f (hf : f ∈ b.S) s w2 bs hb (h : Below w.heap.size w w2) => t52mean_T (s := s) (place_sz (small_gr (hs.sS f hf).1)) (place_sz (small_gr (hs.sS f hf).2.1)) (by omega) bs w.heap.size w2 hb h.size (HT.out.on h (Nat.le_refl _)))
    have mean_sz : ∀ f ∈ b.S, sz 60 ((f.1 + f.2.1) * (1 / 2)) := fun f hf => gr_sz (by decide) (mean_gr (small_gr (hs.sS f hf).1) (small_gr (hs.sS f hf).2.1)) (by decide) (by decide)
    have C6 := hide (fun f (hf : f ∈ b.S) s w2 bs hb (h : Below w.heap.size w w2) => t52gap_T (s := s) (mean_sz f hf) sA (by omega) bs w.heap.size w2 hb h.size (HT.out.on h (Nat.le_refl _)))
    have A4 := hide (fun f (hf : f ∈ b.S) x n (hx : Gr (zD K) (n * zB) x) (hn : n ≤ 1000) w2 bs r hb hr (h : Below w.heap.size w w2) => t52sub3 (s := x) (place_sz (small_gr (hs.sS f hf).2.2)) (sz_sub (place_sz (small_gr (hs.sS f hf).2.1)) (place_sz (small_gr (hs.sS f hf).1))) (sz_sub (mean_sz f hf) sA) (by omega) (run_sz k1 k2 hn hx) (run_sz (n := 1) k1 k2 (by omega) (by rw [Nat.one_mul]; exact momS_gr k2 (small_gr (hs.sS f hf).1) (small_gr (hs.sS f hf).2.1) (small_gr (hs.sS f hf).2.2) ga)) bs r w.heap.size w2 hb hr h.size (HT.out.on h (Nat.le_refl _)))
    have GF := hide (fun f (hf : f ∈ b.F) => momF_gr k2 (small_gr (hs.sF f hf).1) (small_gr (hs.sF f hf).2) ga)
    have GS := hide (fun f (hf : f ∈ b.S) => momS_gr k2 (small_gr (hs.sS f hf).1) (small_gr (hs.sS f hf).2.1) (small_gr (hs.sS f hf).2.2) ga)
    have HFW := hide hs.few
    have m1 : n1 ≤ 64 := by rw [HN1.out]; exact hs.fF
    have m2 : n2 ≤ 64 := by rw [HN2.out]; exact hs.fS
    rw [← HN1.out, ← HN2.out] at HFW
    have HS := hide hs
    clear hs ga a0 a1 ha hk sL sR sA sl sr gx1 gx2 gL gR g1 g2 mean_sz k1 k2 HOK HRF HRS hm
    have h00 := T0
    have HX0 := hide (rfl : balX b a 0 0 = balX b a 0 0)
    obtain ⟨TA, hTA⟩ : ∃ x, x = T a := ⟨_, rfl⟩
    obtain ⟨TL, hTL⟩ : ∃ x, x = T b.len := ⟨_, rfl⟩
    obtain ⟨Tl, hTl⟩ : ∃ x, x = T b.lft := ⟨_, rfl⟩
    obtain ⟨Tr, hTr⟩ : ∃ x, x = T b.rgt := ⟨_, rfl⟩
    obtain ⟨Ta, hTa⟩ : ∃ x, x = T (leftB b) := ⟨_, rfl⟩
    obtain ⟨Tb, hTb⟩ : ∃ x, x = T (rightB b) := ⟨_, rfl⟩
    obtain ⟨Tla, hTla⟩ : ∃ x, x = T (b.lft - a) := ⟨_, rfl⟩
    obtain ⟨Tra, hTra⟩ : ∃ x, x = T (b.rgt - a) := ⟨_, rfl⟩
    rw [← hTL, ← hTl, ← hTr] at HAT G1
    rw [← hTL, ← hTl, ← hTr] at HRE
    rw [← hTA] at HAT C1 C2 C3 C6
    rw [← hTa, ← hTb] at HRE
    rw [← hTla] at A1 C1
    rw [← hTra] at A2 C2
    rw [← hTl] at C1
    rw [← hTr] at C2
    rw [← hTa] at A1
    rw [← hTb] at A2
    clear hTA hTL hTl hTr hTa hTb hTla hTra
    have q0 := cell_blk G1.out 0
    have q1 := cell_blk G1.out 1
    have q2 := cell_blk G1.out 2
    have q3 := cell_blk G1.out 3
    have q4 := cell_blk G1.out 4
    have ql := lt_blk G1.out
    go_wp2_with fail
    refine (HAT.out _ HB1.out).mono ?_
    rintro e w2 ⟨rfl, hb2⟩
    have G2 := hide (below_blk hb2 G1.out ql)
    have HB2 := hide (HB1.out.trans (hb2.mono HB1.out.size))
    clear hb2 q0 q1 q2 q3 q4 ql
    have q0 := cell_blk G2.out 0
    have q1 := cell_blk G2.out 1
    have q2 := cell_blk G2.out 2
    have q3 := cell_blk G2.out 3
    have q4 := cell_blk G2.out 4
    have ql := lt_blk G2.out
    go_wp2_with fail
    refine (HRE.out _ HB2.out).mono ?_
    rintro e w3 ⟨rfl, hb3⟩
    have G3 := hide (below_blk hb3 G2.out ql)
    have HB3 := hide (HB2.out.trans (hb3.mono HB2.out.size))
    clear hb3 q0 q1 q2 q3 q4 ql HAT HRE
    have X3 := hide (heap1 w3 (.cells #[.string ⟨#[48]⟩, .int .i64 0] 35))
    have hbw : w.heap.size < w3.heap.size := lt_blk G3.out
    have HB4 := hide (HB3.out.trans (X3.out.2.2.mono HB3.out.size))
    have G4 := hide (below_blk X3.out.2.2 G3.out (lt_blk G3.out))
    have E4 := hide (show (w3.alloc (.cells #[.string ⟨#[48]⟩, .int .i64 0] 35)).heap[w3.heap.size]? = some (sumO 0) by show _ = some (Obj.cells #[.string (T 0), .int .i64 0] _); rw [h00]; exact X3.out.1)
    have q1 := cell_blk G4.out 1
    have ql := lt_blk G4.out
    clear X3 G3 HB3 h00
    go_wp2_with fail
    generalize w3.alloc (.cells #[.string ⟨#[48]⟩, .int .i64 0] 35) = W3 at *
    generalize w3.heap.size = bs at *
    refine (C1.out _ _ bs E4.out HB4.out).mono ?_
    rintro e w5 ⟨rfl, hb5⟩
    have X5 := hide (heap1 w5 (.cells #[.string Ta, .string Tla] 22))
    have G5 := hide (below_blk (hb5.trans (X5.out.2.2.mono hb5.size)) G4.out ql)
    have E5 := hide (below_blk (hb5.trans (X5.out.2.2.mono hb5.size)) E4.out (lt_blk E4.out))
    have HB5 := hide (HB4.out.trans ((hb5.trans (X5.out.2.2.mono hb5.size)).mono HB4.out.size))
    have H35 := hide (hb5.trans (X5.out.2.2.mono hb5.size))
    clear hb5 q1 ql
    go_wp2_with fail
    refine (A1.out _ bs _ E5.out X5.out.1 HB5.out).mono ?_
    rintro e w6 ⟨⟨v6, rfl⟩, ho6, hb6⟩
    have R1 := hide (show RunAt bs W3 w6 K 1 (0 + leftB b * (b.lft - a)) from ⟨(only_of H35.out).trans ho6, hb6, HG1.out⟩)
    have G6 := hide (only_blk ho6 G5.out (Nat.ne_of_lt hbw))
    have HB6 := hide (HB5.out.trans (only_on ho6 (Nat.le_of_lt hbw) HB5.out.size))
    have E6 := hide hb6
    clear ho6 hb6 X5 G5 E5 HB5 H35 E4 C1 A1 HG1
    have q2 := cell_blk G6.out 2
    have ql := lt_blk G6.out
    go_wp2_with fail
    refine (C2.out _ _ bs E6.out HB6.out).mono ?_
    rintro e w7 ⟨rfl, hb7⟩
    have X7 := hide (heap1 w7 (.cells #[.string Tb, .string Tra] 22))
    have H67 := hide (hb7.trans (X7.out.2.2.mono hb7.size))
    have G7 := hide (below_blk H67.out G6.out ql)
    have E7 := hide (below_blk H67.out E6.out (lt_blk E6.out))
    have HB7 := hide (HB6.out.trans (H67.out.mono HB6.out.size))
    clear hb7 q2 ql
    go_wp2_with fail
    refine (A2.out _ bs _ E7.out X7.out.1 HB7.out).mono ?_
    rintro e w8 ⟨⟨v8, rfl⟩, ho8, hb8⟩
    have R2 := hide (show RunAt bs W3 w8 K (2 + 0) (balX b a 0 0) from by
      rw [balX_start]
      exact ⟨(R1.out.only.trans (only_of H67.out)).trans ho8, hb8, HG2.out⟩)
    have G8 := hide (only_blk ho8 G7.out (Nat.ne_of_lt hbw))
    clear ho8 hb8 X7 G7 E7 HB7 H67 E6 HB6 G6 R1 C2 A2 HG2
    have q3 := cell_blk G8.out 3
    have ql := lt_blk G8.out
    have HBS := hide (show ∀ W K n x, RunAt bs W3 W K n x → Below w.heap.size w W from fun W K n x h => h.on HB4.out (Nat.le_of_lt hbw) HB4.out.size)
    have HGS := hide (show ∀ W K n x, RunAt bs W3 W K n x → W.heap[w.heap.size]? = some (beamO TL Tl Tr fa n1 fc sa n2 sc) from fun W K n x h => only_blk h.only G4.out (Nat.ne_of_lt hbw))
    clear HB4 G4
    go_wp2_with fail
    clear q3 ql G8
    go_loopw [55] (fun i wr => ∃ k : Nat, k ≤ n1 ∧ i = .int .i64 k ∧ Hid (RunAt bs W3 wr K (2 + k) (balX b a k 0))) (fun i _ => n1 - (intOf i).toNat)
    case atStart => exact ⟨0, Nat.zero_le _, rfl, R2.out⟩
    clear R2
    case round =>
      obtain ⟨k, hk, rfl, hin⟩ := hrel
      obtain ⟨wo, hwo⟩ : ∃ wo, wo = wr := ⟨_, rfl⟩
      subst hwo
      have HI := hide hin.out
      clear hin
      have HBw := hide (HBS.out _ _ _ _ HI.out)
      by_cases hlt : k < n1
      · have hki : (k : Int) < (n1 : Int) := by omega
        have hk0 : (0 : Int) ≤ (k : Int) := by omega
        have hkl : k < b.F.length := by rw [← HN1.out]; exact hlt
        obtain ⟨kb, ko, hfa, hkb, c1, c2⟩ := (HBM.out.below HBw.out (Nat.le_refl _)).force hkl
        subst hfa
        have hfm := fAt_mem hkl
        have HST := hide (balX_F (a := a) hkl)
        have HGR := hide (GF.out _ hfm)
        have HC := hide (C3.out _ hfm)
        have HA := hide (A3.out _ hfm _ _ HI.out.gr (by have := HFW.out; omega))
        generalize fAt b.F k = f at *
        have hkw : kb < wo.heap.size := by have := HBw.out.size; omega
        have XF := hide (heap1 wo (frcO (T f.1) (T f.2)))
        obtain ⟨W1, hW1⟩ : ∃ W, W = wo.alloc (frcO (T f.1) (T f.2)) := ⟨_, rfl⟩
        rw [← hW1] at XF
        have E1 := hide XF.out.1
        have HR1 := hide (HI.out.below XF.out.2.2)
        have HB1 := hide (HBS.out _ _ _ _ HR1.out)
        have HN := hide (fun (o : Of (Below W1.heap.size W1)) => cls_own o (HC.out _ o.w bs (below_blk o.h HR1.out.box (lt_blk HR1.out.box)) (HB1.out.trans (o.h.mono HB1.out.size))))
        obtain ⟨TP, hTP⟩ : ∃ x, x = T f.1 := ⟨_, rfl⟩
        obtain ⟨TQ, hTQ⟩ : ∃ x, x = T f.2 := ⟨_, rfl⟩
        obtain ⟨TD, hTD⟩ : ∃ x, x = T (f.1 - a) := ⟨_, rfl⟩
        rw [← hTP, ← hTD] at HN
        rw [← hTP] at c1
        rw [← hTQ] at c2
        rw [← hTP, ← hTQ] at E1 hW1
        rw [← hTQ, ← hTD] at HA
        have cc := fun o => cell_blk E1.out o
        have cl := lt_blk E1.out
        clear hTP hTQ hTD hfm hlt hkl XF HC
        go_wp2_with fail
        rw [← hW1]
        clear hW1
        go_wp2_with fail
        have hx0 : ∀ x : Of (Below W1.heap.size W1), ∀ o, x.w.cell? ⟨wo.heap.size, o, none⟩ = W1.cell? ⟨wo.heap.size, o, none⟩ := fun x o => x.h.cell (p := ⟨wo.heap.size, o, none⟩) cl
        have kn : Nonempty (Of (Below W1.heap.size W1)) := ⟨⟨_, Below.refl _ _⟩⟩
        refine region_prefix (C := Cls (Below W1.heap.size W1)) 6 (by kernel_rfl) (by decide) (by kernel_rfl) (by kernel_rfl) (by kernel_rfl) (by kernel_rfl) (Cls.mk (Below.refl _ _).drew) ?_
        simp only [List.take_succ_cons, List.take_zero, List.drop_succ_cons, List.drop_zero]
        repeat (go_big_quiet_step (first | rfl | with_reducible exact HN.out _))
        refine wpQuiet_nil ?_
        intro w2 hcl
        have hb2 := hcl.out
        have X2 := hide (heap1 w2 (.cells #[.string TQ, .string TD] 22))
        have HR2 := hide (HR1.out.below (hb2.trans (X2.out.2.2.mono hb2.size)))
        have HB2 := hide (HBS.out _ _ _ _ HR2.out)
        clear hcl hb2 hx0 kn cc cl c1 c2 hkw E1 HN
        go_wp2_with fail
        refine (HA.out _ bs _ HR2.out.box X2.out.1 HB2.out).mono ?_
        rintro e w3 ⟨⟨v3, rfl⟩, ho3, hb3⟩
        have HR3 := hide (HR2.out.step ho3 hb3 (gr_snoc_sub HI.out.gr HGR.out))
        clear ho3 hb3 X2
        go_wp2_with fail
        go_roundw
        case rel =>
          refine ⟨k + 1, by omega, by simp, ?_⟩
          have := HR3.out
          rw [show balX b a k 0 - f.2 * (f.1 - a) = balX b a (k + 1) 0 from HST.out] at this
          exact this
        case measure => simp [intOf]; omega
      · obtain rfl : k = n1 := by omega
        have hki : ((k : Int) < (k : Int)) = False := eq_false (by omega)
        have G8 := hide (HGS.out _ _ _ _ HI.out)
        have q4 := cell_blk G8.out 4
        have ql := lt_blk G8.out
        clear hlt C3 A3 GF
        go_wp2_with fail
        clear q4 ql G8
        go_loopw [71] (fun i wr => ∃ j : Nat, j ≤ n2 ∧ i = .int .i64 j ∧ Hid (RunAt bs W3 wr K (2 + k + j) (balX b a k j))) (fun i _ => n2 - (intOf i).toNat)
        case atStart => exact ⟨0, Nat.zero_le _, rfl, HI.out⟩
        clear HI HBw
        case round =>
          obtain ⟨j, hj, rfl, hin⟩ := hrel
          obtain ⟨wo, hwo⟩ : ∃ wo, wo = wr := ⟨_, rfl⟩
          subst hwo
          have HI := hide hin.out
          clear hin
          have HBw := hide (HBS.out _ _ _ _ HI.out)
          by_cases hlt : j < n2
          · have hki : (j : Int) < (n2 : Int) := by omega
            have hk0 : (0 : Int) ≤ (j : Int) := by omega
            have hkl : j < b.S.length := by rw [← HN2.out]; exact hlt
            obtain ⟨kb, ko, hfa, hkb, c1, c2, c3⟩ := (HBM.out.below HBw.out (Nat.le_refl _)).spread hkl
            subst hfa
            have hfm := sAt_mem hkl
            have HST := hide (balX_S (a := a) (n := k) hkl)
            have HGR := hide (GS.out _ hfm)
            have HC4 := hide (C4.out _ hfm)
            have HC5 := hide (C5.out _ hfm)
            have HC6 := hide (C6.out _ hfm)
            have HA := hide (A4.out _ hfm _ _ HI.out.gr (by have := HFW.out; omega))
            generalize sAt b.S j = f at *
            have hkw : kb < wo.heap.size := by have := HBw.out.size; omega
            have XF := hide (heap1 wo (sprO (T f.1) (T f.2.1) (T f.2.2)))
            obtain ⟨W1, hW1⟩ : ∃ W, W = wo.alloc (sprO (T f.1) (T f.2.1) (T f.2.2)) := ⟨_, rfl⟩
            rw [← hW1] at XF
            have E1 := hide XF.out.1
            have HR1 := hide (HI.out.below XF.out.2.2)
            have HB1 := hide (HBS.out _ _ _ _ HR1.out)
            have HN4 := hide (fun (o : Of (Below W1.heap.size W1)) => cls_own o (HC4.out _ o.w bs (below_blk o.h HR1.out.box (lt_blk HR1.out.box)) (HB1.out.trans (o.h.mono HB1.out.size))))
            have HN5 := hide (fun (o : Of (Below W1.heap.size W1)) => cls_own o (HC5.out _ o.w bs (below_blk o.h HR1.out.box (lt_blk HR1.out.box)) (HB1.out.trans (o.h.mono HB1.out.size))))
            have HN6 := hide (fun (o : Of (Below W1.heap.size W1)) => cls_own o (HC6.out _ o.w bs (below_blk o.h HR1.out.box (lt_blk HR1.out.box)) (HB1.out.trans (o.h.mono HB1.out.size))))
            obtain ⟨TP, hTP⟩ : ∃ x, x = T f.1 := ⟨_, rfl⟩
            obtain ⟨TE, hTE⟩ : ∃ x, x = T f.2.1 := ⟨_, rfl⟩
            obtain ⟨TQ, hTQ⟩ : ∃ x, x = T f.2.2 := ⟨_, rfl⟩
            obtain ⟨TD, hTD⟩ : ∃ x, x = T (f.2.1 - f.1) := ⟨_, rfl⟩
            obtain ⟨TM, hTM⟩ : ∃ x, x = T ((f.1 + f.2.1) * (1 / 2)) := ⟨_, rfl⟩
            obtain ⟨TN, hTN⟩ : ∃ x, x = T ((f.1 + f.2.1) * (1 / 2) - a) := ⟨_, rfl⟩
            rw [← hTP, ← hTE, ← hTD] at HN4
            rw [← hTP, ← hTE, ← hTM] at HN5
            rw [← hTM, ← hTN] at HN6
            rw [← hTP] at c1
            rw [← hTE] at c2
            rw [← hTQ] at c3
            rw [← hTP, ← hTE, ← hTQ] at E1 hW1
            rw [← hTQ, ← hTD, ← hTN] at HA
            have cc := fun o => cell_blk E1.out o
            have cl := lt_blk E1.out
            clear hTP hTE hTQ hTD hTM hTN hfm hlt hkl XF HC4 HC5 HC6
            go_wp2_with fail
            rw [← hW1]
            clear hW1
            go_wp2_with fail
            have hx0 : ∀ x : Of (Below W1.heap.size W1), ∀ o, x.w.cell? ⟨wo.heap.size, o, none⟩ = W1.cell? ⟨wo.heap.size, o, none⟩ := fun x o => x.h.cell (p := ⟨wo.heap.size, o, none⟩) cl
            have kn : Nonempty (Of (Below W1.heap.size W1)) := ⟨⟨_, Below.refl _ _⟩⟩
            refine region_prefix (C := Cls (Below W1.heap.size W1)) 14 (by kernel_rfl) (by decide) (by kernel_rfl) (by kernel_rfl) (by kernel_rfl) (by kernel_rfl) (Cls.mk (Below.refl _ _).drew) ?_
            simp only [List.take_succ_cons, List.take_zero, List.drop_succ_cons, List.drop_zero]
            repeat (go_big_quiet_step (first | rfl | with_reducible exact HN4.out _ | with_reducible exact HN5.out _ | with_reducible exact HN6.out _))
            refine wpQuiet_nil ?_
            intro w2 hcl
            have hb2 := hcl.out
            have X2 := hide (heap1 w2 (.cells #[.string TQ, .string TD, .string TN] 22))
            have HR2 := hide (HR1.out.below (hb2.trans (X2.out.2.2.mono hb2.size)))
            have HB2 := hide (HBS.out _ _ _ _ HR2.out)
            clear hcl hb2 hx0 kn cc cl c1 c2 c3 hkw E1 HN4 HN5 HN6
            go_wp2_with fail
            refine (HA.out _ bs _ HR2.out.box X2.out.1 HB2.out).mono ?_
            rintro e w3 ⟨⟨v3, rfl⟩, ho3, hb3⟩
            have HR3 := hide (HR2.out.step ho3 hb3 (gr_snoc_sub HI.out.gr HGR.out))
            clear ho3 hb3 X2
            go_wp2_with fail
            go_roundw
            case rel =>
              refine ⟨j + 1, by omega, by simp, ?_⟩
              have := HR3.out
              rw [show balX b a k j - f.2.2 * (f.2.1 - f.1) * ((f.1 + f.2.1) * (1 / 2) - a) = balX b a k (j + 1) from HST.out] at this
              exact this
            case measure => simp [intOf]; omega
          · obtain rfl : j = n2 := by omega
            have hki : ((j : Int) < (j : Int)) = False := eq_false (by omega)
            have hbx := HI.out.box
            rw [HN1.out, HN2.out, balX_end HS.out a] at hbx
            delta sumO at hbx
            rw [T0] at hbx
            have k0 := cell_blk hbx 0
            have k1 := cell_blk hbx 1
            have kl := lt_blk hbx
            clear hbx hlt
            go_wp2_with fail
            refine (HAW.out _ HBw.out).mono ?_
            rintro e w2 ⟨rfl, hb2⟩
            have HB2 := hide (HBw.out.trans (hb2.mono HBw.out.size))
            clear hb2 k0 k1 kl
            go_wp2_with fail
            go_ret
            exact ⟨rfl, HB2.out⟩
open Go.Joins Go.ChangeShapes Go.WideShapes Go.RowKit Go.Deep Go.KP Go.KI

theorem list_of {α : Type} (z : α) (P : Nat → α → Prop) : ∀ n : Nat, (∀ i, i < n → ∃ x, P i x) → ∃ l : List α, l.length = n ∧ ∀ i, i < n → P i (l[i]?.getD z) := by
  intro n
  induction n with
  | zero => intro _; exact ⟨[], rfl, fun i hi => by omega⟩
  | succ n ih =>
    intro h
    obtain ⟨l, hl, hp⟩ := ih (fun i hi => h i (by omega))
    obtain ⟨x, hx⟩ := h n (by omega)
    refine ⟨l ++ [x], by simp [hl], fun i hi => ?_⟩
    by_cases hin : i = n
    · subst hin
      have e : (l ++ [x])[i]?.getD z = x := by rw [← hl]; simp
      rw [e]
      exact hx
    · have e : (l ++ [x])[i]?.getD z = l[i]?.getD z := by rw [List.getElem?_append_left (by omega)]
      rw [e]
      exact hp i (by omega)
theorem cell_ltB {w : World} {a : Addr} {n : Nat} {v : Value} (h : w.cell? (a.add n) = some v) : a.block < w.heap.size := by
  unfold World.cell? at h
  rcases Nat.lt_or_ge (a.add n).block w.heap.size with h1 | h1
  · have e : (a.add n).block = a.block := by unfold Addr.add; split <;> rfl
    rw [e] at h1
    exact h1
  · rw [Array.getElem?_eq_none h1] at h
    cases h
section
variable {H : Type} {enc : TypeId × Value → H} {P : Program} {w : World} {base : Nat} {spare : Nat → Bool} {held : Bool}
theorem open_slice_fields {t e : TypeId} {fs : Array Field} {fuel : Nat} {cs : List Value} {x : DataW H × List MemPlace} (ht : P.underlying t = some (.slice e)) (he : P.underlying e = some (.struct fs))
    (hone : oneCellFields P fs = true) (hC : P.cellsOf e = fs.size) (h : DataW.trod enc P w base spare held fuel t cs = some x) :
    (cs = [.slice none 0 0] ∧ x = (.nil, [])) ∨
    ∃ (a : Addr) (len cap m : Nat) (D : Nat → DataW H) (Pl : Nat → List MemPlace), cs = [.slice (some a) len cap] ∧ base ≤ a.block ∧ len ≤ cap ∧ cap ≤ maxLen ∧ m = (if spare a.block then cap else len) ∧
      x = (.slice ((List.range len).map D) ((List.range (m - len)).map fun j => D (len + j)), MemPlace.row a (m * fs.size) ++ (List.range m).flatMap Pl) ∧
      ∀ i, i < m → ∃ (ys : List (DataW H × List MemPlace)) (n : Nat), D i = .agg (ys.map (·.1)) ∧ Pl i = ys.flatMap (·.2) ∧ ys.length = fs.size ∧
        ∀ (j : Nat) (f : Field), fs[j]? = some f → ∃ (v : Value) (y : DataW H × List MemPlace), w.cell? (a.add (i * fs.size + j)) = some v ∧ ys[j]? = some y ∧ DataW.trod enc P w base spare held n f.type [v] = some y := by
  rcases open_slice ht h with h0 | ⟨a, len, cap, m, n, D, Pl, hcs, hb, hl, hm, hmm, hx, hi⟩
  · exact .inl h0
  · refine .inr ⟨a, len, cap, m, D, Pl, hcs, hb, hl, hm, hmm, by rw [hC] at hx; exact hx, fun i him => ?_⟩
    obtain ⟨cs', hc, ht'⟩ := hi i him
    rw [hC] at hc
    obtain ⟨ys, n', hn', hy, hlen, hyl, hf⟩ := DataW.trod_struct he ht'
    obtain ⟨_, hcl, hat⟩ := World.cells?_some hc
    simp only [Prod.mk.injEq] at hy
    refine ⟨ys, n', hy.1, hy.2, hyl, fun j f hj => ?_⟩
    obtain ⟨ho, hk⟩ := hone_of hone j f hj
    have hjl : j < fs.size := (Array.getElem?_eq_some_iff.1 hj).1
    have hcell := hat j hjl
    have hv : cs'[j]? = some (cs'[j]'(by omega)) := List.getElem?_eq_getElem (by omega)
    have h1 := hf j f hj
    rw [ho, hk] at h1
    have hone' : (cs'.drop j).take 1 = [cs'[j]'(by omega)] := by
      rw [List.drop_eq_getElem_cons (by omega)]
      rfl
    rw [hone'] at h1
    have hys : ys[j]? = some (ys[j]'(by omega)) := List.getElem?_eq_getElem (by omega)
    refine ⟨_, _, ?_, hys, h1.trans hys⟩
    rw [← Go.Deep.add_add, hcell, hv]
theorem open_agg5 {r : Reach} {b0 : Nat} {t : TypeId} {f0 f1 f2 f3 f4 : Field} {v : Value} {d : DataW H} {p : List MemPlace} (hs : P.underlying t = some (.struct #[f0, f1, f2, f3, f4])) (hone : oneCellFields P #[f0, f1, f2, f3, f4] = true) (hC : P.cellsOf t = 5)
    (hv : Value.okWide P w r b0 t v) (h : DataW.Trod enc P w base spare held t v d p) :
    ∃ (v0 v1 v2 v3 v4 : Value) (y0 y1 y2 y3 y4 : DataW H × List MemPlace) (n : Nat), v = .agg #[v0, v1, v2, v3, v4] ∧ d = .agg [y0.1, y1.1, y2.1, y3.1, y4.1] ∧ p = y0.2 ++ (y1.2 ++ (y2.2 ++ (y3.2 ++ y4.2))) ∧
      DataW.trod enc P w base spare held n f0.type [v0] = some y0 ∧ DataW.trod enc P w base spare held n f1.type [v1] = some y1 ∧ DataW.trod enc P w base spare held n f2.type [v2] = some y2 ∧ DataW.trod enc P w base spare held n f3.type [v3] = some y3 ∧ DataW.trod enc P w base spare held n f4.type [v4] = some y4 := by
  obtain ⟨cs, rfl, hsz⟩ := okWide_struct hs hv
  obtain ⟨l⟩ := cs
  match l, hsz.trans hC with
  | [c0, c1, c2, c3, c4], _ =>
    obtain ⟨fuel, hf⟩ := h
    obtain ⟨xs, n, _, hx, _, hlen, hg⟩ := DataW.trod_struct hs hf
    obtain ⟨o0, k0⟩ := hone_of hone 0 f0 rfl
    obtain ⟨o1, k1⟩ := hone_of hone 1 f1 rfl
    obtain ⟨o2, k2⟩ := hone_of hone 2 f2 rfl
    obtain ⟨o3, k3⟩ := hone_of hone 3 f3 rfl
    obtain ⟨o4, k4⟩ := hone_of hone 4 f4 rfl
    match xs, hlen with
    | [y0, y1, y2, y3, y4], _ =>
      simp only [Prod.mk.injEq] at hx
      exact ⟨c0, c1, c2, c3, c4, y0, y1, y2, y3, y4, n, rfl, by simpa using hx.1, by simpa using hx.2, by simpa [Value.cells, o0, k0] using hg 0 f0 rfl, by simpa [Value.cells, o1, k1] using hg 1 f1 rfl, by simpa [Value.cells, o2, k2] using hg 2 f2 rfl, by simpa [Value.cells, o3, k3] using hg 3 f3 rfl, by simpa [Value.cells, o4, k4] using hg 4 f4 rfl⟩
end
section
variable {H : Type} {enc : TypeId × Value → H} {W : World} {base : Nat} {spare : Nat → Bool} {held : Bool}
theorem forces_open {fuel : Nat} {v : Value} {x : DataW H × List MemPlace} (h : DataW.trod enc Tryz.prog W base spare held fuel 23 [v] = some x) : ∃ (l : List Fr) (ad : Option Addr) (c : Nat), v = .slice ad l.length c ∧ FrRow W.heap.size W ad l := by
  rcases open_slice_fields Tryz.underlying23 Tryz.underlying39 (by kernel_rfl) (by kernel_rfl) h with ⟨h0, _⟩ | ⟨a, len, cap, m, D, Pl, hcs, _, hl, hcm, hm, _, hi⟩
  · have hv : v = .slice none 0 0 := by simpa using h0
    exact ⟨[], none, 0, hv, FrRow.nil _ _ _⟩
  · have hv : v = .slice (some a) len cap := by simpa using hcs
    subst hv
    have hml : len ≤ m := by rw [hm]; split <;> omega
    have hall : ∀ i, i < len → ∃ f : Fr, W.cell? (a.add (i * 2 + 0)) = some (.string f.1) ∧ W.cell? (a.add (i * 2 + 1)) = some (.string f.2) := by
      intro i hil
      obtain ⟨ys, n, _, _, _, hf⟩ := hi i (by omega)
      obtain ⟨v0, y0, c0, _, t0⟩ := hf 0 _ rfl
      obtain ⟨s0, e0, _, _⟩ := DataW.trod_string Tryz.underlying22 t0
      simp only [List.cons.injEq, and_true] at e0
      subst e0
      obtain ⟨v1, y1, c1, _, t1⟩ := hf 1 _ rfl
      obtain ⟨s1, e1, _, _⟩ := DataW.trod_string Tryz.underlying22 t1
      simp only [List.cons.injEq, and_true] at e1
      subst e1
      exact ⟨(s0, s1), c0, c1⟩
    rcases Nat.eq_zero_or_pos len with h0 | hpos
    · subst h0
      exact ⟨[], some a, cap, rfl, FrRow.nil _ _ _⟩
    · obtain ⟨f00, hf00, _⟩ := hall 0 hpos
      have hsp := World.cell?_spot hf00
      have hlt : a.block < W.heap.size := cell_ltB hf00
      obtain ⟨b, o, sp⟩ := a
      have : sp = none := by simpa [Addr.add] using hsp
      subst this
      obtain ⟨l, hll, hlp⟩ := list_of ((⟨#[]⟩, ⟨#[]⟩) : Fr) _ len hall
      refine ⟨l, some ⟨b, o, none⟩, cap, by rw [hll], fun i hi2 => ?_⟩
      have h9 := hlp i (by omega)
      simp only [Addr.add_lit] at h9
      refine ⟨b, o, rfl, by simpa [Addr.add] using hlt, ?_⟩
      exact h9
theorem spreads_open {fuel : Nat} {v : Value} {x : DataW H × List MemPlace} (h : DataW.trod enc Tryz.prog W base spare held fuel 24 [v] = some x) : ∃ (l : List Sp) (ad : Option Addr) (c : Nat), v = .slice ad l.length c ∧ SpRow W.heap.size W ad l := by
  rcases open_slice_fields Tryz.underlying24 Tryz.underlying41 (by kernel_rfl) (by kernel_rfl) h with ⟨h0, _⟩ | ⟨a, len, cap, m, D, Pl, hcs, _, hl, hcm, hm, _, hi⟩
  · have hv : v = .slice none 0 0 := by simpa using h0
    exact ⟨[], none, 0, hv, SpRow.nil _ _ _⟩
  · have hv : v = .slice (some a) len cap := by simpa using hcs
    subst hv
    have hml : len ≤ m := by rw [hm]; split <;> omega
    have hall : ∀ i, i < len → ∃ f : Sp, W.cell? (a.add (i * 3 + 0)) = some (.string f.1) ∧ W.cell? (a.add (i * 3 + 1)) = some (.string f.2.1) ∧ W.cell? (a.add (i * 3 + 2)) = some (.string f.2.2) := by
      intro i hil
      obtain ⟨ys, n, _, _, _, hf⟩ := hi i (by omega)
      obtain ⟨v0, y0, c0, _, t0⟩ := hf 0 _ rfl
      obtain ⟨s0, e0, _, _⟩ := DataW.trod_string Tryz.underlying22 t0
      simp only [List.cons.injEq, and_true] at e0
      subst e0
      obtain ⟨v1, y1, c1, _, t1⟩ := hf 1 _ rfl
      obtain ⟨s1, e1, _, _⟩ := DataW.trod_string Tryz.underlying22 t1
      simp only [List.cons.injEq, and_true] at e1
      subst e1
      obtain ⟨v2, y2, c2, _, t2⟩ := hf 2 _ rfl
      obtain ⟨s2, e2, _, _⟩ := DataW.trod_string Tryz.underlying22 t2
      simp only [List.cons.injEq, and_true] at e2
      subst e2
      exact ⟨(s0, s1, s2), c0, c1, c2⟩
    rcases Nat.eq_zero_or_pos len with h0 | hpos
    · subst h0
      exact ⟨[], some a, cap, rfl, SpRow.nil _ _ _⟩
    · obtain ⟨f00, hf00, _⟩ := hall 0 hpos
      have hsp := World.cell?_spot hf00
      have hlt : a.block < W.heap.size := cell_ltB hf00
      obtain ⟨b, o, sp⟩ := a
      have : sp = none := by simpa [Addr.add] using hsp
      subst this
      obtain ⟨l, hll, hlp⟩ := list_of ((⟨#[]⟩, ⟨#[]⟩, ⟨#[]⟩) : Sp) _ len hall
      refine ⟨l, some ⟨b, o, none⟩, cap, by rw [hll], fun i hi2 => ?_⟩
      have h9 := hlp i (by omega)
      simp only [Addr.add_lit] at h9
      refine ⟨b, o, rfl, by simpa [Addr.add] using hlt, ?_⟩
      exact h9
theorem beam_open {r : Reach} {b0 : Nat} {v : Value} {d : DataW H} {p : List MemPlace} (hv : Value.okWide Tryz.prog W r b0 26 v) (h : DataW.Trod enc Tryz.prog W base spare held 26 v d p) :
    ∃ (L l q : ByteArray) (F : List Fr) (S : List Sp) (fa : Option Addr) (fc : Nat) (sa : Option Addr) (sc : Nat), v = beamV L l q fa F.length fc sa S.length sc ∧ FrRow W.heap.size W fa F ∧ SpRow W.heap.size W sa S := by
  obtain ⟨v0, v1, v2, v3, v4, y0, y1, y2, y3, y4, n, rfl, _, _, t0, t1, t2, t3, t4⟩ := open_agg5 Tryz.underlying26 (by kernel_rfl) (by kernel_rfl) hv h
  obtain ⟨s0, e0, _, _⟩ := DataW.trod_string Tryz.underlying22 t0
  obtain ⟨s1, e1, _, _⟩ := DataW.trod_string Tryz.underlying22 t1
  obtain ⟨s2, e2, _, _⟩ := DataW.trod_string Tryz.underlying22 t2
  obtain ⟨F, fa, fc, e3, hF⟩ := forces_open t3
  obtain ⟨S, sa, sc, e4, hS⟩ := spreads_open t4
  simp only [List.cons.injEq, and_true] at e0 e1 e2
  subst e0; subst e1; subst e2; subst e3; subst e4
  exact ⟨s0, s1, s2, F, S, fa, fc, sa, sc, rfl, hF, hS⟩
end
end Go.Proofs.YtpmnhipffkhcpaaGreatDoor
