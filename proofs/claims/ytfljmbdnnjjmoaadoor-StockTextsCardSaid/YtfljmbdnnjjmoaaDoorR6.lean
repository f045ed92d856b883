/-
  The reference's Same, of lists that read alike: the walk.
-/
import Derived.Test.YtfljmbdnnjjmoaaDoorR5
namespace Go.Proofs.YtfljmbdnnjjmoaaDoor
open Go.RowKit Go.KP Go.Shelf

/-- Bars that read alike. -/
structure Alike (a b : Br) : Prop where
  wd : a.wd = b.wd
  dp : a.dp = b.dp
  ln : a.ln = b.ln
  ct : a.ct = b.ct
  cs : a.cs = b.cs
  gs : a.gs = b.gs
set_option maxRecDepth 100000 in
set_option maxHeartbeats 1000000 in
theorem same_true (va vb : Value) (a b : List Br) (B : Nat) (w : World) (h1 : BarsAt B w va a) (h2 : BarsAt B w vb b) (hB : B ≤ w.heap.size) (hl : a.length = b.length) (hnl : b.length ≤ 65536) (h : ∀ i, i < b.length → Alike (bAt a i) (bAt b i)) (hgl : ∀ i, i < b.length → (bAt b i).gs.length ≤ 1000000) :
    Calls Tryd.prog 31 #[va, vb] w fun e w' => e = .returned (.bool true) ∧ ∃ n, w' = w.drewN n := by
  obtain ⟨aa, ca, hva⟩ := SlAt.form h1.1
  obtain ⟨ab, cb, hvb⟩ := SlAt.form h2.1
  subst hva; subst hvb
  obtain ⟨n, hn⟩ : ∃ n, n = b.length := ⟨_, rfl⟩
  have e1 : a.length = n := by omega
  rw [e1] at h1 ⊢
  rw [← hn] at h2 h hgl hnl ⊢
  have H1 := hide h1; have H2 := hide h2; have HA := hide h; have HGL := hide hgl; have HN := hide hn; have HE := hide e1
  clear h1 h2 h hgl hn e1 hl
  have hbe : ((n : Int) != (n : Int)) = false := by simp
  go_enter Tryd.func31, Tryd.ntmps31
  go_wp2_with fail
  go_loopw [5] (fun i wr => ∃ j : Nat, j ≤ n ∧ i = .int .i64 j ∧ Hid (∃ q, wr = w.drewN q)) (fun i _ => n - (intOf i).toNat)
  case atStart => exact ⟨0, Nat.zero_le _, rfl, hide ⟨0, rfl⟩⟩
  case round =>
    obtain ⟨j, hj, rfl, hin⟩ := hrel
    have hb : Below w.heap.size w wr := by
      obtain ⟨q, hq⟩ := hin.out
      rw [hq]
      exact below_drewN (Below.refl _ _) q
    have hsz := hb.size
    have HB := hide hb
    clear hb
    by_cases hlt : j < n
    · have G1 := H1.out.below HB.out hB
      have G2 := H2.out.below HB.out hB
      rcases G1.rows with ⟨_, _, _, h0⟩ | ⟨b1, o1, cap1, hv1, hb1, hc1⟩
      · have := HE.out
        rw [h0] at this
        simp at this
        omega
      rcases G2.rows with ⟨_, _, _, h0⟩ | ⟨b2, o2, cap2, hv2, hb2, hc2⟩
      · have := HN.out
        rw [h0] at this
        simp at this
        omega
      simp only [Value.slice.injEq] at hv1 hv2
      obtain ⟨rfl, t1, rfl⟩ := hv1
      obtain ⟨rfl, t2, rfl⟩ := hv2
      clear t1 t2
      obtain ⟨x1, x2, x3, x4, x5, x6⟩ := hc1 j (by rw [HE.out]; exact hlt)
      obtain ⟨y1, y2, y3, y4, y5, y6⟩ := hc2 j (by rw [← HN.out]; exact hlt)
      have ha := HA.out j hlt
      rw [ha.wd] at x1
      rw [ha.dp] at x2
      rw [ha.ln] at x3
      rw [ha.ct] at x4
      rw [ha.cs] at x5
      obtain ⟨ga1, gc1, hg1⟩ := SlAt.form (G1.2 j (by rw [HE.out]; exact hlt))
      obtain ⟨ga2, gc2, hg2⟩ := SlAt.form (G2.2 j (by rw [← HN.out]; exact hlt))
      have s1 := G1.2 j (by rw [HE.out]; exact hlt)
      have s2 := G2.2 j (by rw [← HN.out]; exact hlt)
      rw [hg1] at x6 s1
      rw [hg2] at y6 s2
      rw [ha.gs] at x6 s1
      have hsg := sameGaps_any (.slice ga1 (bAt b j).gs.length gc1) (.slice ga2 (bAt b j).gs.length gc2) (bAt b j).gs (bAt b j).gs B
      have HSG := hide (fun q => hsg (wr.drewN q) (s1.below (below_drewN (Below.refl wr.heap.size wr) q) (by omega)) (s2.below (below_drewN (Below.refl wr.heap.size wr) q) (by omega)) (show B ≤ wr.heap.size by omega) (HGL.out j hlt))
      obtain ⟨f1, hf1⟩ : ∃ f, f = (bAt b j).wd := ⟨_, rfl⟩
      obtain ⟨f2, hf2⟩ : ∃ f, f = (bAt b j).dp := ⟨_, rfl⟩
      obtain ⟨f3, hf3⟩ : ∃ f, f = (bAt b j).ln := ⟨_, rfl⟩
      obtain ⟨f4, hf4⟩ : ∃ f, f = (bAt b j).ct := ⟨_, rfl⟩
      obtain ⟨f5, hf5⟩ : ∃ f, f = (bAt b j).cs := ⟨_, rfl⟩
      obtain ⟨gl, hgl⟩ : ∃ f, f = (bAt b j).gs.length := ⟨_, rfl⟩
      rw [← hf1] at x1 y1
      rw [← hf2] at x2 y2
      rw [← hf3] at x3 y3
      rw [← hf4] at x4 y4
      rw [← hf5] at x5 y5
      rw [← hgl] at x6 y6 HSG
      have e3 : (j : Int) < (n : Int) := by omega
      have hb1l : b1 < wr.heap.size := by omega
      have hb2l : b2 < wr.heap.size := by omega
      have z1 : (f1 != f1) = false := by simp
      have z2 : (f2 != f2) = false := by simp
      have z3 : (f3 != f3) = false := by simp
      have z4 : (f4 != f4) = false := by simp
      have z5 : (f5 != f5) = false := by simp
      clear hc1 hc2 G1 G2 ha hg1 hg2 s1 s2 hsg hf1 hf2 hf3 hf4 hf5 hgl
      go_wp2_with fail
      go_quiet ((go_at_call 26; exact Calls.quiet_of (HSG.out _)))
      go_wp2_with fail
      go_roundw
      case rel =>
        obtain ⟨q, hq⟩ := hin.out
        exact ⟨j + 1, by omega, by go_num, hide ⟨q + nq, by rw [hq, World.drewN_drewN]⟩⟩
      case measure => simp [intOf]; omega
    · obtain rfl : j = n := by omega
      go_wp2
      go_ret
      exact ⟨rfl, hin.out⟩
end Go.Proofs.YtfljmbdnnjjmoaaDoor
