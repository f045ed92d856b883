/-
  laid: the walk.
-/
import Derived.Test.YtfljmbdnnjjmoaaDoorSR
import Derived.Test.YtfljmbdnnjjmoaaDoorGen2
namespace Go.Proofs.YtfljmbdnnjjmoaaDoor
open Go.RowKit Go.KP Go.Shelf
theorem ret_bool2 {a b : Bool} (h : (a = true) ↔ (b = true)) : Ending.returned (.bool a) = Ending.returned (.bool b) := by rw [Bool.eq_iff_iff.2 h]

set_option maxHeartbeats 400000 in
theorem laid1_any (a b x y : Int) (i : Nat) (A : Option Addr) (n c : Nat) (Bx Bl Bi : Nat) (w : World) (hx : w.heap[Bx]? = some (.cells #[.int .i64 x] 3 (0, 0))) (hl : w.heap[Bl]? = some (.cells #[.slice A n c] 34 (0, 0))) (hi : w.heap[Bi]? = some (.cells #[.int .i64 i] 3 (0, 0)))
    (hin : i < n) (hls : ∃ b o, A = some ⟨b, o, none⟩ ∧ b < w.heap.size ∧ w.cell? ⟨b, o + i, none⟩ = some (.int .i64 y)) (hx1 : -1000000 ≤ x) (hx2 : x ≤ 1000000) (hy1 : 0 ≤ y) (hy2 : y ≤ 1000000) :
    Calls Tryd.prog 53 #[.agg #[.int .i64 a, .int .i64 b], .pointer (some ⟨Bx, 0, none⟩), .pointer (some ⟨Bl, 0, none⟩), .pointer (some ⟨Bi, 0, none⟩)] w (Ret w (.bool (inPart x y (a, b)))) := by
  obtain ⟨bl, ol, rfl, hbl, hcell⟩ := hls
  have c0 := cell_blk hx 0
  have c1 := cell_blk hl 0
  have c2 := cell_blk hi 0
  have l0 := lt_blk hx
  have l1 := lt_blk hl
  have l2 := lt_blk hi
  have e2 : IntKind.i64.wrap (x + y) = x + y := IntWalk.i64_in _ (by omega)
  have e3 : (i : Int) < n := by omega
  simp at c0 c1 c2
  clear hx hl hi
  by_cases h : a ≤ x
  · go_enter Tryd.func53, Tryd.ntmps53
    go_wp2_with fail
    go_quiet (fail)
    go_wp2
    all_goals
      go_ret
      refine ⟨ret_bool2 ?_, below_drewN ((Below.refl _ _).alloc (Nat.le_refl _) _) _⟩
    all_goals
      simp [inPart, h]
      try omega
  · have hd : decide (a ≤ x) = false := by simpa using h
    go_enter Tryd.func53, Tryd.ntmps53
    go_wp2_with fail
    go_quiet (fail)
    go_wp2
    go_ret
    refine ⟨ret_bool2 ?_, below_drewN ((Below.refl _ _).alloc (Nat.le_refl _) _) _⟩
    simp [inPart]
    omega
theorem laid1_answers (x y : Int) (i : Nat) (A : Option Addr) (n c : Nat) (Bx Bl Bi : Nat) (w : World) (hx : w.heap[Bx]? = some (.cells #[.int .i64 x] 3 (0, 0))) (hl : w.heap[Bl]? = some (.cells #[.slice A n c] 34 (0, 0))) (hi : w.heap[Bi]? = some (.cells #[.int .i64 i] 3 (0, 0)))
    (hin : i < n) (hls : ∃ b o, A = some ⟨b, o, none⟩ ∧ b < w.heap.size ∧ w.cell? ⟨b, o + i, none⟩ = some (.int .i64 y)) (hx1 : -1000000 ≤ x) (hx2 : x ≤ 1000000) (hy1 : 0 ≤ y) (hy2 : y ≤ 1000000) :
    Answers 53 #[.pointer (some ⟨Bx, 0, none⟩), .pointer (some ⟨Bl, 0, none⟩), .pointer (some ⟨Bi, 0, none⟩)] (fun x : Int × Int => .agg #[.int .i64 x.1, .int .i64 x.2]) (inPart x y) w :=
  ⟨enters_of Tryd.func53 (by kernel_rfl) rfl, fun p W hW => laid1_any p.1 p.2 x y i A n c Bx Bl Bi W (below_blk hW hx (lt_blk hx)) (below_blk hW hl (lt_blk hl)) (below_blk hW hi (lt_blk hi)) hin (by
    obtain ⟨b, o, h1, h2, h3⟩ := hls
    exact ⟨b, o, h1, by have := hW.size; omega, (hW.cell (p := ⟨b, o + i, none⟩) h2).trans h3⟩) hx1 hx2 hy1 hy2⟩

/-- The arguments of 'laid'. -/
abbrev IntsIn (B : Nat) (w : World) (A : Option Addr) (n : Nat) (ls : List Int) : Prop := ∀ k, k < n → ∃ b o, A = some ⟨b, o, none⟩ ∧ b < B ∧ w.cell? ⟨b, o + k, none⟩ = some (.int .i64 (ls[k]?.getD 0))
abbrev GapsIn (B : Nat) (w : World) (A : Option Addr) (n : Nat) (gs : List (Int × Int)) : Prop := ∀ k, k < n → ∃ b o, A = some ⟨b, o, none⟩ ∧ b < B ∧ w.cell? ⟨b, o + k * 2, none⟩ = some (.int .i64 (gF gs k)) ∧ w.cell? ⟨b, o + k * 2 + 1, none⟩ = some (.int .i64 (gT gs k))
theorem IntsIn.below {B n0 : Nat} {w w2 : World} {A : Option Addr} {n : Nat} {ls : List Int} (h : IntsIn B w A n ls) (hb : Below n0 w w2) (hB : B ≤ n0) : IntsIn B w2 A n ls := fun k hk => by
  obtain ⟨b, o, h1, h2, h3⟩ := h k hk
  exact ⟨b, o, h1, h2, (hb.cell (p := ⟨b, o + k, none⟩) (by simp; omega)).trans h3⟩
theorem GapsIn.below {B n0 : Nat} {w w2 : World} {A : Option Addr} {n : Nat} {gs : List (Int × Int)} (h : GapsIn B w A n gs) (hb : Below n0 w w2) (hB : B ≤ n0) : GapsIn B w2 A n gs := fun k hk => by
  obtain ⟨b, o, h1, h2, h3, h4⟩ := h k hk
  exact ⟨b, o, h1, h2, (hb.cell (p := ⟨b, o + k * 2, none⟩) (by simp; omega)).trans h3, (hb.cell (p := ⟨b, o + k * 2 + 1, none⟩) (by simp; omega)).trans h4⟩
theorem IntsIn.mono {B B2 : Nat} {w : World} {A : Option Addr} {n : Nat} {ls : List Int} (h : IntsIn B w A n ls) (hB : B ≤ B2) : IntsIn B2 w A n ls := fun k hk => by
  obtain ⟨b, o, h1, h2, h3⟩ := h k hk
  exact ⟨b, o, h1, by omega, h3⟩
theorem GapsIn.mono {B B2 : Nat} {w : World} {A : Option Addr} {n : Nat} {gs : List (Int × Int)} (h : GapsIn B w A n gs) (hB : B ≤ B2) : GapsIn B2 w A n gs := fun k hk => by
  obtain ⟨b, o, h1, h2, h3⟩ := h k hk
  exact ⟨b, o, h1, by omega, h3⟩
/-- In some part, or in none: the numbers. -/
theorem partOf_ge (ps : List (Int × Int)) (x n : Int) : -1 ≤ partOf ps x n := by
  unfold partOf
  rcases idx_spec (inPart x n) ps with ⟨h, _⟩ | ⟨j, _, h, _⟩ <;> rw [h] <;> omega
theorem lastOf_succ (ps : List (Int × Int)) (ls ats : List Int) (i : Nat) : lastOf ps ls ats (i + 1) = partOf ps (ats[i]?.getD 0) (ls[i]?.getD 0) := by simp [lastOf]
theorem range_all_succ (f : Nat → Bool) (i : Nat) : (List.range (i + 1)).all f = ((List.range i).all f && f i) := by
  rw [List.range_succ, List.all_append]
  simp
theorem laidB_false {ps : List (Int × Int)} {ls ats : List Int} {k : Int} {i : Nat} (hi : i < ats.length) (h : laidAt ps ls ats k i = false) : laidB ps ls ats k = false := by
  unfold laidB
  rw [Bool.and_eq_false_iff]
  right
  rw [List.all_eq_false]
  exact ⟨i, List.mem_range.2 hi, by rw [h]; simp⟩

set_option maxRecDepth 100000 in
set_option maxHeartbeats 2000000 in
theorem laid_any (A1 A2 A3 : Option Addr) (n1 n2 n3 c1 c2 c3 : Nat) (ps : List (Int × Int)) (ls xs : List Int) (k : Int) (B : Nat) (w : World) (hB : B ≤ w.heap.size) (h1 : GapsIn B w A1 n1 ps) (h2 : IntsIn B w A2 n2 ls) (h3 : IntsIn B w A3 n3 xs)
    (l1 : ps.length = n1) (l2 : ls.length = n2) (l3 : xs.length = n3) (b1 : n1 ≤ 1000000) (b2 : n2 ≤ 1000000) (hls : ∀ i, i < n2 → 0 ≤ ls[i]?.getD 0 ∧ ls[i]?.getD 0 ≤ 1000000) (hxs : ∀ i, i < n3 → -1000000 ≤ xs[i]?.getD 0 ∧ xs[i]?.getD 0 ≤ 1000000) (hk0 : 0 ≤ k) (hk1 : k ≤ 1000) :
    Calls Tryd.prog 18 #[.slice A1 n1 c1, .slice A2 n2 c2, .slice A3 n3 c3, .int .i64 k] w (Ret w (.bool (laidB ps ls xs k))) := by
  have H1 := hide h1; have H2 := hide h2; have H3 := hide h3; have L1 := hide l1; have L2 := hide l2; have L3 := hide l3; have HLS := hide hls; have HXS := hide hxs
  clear h1 h2 h3 l1 l2 l3 hls hxs
  by_cases hne : n2 = n3
  · subst hne
    have hbe : ((n2 : Int) != (n2 : Int)) = false := by simp
    go_enter Tryd.func18, Tryd.ntmps18
    go_wp2_with fail
    obtain ⟨m1, m2, m3⟩ := heap1 w (.cells #[.slice A2 n2 c2] 34)
    obtain ⟨w0, hw0⟩ : ∃ w0, w.alloc (.cells #[.slice A2 n2 c2] 34) = w0 := ⟨_, rfl⟩
    rw [hw0] at m1 m2 m3 ⊢
    have HP1 := hide (H1.out.below m3 hB); have HP2 := hide (H2.out.below m3 hB); have HP3 := hide (H3.out.below m3 hB)
    have M1 := hide m1; have M3 := hide m3
    clear hw0 m1 m3 H1 H2 H3
    go_loopw [9, 20] (fun lt i wr => ∃ j : Nat, j ≤ n2 ∧ i = .int .i64 j ∧ lt = .int .i64 (lastOf ps ls xs j) ∧ Below w0.heap.size w0 wr ∧ Hid ((List.range j).all (laidAt ps ls xs k) = true)) (fun _ i _ => n2 - (intOf i).toNat)
    case atStart => exact ⟨0, Nat.zero_le _, rfl, rfl, Below.refl _ _, hide rfl⟩
    case round =>
      obtain ⟨j, hj, rfl, rfl, hb, hinv⟩ := hrel
      have HB := hide hb
      have hsz := hb.size
      clear hb
      by_cases hlt : j < n2
      · obtain ⟨bx, ox, rfl, hbx, hcx⟩ := HP3.out.below HB.out (by omega) j hlt
        have hbx2 : bx < wr.heap.size := by omega
        have e3 : (j : Int) < (n2 : Int) := by omega
        obtain ⟨x, hx⟩ : ∃ x, x = xs[j]?.getD 0 := ⟨_, rfl⟩
        obtain ⟨y, hy⟩ : ∃ y, y = ls[j]?.getD 0 := ⟨_, rfl⟩
        have bx1 := HXS.out j hlt
        have by1 := HLS.out j hlt
        rw [← hx] at hcx bx1
        rw [← hy] at by1
        obtain ⟨by1a, by1b⟩ := by1
        obtain ⟨bx1a, bx1b⟩ := bx1
        have HX := hide hx; have HY := hide hy
        clear hx hy
        go_wp2_with fail
        obtain ⟨g1, g2, g3, g4⟩ := heap2 wr (.cells #[.int .i64 j] 3) (.cells #[.int .i64 x] 3)
        obtain ⟨w1, hw1⟩ : ∃ w1, (wr.alloc (.cells #[.int .i64 j] 3)).alloc (.cells #[.int .i64 x] 3) = w1 := ⟨_, rfl⟩
        rw [hw1] at g1 g2 g3 g4 ⊢
        have hB1 := HB.out.trans (g4.mono hsz)
        have m1 := below_blk hB1 M1.out (by omega)
        have HIX := hide (indexGap_any 53 _ (inPart x y) A1 n1 c1 ps w1 L1.out b1 (fun k hk => by
          obtain ⟨b, o, q1, q2, q3⟩ := HP1.out.below hB1 (by omega) k hk
          exact ⟨b, o, q1, by omega, q3⟩) (laid1_answers x y j A2 n2 c2 (wr.heap.size + 1) w.heap.size wr.heap.size w1 g2 m1 g1 hlt (by
            obtain ⟨b, o, q1, q2, q3⟩ := HP2.out.below hB1 (by omega) j hlt
            rw [← HY.out] at q3
            exact ⟨b, o, q1, by omega, q3⟩) bx1a bx1b by1a by1b))
        have HB1 := hide hB1; have G1 := hide g1; have G2 := hide g2; have M2 := hide m1
        clear hw1 g1 g2 g4 hB1 m1
        refine HIX.out.mono ?_
        rintro e w2 ⟨rfl, hb2⟩
        have hs2 := hb2.size
        have g1 := below_blk hb2 G1.out (by omega)
        have g2 := below_blk hb2 G2.out (by omega)
        have m1 := below_blk hb2 M2.out (by omega)
        have hB2 := HB1.out.trans (hb2.mono (by omega))
        obtain ⟨K, hK⟩ : ∃ K, K = idx (inPart x y) ps := ⟨_, rfl⟩
        rw [← hK]
        have hK2 : K = partOf ps x y := hK
        have hKge : -1 ≤ K := by rw [hK2]; exact partOf_ge _ _ _
        have HK := hide hK2
        have HB2 := hide hB2
        have hb3 := hb2
        clear hK hK2 hB2 HIX HB1 G1 G2 M2 hb2 hb3
        have hfalse : laidAt ps ls xs k j = false → laidB ps ls xs k = false := fun h => laidB_false (by rw [L3.out]; exact hlt) h
        have HFL := hide hfalse
        have hnext : laidAt ps ls xs k j = true → (List.range (j + 1)).all (laidAt ps ls xs k) = true := fun h => by rw [range_all_succ, hinv.out, h]; rfl
        have HNX := hide hnext
        have hlast : lastOf ps ls xs (j + 1) = K := by rw [lastOf_succ, HK.out, HX.out, HY.out]
        have HLA := hide hlast
        have c1 := cell_blk g1 0
        have c2 := cell_blk g2 0
        have c3 := cell_blk m1 0
        have l1 := lt_blk g1
        have l2 := lt_blk g2
        have l3 := lt_blk m1
        simp at c1 c2 c3
        clear hfalse hnext hlast g1 g2 m1
        by_cases hneg : K < 0
        · have hAt : laidAt ps ls xs k j = false := by
            unfold laidAt
            rw [← HX.out, ← HY.out, ← HK.out]
            simp [hneg]
          have HF := hide (HFL.out hAt)
          clear hAt
          go_wp2_with fail
          go_quiet (fail)
          go_wp2
          go_ret
          refine ⟨by rw [HF.out]; rfl, ?_⟩
          exact M3.out.trans ((below_drewN HB2.out _).mono (by omega))
        · have hneg' : decide (K < 0) = false := by simpa using hneg
          have hfinB : ∀ nq, Below w0.heap.size w0 (w2.drewN nq) := fun nq => below_drewN HB2.out nq
          have HFB := hide hfinB
          clear hfinB
          by_cases hj0 : j = 0
          · have hAt : laidAt ps ls xs k j = true := by
              unfold laidAt
              rw [← HX.out, ← HY.out, ← HK.out]
              simp [hj0]
              omega
            have HN := hide (HNX.out hAt)
            have c1z : w2.cell? ⟨wr.heap.size, 0, none⟩ = some (.int .i64 0) := by rw [c1, hj0]; rfl
            clear hAt hj0 c1
            go_wp2_with fail
            go_quiet (fail)
            go_wp2
            go_roundw
            case rel => exact ⟨j + 1, by omega, by go_num, by rw [HLA.out], HFB.out _, HN⟩
            case measure => simp [intOf]; omega
          · obtain ⟨i, rfl⟩ : ∃ i, j = i + 1 := ⟨j - 1, by omega⟩
            obtain ⟨b3, o3, q1, q2, q3⟩ := HP3.out.below HB2.out (by omega) i (by omega)
            obtain ⟨b2', o2, q4, q5, q6⟩ := HP2.out.below HB2.out (by omega) i (by omega)
            cases q1
            cases q4
            obtain ⟨px, hpx⟩ : ∃ px, px = xs[i]?.getD 0 := ⟨_, rfl⟩
            obtain ⟨py, hpy⟩ : ∃ py, py = ls[i]?.getD 0 := ⟨_, rfl⟩
            have pbx := HXS.out i (by omega)
            have pby := HLS.out i (by omega)
            rw [← hpx] at q3 pbx
            rw [← hpy] at q6 pby
            obtain ⟨pbx1, pbx2⟩ := pbx
            obtain ⟨pby1, pby2⟩ := pby
            obtain ⟨Lv, hLv⟩ : ∃ Lv, Lv = lastOf ps ls xs (i + 1) := ⟨_, rfl⟩
            rw [← hLv]
            have HPX := hide hpx; have HPY := hide hpy; have HLV := hide hLv
            have l4 : bx < w2.heap.size := by omega
            have l5 : b2' < w2.heap.size := by omega
            have hAtE : laidAt ps ls xs k (i + 1) = !(decide (K < 0) || (decide (0 < i + 1) && (decide (x < px + py) || (decide (K = Lv) && decide (x < px + py + k))))) := by
              unfold laidAt
              rw [← HX.out, ← HY.out, ← HK.out, ← HLV.out]
              simp only [Nat.add_sub_cancel]
              rw [← HPX.out, ← HPY.out]
            have HAE := hide hAtE
            have e2 : IntKind.i64.wrap (i : Int) = i := IntWalk.i64_in _ (by omega)
            have e4 : (0 : Int) < (i : Int) + 1 := by omega
            have e5 : IntKind.i64.wrap (px + py) = px + py := IntWalk.i64_in _ (by omega)
            have e6 : IntKind.i64.wrap (px + py + k) = px + py + k := IntWalk.i64_in _ (by omega)
            have e7 : (i : Int) < (n2 : Int) := by omega
            clear hpx hpy hLv hAtE hcx hbx2
            by_cases hA : x < px + py
            · have hAt : laidAt ps ls xs k (i + 1) = false := by rw [HAE.out]; simp [hA]
              have HF := hide (HFL.out hAt)
              clear hAt
              go_wp2_with fail
              go_quiet (fail)
              go_wp2
              go_ret
              exact ⟨by rw [HF.out]; rfl, M3.out.trans ((HFB.out _).mono (by omega))⟩
            · have hAd : decide (x < px + py) = false := by simpa using hA
              by_cases hE : K = Lv
              · subst hE
                have hEb : (K == K) = true := by simp
                by_cases hC : x < px + py + k
                · have hAt : laidAt ps ls xs k (i + 1) = false := by rw [HAE.out]; simp [hC]
                  have HF := hide (HFL.out hAt)
                  clear hAt
                  go_wp2_with fail
                  go_quiet (fail)
                  go_wp2
                  go_ret
                  exact ⟨by rw [HF.out]; rfl, M3.out.trans ((HFB.out _).mono (by omega))⟩
                · have hAt : laidAt ps ls xs k (i + 1) = true := by rw [HAE.out]; simp [hC, hA, hneg]
                  have HN := hide (HNX.out hAt)
                  have hCd : decide (x < px + py + k) = false := by simpa using hC
                  clear hAt
                  go_wp2_with fail
                  go_quiet (fail)
                  go_wp2
                  go_roundw
                  case rel => exact ⟨i + 1 + 1, by omega, by go_num, by rw [HLA.out], HFB.out _, HN⟩
                  case measure => simp [intOf]; omega
              · have hEb : (K == Lv) = false := by simpa using hE
                have hAt : laidAt ps ls xs k (i + 1) = true := by rw [HAE.out]; simp [hE, hA, hneg]
                have HN := hide (HNX.out hAt)
                clear hAt hE
                go_wp2_with fail
                go_quiet (fail)
                go_wp2
                go_roundw
                case rel => exact ⟨i + 1 + 1, by omega, by go_num, by rw [HLA.out], HFB.out _, HN⟩
                case measure => simp [intOf]; omega
      · obtain rfl : j = n2 := by omega
        have hfin : laidB ps ls xs k = true := by
          unfold laidB
          rw [L2.out, L3.out, hinv.out]
          simp
        have HF := hide hfin
        clear hfin
        go_wp2
        go_ret
        exact ⟨by rw [HF.out]; rfl, M3.out.trans (HB.out.mono (by omega))⟩
  · have hbe : ((n2 : Int) != (n3 : Int)) = true := by simp; omega
    have hfin : laidB ps ls xs k = false := by
      unfold laidB
      rw [L2.out, L3.out]
      simp [hne]
    have HF := hide hfin
    clear hfin hne
    go_enter Tryd.func18, Tryd.ntmps18
    go_wp2
    go_ret
    exact ⟨by rw [HF.out]; rfl, (Below.refl _ _).alloc (Nat.le_refl _) _⟩
end Go.Proofs.YtfljmbdnnjjmoaaDoor
