/-
  Texts laid together.
-/
import Derived.Test.YtklgpilgalfckaaGreatDoorMJ16
import Derived.Test.YtklgpilgalfckaaGreatDoorMJ2
import Derived.Deep.DeepCutAuto
import Derived.Stop.RegionWithIn
set_option maxRecDepth 100000
set_option maxHeartbeats 16000000
namespace Go.Proofs.YtklgpilgalfckaaGreatDoor
open Go.RowKit Go.KP Go.KI Go.Shelf
attribute [local go_sem] Oper.semAt_some

abbrev roofV (A : Option Addr) (n c : Nat) : Value := .agg #[.slice none 0 0, .slice none 0 0, .slice none 0 0, .slice A n c]
abbrev roofO (A : Option Addr) (n c : Nat) : Obj := .cells #[.slice none 0 0, .slice none 0 0, .slice none 0 0, .slice A n c] 45
def AllAt (w : World) (S : List Sz3) (L : List Ln) (e : Ending) (w2 : World) : Prop :=
  ∃ v, e = .returned (.tuple #[v, .int .i64 (allE S L)]) ∧ SlAt w2.heap.size w2 11 v (allX S L).length (mcells (allX S L)) ∧ Below w.heap.size w w2
theorem all_fail {w w2 : World} {S : List Sz3} {L : List Ln} {E : Int} (h : allE S L = E) (hE : E ≠ 0) (hb : Below w.heap.size w w2) : AllAt w S L (.returned (.tuple #[.slice none 0 0, .int .i64 E])) w2 := by
  refine ⟨_, by rw [h], ?_, hb⟩
  have hx : allX S L = [] := by unfold allX; rw [if_neg (by rw [h]; exact hE)]
  rw [hx]
  exact SlAt.nil _ _ _
theorem all_ret {w w2 : World} {S : List Sz3} {L : List Ln} {v : Value} {base : Nat} {e : TypeId} (hv : validS S = true) (h : errL S L = 0) (ho : w2.ownsRow base e 11 v (outL S L).length (mcells (outL S L))) (hb : Below w.heap.size w w2) : AllAt w S L (.returned (.tuple #[v, .int .i64 0])) w2 := by
  have h0 : allE S L = 0 := by unfold allE; rw [if_pos hv]; exact h
  have hx : allX S L = outL S L := by unfold allX; rw [if_pos h0]
  refine ⟨v, by rw [h0], ?_, hb⟩
  rw [hx]
  exact SlAt.of_owns ho
theorem ofV_form (l : Ln) (wd dp : Int) : ∃ (k f o : Int) (a b : S3) (x y : Int), ofV l wd dp = memTV k f o a b x y ∧
    (ofE l wd dp = 0 → [.int .i64 k, .int .i64 f, .int .i64 o, .string a.x, .string a.y, .string a.z, .string b.x, .string b.y, .string b.z, .int .i64 x, .int .i64 y] = mbCs (l, wd, dp)) := by
  unfold ofV
  split
  · exact ⟨_, _, _, _, _, _, _, rfl, fun _ => rfl⟩
  · next h => exact ⟨0, 0, 0, s30, s30, 0, 0, rfl, fun e => absurd e h⟩
theorem info32 : (Tryz.prog.info? 32).map (fun i => (i.zero, i.size, i.bytes)) = some (some mem0V, 11, 136) := by kernel_rfl
theorem allE_bad {S : List Sz3} {L : List Ln} (h : validS S = false) : allE S L = 1 := by unfold allE; rw [h]; rfl
theorem allE_err {S : List Sz3} {L : List Ln} (h : validS S = true) : allE S L = errL S L := by unfold allE; rw [if_pos h]
theorem r28All_any (A : Option Addr) (n c : Nat) (L : List Ln) (A2 : Option Addr) (m c2 : Nat) (S : List Sz3) (B : Nat) (w : World) (hB : B ≤ w.heap.size) (hT : PQ B w) (hn : L.length = n) (hm : S.length = m) (h60 : n ≤ 60) (h14 : m ≤ 1000000)
    (hf : fewL L) (hc : LinesAt w A L) (hc2 : SizesAt w A2 S) :
    Calls Tryz.prog 11 #[roofV A n c, .slice A2 m c2] w (AllAt w S L) := by
  have HT := hide hT
  obtain ⟨W0, hW0⟩ : ∃ W0, W0 = w.alloc (roofO A n c) := ⟨_, rfl⟩
  have X0 := hide (heap1 w (roofO A n c))
  rw [← hW0] at X0
  have HC := hide (hc.on X0.out.2.2); have HN := hide hn; have HM := hide hm; have HF := hide hf
  have HC2 := hide (hc2.on X0.out.2.2)
  have HI := hide (show validS S = validFrom (S.take 0) (S.drop 0) from rfl)
  have l0 := X0.out.2.1
  clear hc hc2 hn hm hT hf
  go_enter Tryz.func11, Tryz.ntmps11
  go_wp2_with fail
  rw [← hW0]
  clear hW0
  go_loopw [6] (fun i wr => ∃ k : Nat, k ≤ m ∧ i = .int .i64 k ∧ Below W0.heap.size W0 wr ∧ Hid (validS S = validFrom (S.take k) (S.drop k))) (fun i _ => m - (intOf i).toNat)
  case atStart => exact ⟨0, Nat.zero_le _, rfl, Below.refl _ _, HI⟩
  case round =>
    obtain ⟨k, hk, rfl, hb, hinv⟩ := hrel
    by_cases hlt : k < m
    · have hki : (k : Int) < (m : Int) := by omega
      obtain ⟨b, o, rfl, hbl, hc1, hc2, hc3⟩ := HC2.out k (by rw [HM.out]; exact hlt)
      have r1 := (hb.cell (p := ⟨b, o + k * 3, none⟩) hbl).trans hc1
      have r2 := (hb.cell (p := ⟨b, o + k * 3 + 1, none⟩) hbl).trans hc2
      have r3 := (hb.cell (p := ⟨b, o + k * 3 + 2, none⟩) hbl).trans hc3
      have hl : k < S.length := by rw [HM.out]; exact hlt
      have hst : validFrom (S.take k) (S.drop k) = validFrom (S.take k) (zAt S k :: S.drop (k + 1)) := by
        rw [List.drop_eq_getElem_cons hl]
        simp [zAt, hl]
      have htk : S.take k ++ [zAt S k] = S.take (k + 1) := (take_snoc hl).symm
      have hsw := size_ways (S.take k) (S.drop (k + 1)) (zAt S k)
      rw [← hst, htk, ← hinv.out] at hsw
      clear hst htk hc1 hc2 hc3 hl
      obtain ⟨z, hz⟩ : ∃ z, z = zAt S k := ⟨_, rfl⟩
      rw [← hz] at r1 r2 r3 hsw
      clear hz
      have X1 := hide (heap1 wr (szO z))
      have HB0 := hide (hb.trans (X1.out.2.2.mono hb.size))
      have HBW := hide (X0.out.2.2.trans (HB0.out.mono X0.out.2.2.size))
      have HS1 := hide (fun w => r28size_at z.2.1 w)
      have HS2 := hide (fun w => r28size_at z.2.2 w)
      rcases hsw with ⟨h1, e⟩ | ⟨h1, h2, h3, e⟩ | ⟨h1, h2, h3, h4, h5, e⟩ | ⟨h1, h2, h3, h4, h5, h6, h7⟩
      · have HE := hide (allE_bad (L := L) e)
        clear e
        rcases h1 with h1 | ⟨h1, h2⟩
        · go_wp2_with fail
          refine bodyPost_ret (results_tmp2 rfl _ _ _) rfl ?_
          exact all_fail HE.out (by decide) HBW.out
        · have g1 := eq_false h1
          clear h1
          go_wp2_with fail
          refine bodyPost_ret (results_tmp2 rfl _ _ _) rfl ?_
          exact all_fail HE.out (by decide) HBW.out
      · have HE := hide (allE_bad (L := L) e)
        have g1 : (z.1 < 1) = False := eq_false (by omega)
        have g2 : (12 < z.1) = False := eq_false (by omega)
        rw [decide_eq_false (by omega)] at HS1
        clear e h1 h2 h3
        go_wp2_with fail
        refine (HS1.out _).mono ?_
        rintro e w' ⟨rfl, rfl⟩
        go_wp2_with fail
        refine bodyPost_ret (results_tmp2 rfl _ _ _) rfl ?_
        exact all_fail HE.out (by decide) HBW.out
      · have HE := hide (allE_bad (L := L) e)
        have g1 : (z.1 < 1) = False := eq_false (by omega)
        have g2 : (12 < z.1) = False := eq_false (by omega)
        rw [decide_eq_true (by omega)] at HS1
        rw [decide_eq_false (by omega)] at HS2
        clear e h1 h2 h3 h4 h5
        go_wp2_with fail
        refine (HS1.out _).mono ?_
        rintro e w' ⟨rfl, rfl⟩
        go_wp2_with fail
        refine (HS2.out _).mono ?_
        rintro e w' ⟨rfl, rfl⟩
        go_wp2_with fail
        refine bodyPost_ret (results_tmp2 rfl _ _ _) rfl ?_
        exact all_fail HE.out (by decide) HBW.out
      · have g1 : (z.1 < 1) = False := eq_false (by omega)
        have g2 : (12 < z.1) = False := eq_false (by omega)
        rw [decide_eq_true (by omega)] at HS1
        rw [decide_eq_true (by omega)] at HS2
        have H7 := hide h7
        clear h1 h2 h3 h4 h5 h6 h7
        go_wp2_with fail
        refine (HS1.out _).mono ?_
        rintro e w' ⟨rfl, rfl⟩
        go_wp2_with fail
        refine (HS2.out _).mono ?_
        rintro e w' ⟨rfl, rfl⟩
        go_wp2_with fail
        have HZ := hide X1.out.1
        obtain ⟨W1, hW1⟩ : ∃ W1, W1 = wr.alloc (szO z) := ⟨_, rfl⟩
        rw [← hW1] at HZ HB0 HBW ⊢
        obtain ⟨D, hD⟩ : ∃ D, D = wr.heap.size := ⟨_, rfl⟩
        have HD := hide (show W1.heap.size = D + 1 by rw [hW1, hD]; simp)
        rw [← hD] at HZ ⊢
        clear hW1 X1 r1 r2 r3 g1 g2 HS1 HS2 hD hb hbl
        go_loopw [8] (fun i wq => ∃ j : Nat, j ≤ k ∧ i = .int .i64 j ∧ Hid (Below W1.heap.size W1 wq) ∧ Hid (∀ i, i < j → (zAt S i).1 ≠ z.1)) (fun i _ => k - (intOf i).toNat)
        case atStart => exact ⟨0, Nat.zero_le _, rfl, Below.refl _ _, hide fun i hi => absurd hi (by omega)⟩
        case round =>
          obtain ⟨j, hj, rfl, hbq, hno⟩ := hrel
          by_cases hjk : j < k
          · have hji : (j : Int) < (k : Int) := by omega
            have hjm : j < m := by omega
            obtain ⟨b', o', hA, hbl, hc1, _, _⟩ := HC2.out j (by rw [HM.out]; exact hjm)
            obtain ⟨rfl, rfl⟩ : b' = b ∧ o' = o := by simpa using hA.symm
            have hbw : b' < W1.heap.size := Nat.lt_of_lt_of_le hbl HB0.out.size
            have q1 := (hbq.out.cell (p := ⟨b', o' + j * 3, none⟩) hbw).trans ((HB0.out.cell (p := ⟨b', o' + j * 3, none⟩) hbl).trans hc1)
            have G := hide (below_blk hbq.out HZ.out (by have := HD.out; omega))
            have d0 := cell_blk G.out 0
            have ld := lt_blk G.out
            obtain ⟨y, hy⟩ : ∃ y, y = (zAt S j).1 := ⟨_, rfl⟩
            have HY := hide hy
            rw [← hy] at q1
            clear hA hc1 hy hbl hbw
            have HBQ := hide (HBW.out.trans (hbq.out.mono HBW.out.size))
            by_cases hyz : y = z.1
            · have hE : allE S L = 1 := allE_bad (by
                rcases H7.out with h | h
                · exact h.2
                · exfalso
                  have h1 := List.any_eq_false.1 h.1 (zAt S j) (by
                    have : zAt (S.take k) j = zAt S j := by
                      simp only [zAt, List.getD_eq_getElem?_getD]
                      rw [List.getElem?_take_of_lt hjk]
                    rw [← this]
                    exact zAt_mem (by rw [List.length_take, HM.out]; omega))
                  exact h1 (decide_eq_true (HY.out.symm.trans hyz)))
              have HE := hide hE
              have e1 : (y == z.1) = true := by simpa using hyz
              clear hE hyz
              go_wp2_with fail
              go_quiet (fail)
              have HB2 := hide (below_drewN HBQ.out nq)
              clear q1 d0 ld
              go_wp2_with fail
              refine bodyPost_ret (results_tmp2 rfl _ _ _) rfl ?_
              exact all_fail HE.out (by decide) HB2.out
            · have e1 : (y == z.1) = false := by simpa using hyz
              have HNE := hide hyz
              clear hyz
              go_wp2_with fail
              go_quiet (fail)
              have HB2 := hide (below_drewN hbq.out nq)
              clear q1 d0 ld
              go_wp2_with fail
              go_roundw
              case rel => exact ⟨j + 1, by omega, by go_num, HB2, hide fun i hi => by
                rcases Nat.lt_or_ge i j with h | h
                · exact hno.out i h
                · rw [show i = j by omega, ← HY.out]; exact HNE.out⟩
              case measure => simp [intOf]; omega
          · have hji : ((j : Int) < (k : Int)) = False := eq_false (by omega)
            have hE : validS S = validFrom (S.take (k + 1)) (S.drop (k + 1)) := by
              rcases H7.out with h | h
              · exfalso
                obtain ⟨s, hs, hs2⟩ := List.any_eq_true.1 h.1
                obtain ⟨i, hi, e⟩ := List.getElem_of_mem hs
                rw [List.length_take] at hi
                have h1 := hno.out i (by omega)
                apply h1
                have : zAt S i = s := by
                  rw [← e]
                  have : i < S.length := by omega
                  simp [zAt, this]
                rw [this]
                simpa using hs2
              · exact h.2
            have HE := hide hE
            have HB2 := hide (HB0.out.trans (hbq.out.mono HB0.out.size))
            clear hE hjk
            go_wp2_with fail
            go_roundw
            case rel => exact ⟨k + 1, by omega, by go_num, HB2.out, HE⟩
            case measure => simp [intOf]; omega
    · have hki : ((k : Int) < (m : Int)) = False := eq_false (by omega)
      have hv : validS S = true := by
        have h := hinv.out
        rw [List.drop_of_length_le (by have := HM.out; omega)] at h
        rw [h]
        rfl
      have HV := hide hv
      have HO := hide (valid_once0 hv)
      have HB1 := hide hb
      have HBW1 := hide (X0.out.2.2.trans (hb.mono X0.out.2.2.size))
      have G0 := hide (below_blk hb X0.out.1 (lt_blk X0.out.1))
      clear hv hlt
      go_wp2_with fail
      have XE := hide (heap1 wr (.cells #[] 32))
      have HB2 := hide (HB1.out.trans (XE.out.2.2.mono HB1.out.size))
      have G02 := hide (below_blk XE.out.2.2 G0.out (lt_blk G0.out))
      have HOW := hide (show (wr.alloc (.cells #[] 32)).ownsRow W0.heap.size 32 11 (.slice (some ⟨wr.heap.size, 0, none⟩) 0 0) 0 [] from
        ⟨rfl, .inr ⟨wr.heap.size, 0, #[], rfl, HB1.out.size, XE.out.1, Nat.le_refl _, by simp only [maxLen]; omega, rfl, rfl⟩⟩)
      obtain ⟨W1, hW1⟩ : ∃ W1, W1 = wr.alloc (.cells #[] 32) := ⟨_, rfl⟩
      rw [← hW1] at HB2 G02 HOW ⊢
      obtain ⟨D, hD⟩ : ∃ D, D = wr.heap.size := ⟨_, rfl⟩
      rw [← hD] at HOW ⊢
      obtain ⟨i0, hi0, hz0, hz1, hz2⟩ := info_parts info32
      clear hb XE HB1 G0 HBW1 hW1 hD hinv hk hki HI
      have hnn : n ≤ 60 := h60
      go_loopw [9, 10] (fun out i wr => ∃ (i' : Nat) (va : Option Addr) (vc : Nat) (P : List Mb), i' ≤ n ∧ i = .int .i64 i' ∧ out = .slice va P.length vc ∧ Hid (P = outL S (L.take i')) ∧ Hid (errL S (L.take i') = 0) ∧ Hid (wr.ownsRow W0.heap.size 32 11 (.slice va P.length vc) P.length (mcells P)) ∧ Hid (Below W0.heap.size W0 wr)) (fun _ i _ => n - (intOf i).toNat)
      case atStart => exact ⟨0, _, _, [], Nat.zero_le _, rfl, rfl, hide rfl, hide rfl, HOW, HB2⟩
      case round =>
        obtain ⟨i, va, vc, P, hi, rfl, rfl, HP, HEr, HOw, HBw⟩ := hrel
        have G := hide (below_blk (show Below W0.heap.size W0 wr from HBw.out) X0.out.1 (by omega))
        have d3 := cell_blk G.out 3
        have ld := lt_blk G.out
        by_cases hin : i < n
        · have hii : (i : Int) < (n : Int) := by omega
          go_wp2_with fail
          obtain ⟨l, hl⟩ : ∃ l, l = lnAt L i := ⟨_, rfl⟩
          have HLI := hide hl
          have TL := hide (show tinyL l by rw [hl]; exact HF.out.2 i (by rw [HN.out]; exact hin))
          obtain ⟨b, o, rfl, hbl, hcell⟩ := HC.out i (by rw [HN.out]; exact hin)
          rw [← hl] at hcell
          have HCL := hide hcell
          have HK := hide (fun w => r28kind_any l w)
          have HOf := hide (fun wd dp w hB hT => r28Of_any l wd dp TL.out B w hB hT)
          obtain ⟨kd, hkd⟩ : ∃ kd, kd = kindP l.k := ⟨_, rfl⟩
          have HKD := hide hkd
          rw [← hkd] at HK
          have HI0 := hide (show P = outL S (L.take i) ++ inX S l 0 by rw [HP.out, inX_zero, List.append_nil])
          have HP2 := hide (show (outL S (L.take i)).length ≤ 60 from Nat.le_trans (outL_take_le S L i) (by omega))
          clear hl hcell hkd d3 ld G
          go_loopw [9, 11] (fun out i' wr => ∃ (j : Nat) (va : Option Addr) (vc : Nat) (Q : List Mb), j ≤ m ∧ i' = .int .i64 j ∧ out = .slice va Q.length vc ∧ Hid (Q = outL S (L.take i) ++ inX S l j) ∧ Hid (∀ t, t < j → kd ≠ 0 → (zAt S t).1 = kd → ofE l (zAt S t).2.1 (zAt S t).2.2 = 0) ∧ Hid (wr.ownsRow W0.heap.size 32 11 (.slice va Q.length vc) Q.length (mcells Q)) ∧ Hid (Below W0.heap.size W0 wr)) (fun _ i' _ => m - (intOf i').toNat)
          case atStart => exact ⟨0, va, vc, P, Nat.zero_le _, rfl, rfl, HI0, hide fun t ht => absurd ht (by omega), HOw, HBw⟩
          case round =>
            clear HOw HBw HI0 HP
            obtain ⟨j, va, vc, Q, hj, rfl, rfl, HQ, HNE, HOw, HBw⟩ := hrel
            have G := hide (below_blk (show Below W0.heap.size W0 wr from HBw.out) X0.out.1 (by omega))
            by_cases hjm : j < m
            · have hji : (j : Int) < (m : Int) := by omega
              have d3 := cell_blk G.out 3
              have ld := lt_blk G.out
              have r0 : wr.cell? ⟨b, o + i * 9, none⟩ = some (.int .i64 l.k) := (HBw.out.cell (p := ⟨b, o + i * 9 + 0, none⟩) hbl).trans (HCL.out 0 _ rfl)
              have r1 : wr.cell? ⟨b, o + i * 9 + 1, none⟩ = some (.string l.a.x) := (HBw.out.cell (p := ⟨b, o + i * 9 + 1, none⟩) hbl).trans (HCL.out 1 _ rfl)
              have r2 : wr.cell? ⟨b, o + i * 9 + 2, none⟩ = some (.string l.a.y) := (HBw.out.cell (p := ⟨b, o + i * 9 + 2, none⟩) hbl).trans (HCL.out 2 _ rfl)
              have r3 : wr.cell? ⟨b, o + i * 9 + 3, none⟩ = some (.string l.a.z) := (HBw.out.cell (p := ⟨b, o + i * 9 + 3, none⟩) hbl).trans (HCL.out 3 _ rfl)
              have r4 : wr.cell? ⟨b, o + i * 9 + 4, none⟩ = some (.string l.b.x) := (HBw.out.cell (p := ⟨b, o + i * 9 + 4, none⟩) hbl).trans (HCL.out 4 _ rfl)
              have r5 : wr.cell? ⟨b, o + i * 9 + 5, none⟩ = some (.string l.b.y) := (HBw.out.cell (p := ⟨b, o + i * 9 + 5, none⟩) hbl).trans (HCL.out 5 _ rfl)
              have r6 : wr.cell? ⟨b, o + i * 9 + 6, none⟩ = some (.string l.b.z) := (HBw.out.cell (p := ⟨b, o + i * 9 + 6, none⟩) hbl).trans (HCL.out 6 _ rfl)
              have r7 : wr.cell? ⟨b, o + i * 9 + 7, none⟩ = some (.int .i64 l.l) := (HBw.out.cell (p := ⟨b, o + i * 9 + 7, none⟩) hbl).trans (HCL.out 7 _ rfl)
              have r8 : wr.cell? ⟨b, o + i * 9 + 8, none⟩ = some (.int .i64 l.r) := (HBw.out.cell (p := ⟨b, o + i * 9 + 8, none⟩) hbl).trans (HCL.out 8 _ rfl)
              obtain ⟨b', o', rfl, hbl', hc1, hc2, hc3⟩ := HC2.out j (by rw [HM.out]; exact hjm)
              have s0 := (HBw.out.cell (p := ⟨b', o' + j * 3, none⟩) hbl').trans hc1
              have s1 := (HBw.out.cell (p := ⟨b', o' + j * 3 + 1, none⟩) hbl').trans hc2
              have s2 := (HBw.out.cell (p := ⟨b', o' + j * 3 + 2, none⟩) hbl').trans hc3
              have lb := Nat.lt_of_lt_of_le hbl HBw.out.size
              have lb' := Nat.lt_of_lt_of_le hbl' HBw.out.size
              obtain ⟨z, hz⟩ : ∃ z, z = zAt S j := ⟨_, rfl⟩
              have HZ := hide hz
              rw [← hz] at s0 s1 s2
              clear hc1 hc2 hc3 hz
              by_cases hk0 : kd = 0
              · have e1 : (kd == 0) = true := by simpa using hk0
                have HQ2 := hide (show Q = outL S (L.take i) ++ inX S l (j + 1) by rw [inX_no (by rw [HM.out]; exact hjm) (.inl (by rw [← HKD.out]; exact hk0))]; exact HQ.out)
                have HNE2 := hide (show ∀ t, t < j + 1 → kd ≠ 0 → (zAt S t).1 = kd → ofE l (zAt S t).2.1 (zAt S t).2.2 = 0 from fun t _ h => absurd hk0 h)
                clear hk0
                go_wp2_with fail
                refine (HK.out _).mono ?_
                rintro e w1 ⟨rfl, hb1⟩
                have HB1 := hide (HBw.out.trans (hb1.mono HBw.out.size))
                have HO1 := hide (owns_stay HOw.out (fun r hr => hb1.block r (owns_lt HOw.out r hr)))
                clear hb1 r0 r1 r2 r3 r4 r5 r6 r7 r8 s0 s1 s2 d3 ld
                go_wp2_with fail
                go_roundw
                case rel => exact ⟨j + 1, va, vc, Q, by omega, by go_num, rfl, HQ2, HNE2, HO1, HB1⟩
                case measure => simp [intOf]; omega
              · have e1 : (kd == 0) = false := by simpa using hk0
                by_cases hzk : z.1 = kd
                · have e2 : (z.1 == kd) = true := by simpa using hzk
                  have e3 : (z.1 != kd) = false := by simp only [bne, e2]; rfl
                  have HK0 := hide hk0
                  have HZK := hide hzk
                  clear hk0 hzk
                  go_wp2_with fail
                  refine (HK.out _).mono ?_
                  rintro e w1 ⟨rfl, hb1⟩
                  have HB1 := hide (HBw.out.trans (hb1.mono HBw.out.size))
                  have HO1 := hide (owns_stay HOw.out (fun r hr => hb1.block r (owns_lt HOw.out r hr)))
                  have HBW1 := hide (X0.out.2.2.trans (HB1.out.mono X0.out.2.2.size))
                  have t0 := (hb1.cell (p := ⟨b', o' + j * 3, none⟩) lb').trans s0
                  have t1 := (hb1.cell (p := ⟨b', o' + j * 3 + 1, none⟩) lb').trans s1
                  have t2 := (hb1.cell (p := ⟨b', o' + j * 3 + 2, none⟩) lb').trans s2
                  have q0 := (hb1.cell (p := ⟨b, o + i * 9, none⟩) lb).trans r0
                  have q1 := (hb1.cell (p := ⟨b, o + i * 9 + 1, none⟩) lb).trans r1
                  have q2 := (hb1.cell (p := ⟨b, o + i * 9 + 2, none⟩) lb).trans r2
                  have q3 := (hb1.cell (p := ⟨b, o + i * 9 + 3, none⟩) lb).trans r3
                  have q4 := (hb1.cell (p := ⟨b, o + i * 9 + 4, none⟩) lb).trans r4
                  have q5 := (hb1.cell (p := ⟨b, o + i * 9 + 5, none⟩) lb).trans r5
                  have q6 := (hb1.cell (p := ⟨b, o + i * 9 + 6, none⟩) lb).trans r6
                  have q7 := (hb1.cell (p := ⟨b, o + i * 9 + 7, none⟩) lb).trans r7
                  have q8 := (hb1.cell (p := ⟨b, o + i * 9 + 8, none⟩) lb).trans r8
                  have lt1 := Nat.lt_of_lt_of_le lb' hb1.size
                  have lt2 := Nat.lt_of_lt_of_le lb hb1.size
                  have G1 := hide (below_blk hb1 G.out (lt_blk G.out))
                  have d4 := cell_blk G1.out 3
                  have ld4 := lt_blk G1.out
                  clear hb1 r0 r1 r2 r3 r4 r5 r6 r7 r8 s0 s1 s2 d3 ld
                  have HOZ := hide (HOf.out z.2.1 z.2.2)
                  obtain ⟨mk, mf, mo, ma, mb, mx, my, hmv, hmc⟩ := ofV_form l z.2.1 z.2.2
                  rw [hmv] at HOZ
                  have HMC := hide hmc
                  obtain ⟨E, hE⟩ : ∃ E, E = ofE l z.2.1 z.2.2 := ⟨_, rfl⟩
                  rw [← hE] at HOZ HMC
                  have HEE := hide hE
                  clear hmv hmc hE
                  have hw1 : w.heap.size < w1.heap.size := by have := HB1.out.size; omega
                  have KS := hide (show ∀ w', Below w1.heap.size w1 w' → (w'.cell? ⟨w.heap.size, 3, none⟩ = some (.slice (some ⟨b, o, none⟩) n c) ∧ w'.cell? ⟨b, o + i * 9, none⟩ = some (.int .i64 l.k) ∧ w'.cell? ⟨b, o + i * 9 + 1, none⟩ = some (.string l.a.x) ∧ w'.cell? ⟨b, o + i * 9 + 2, none⟩ = some (.string l.a.y) ∧ w'.cell? ⟨b, o + i * 9 + 3, none⟩ = some (.string l.a.z) ∧ w'.cell? ⟨b, o + i * 9 + 4, none⟩ = some (.string l.b.x) ∧ w'.cell? ⟨b, o + i * 9 + 5, none⟩ = some (.string l.b.y) ∧ w'.cell? ⟨b, o + i * 9 + 6, none⟩ = some (.string l.b.z) ∧ w'.cell? ⟨b, o + i * 9 + 7, none⟩ = some (.int .i64 l.l) ∧ w'.cell? ⟨b, o + i * 9 + 8, none⟩ = some (.int .i64 l.r) ∧ w'.cell? ⟨b', o' + j * 3 + 1, none⟩ = some (.int .i64 z.2.1) ∧ w'.cell? ⟨b', o' + j * 3 + 2, none⟩ = some (.int .i64 z.2.2)) from fun w' h => ⟨(h.cell (p := ⟨w.heap.size, 3, none⟩) hw1).trans d4, (h.cell (p := ⟨b, o + i * 9, none⟩) lt2).trans q0, (h.cell (p := ⟨b, o + i * 9 + 1, none⟩) lt2).trans q1, (h.cell (p := ⟨b, o + i * 9 + 2, none⟩) lt2).trans q2, (h.cell (p := ⟨b, o + i * 9 + 3, none⟩) lt2).trans q3, (h.cell (p := ⟨b, o + i * 9 + 4, none⟩) lt2).trans q4, (h.cell (p := ⟨b, o + i * 9 + 5, none⟩) lt2).trans q5, (h.cell (p := ⟨b, o + i * 9 + 6, none⟩) lt2).trans q6, (h.cell (p := ⟨b, o + i * 9 + 7, none⟩) lt2).trans q7, (h.cell (p := ⟨b, o + i * 9 + 8, none⟩) lt2).trans q8, (h.cell (p := ⟨b', o' + j * 3 + 1, none⟩) lt1).trans t1, (h.cell (p := ⟨b', o' + j * 3 + 2, none⟩) lt1).trans t2⟩)
                  have HD1 := hide (show Below w1.heap.size w1 w1.drew from (Below.refl _ _).drew)
                  have HD2 := hide (show Below w1.heap.size w1 (w1.alloc mem0).drew from (heap1 w1 mem0).2.2.drew)
                  have HPA := hide (show (w1.alloc mem0).drew.heap[w1.heap.size]? = some mem0 from heap_alloc_new w1 _)
                  have K0 := hide (KS.out _ (Below.refl _ w1))
                  have K1 := hide (KS.out _ HD1.out)
                  have K2 := hide (KS.out _ HD2.out)
                  have HBA1 := hide (HBW1.out.trans (HD1.out.mono HBW1.out.size))
                  have HBA2 := hide (HBW1.out.trans (HD2.out.mono HBW1.out.size))
                  have C1 := hide (HOZ.out w1.drew (Nat.le_trans hB HBA1.out.size) (HT.out.on HBA1.out hB))
                  have C2 := hide (HOZ.out (w1.alloc mem0).drew (Nat.le_trans hB HBA2.out.size) (HT.out.on HBA2.out hB))
                  go_upto_region 21 with fail
                  go_cut [13, 14] (fun p e wx => e = .int .i64 E ∧ ∃ D, p = .pointer (some ⟨D, 0, none⟩) ∧ Hid (w1.heap.size ≤ D ∧ wx.heap[D]? = some (memTO mk mf mo ma mb mx my) ∧ Below w1.heap.size w1 wx))
                  case first =>
                    go_region_held3 (fun w' => w'.cell? ⟨w.heap.size, 3, none⟩ = some (.slice (some ⟨b, o, none⟩) n c) ∧ w'.cell? ⟨b, o + i * 9, none⟩ = some (.int .i64 l.k) ∧ w'.cell? ⟨b, o + i * 9 + 1, none⟩ = some (.string l.a.x) ∧ w'.cell? ⟨b, o + i * 9 + 2, none⟩ = some (.string l.a.y) ∧ w'.cell? ⟨b, o + i * 9 + 3, none⟩ = some (.string l.a.z) ∧ w'.cell? ⟨b, o + i * 9 + 4, none⟩ = some (.string l.b.x) ∧ w'.cell? ⟨b, o + i * 9 + 5, none⟩ = some (.string l.b.y) ∧ w'.cell? ⟨b, o + i * 9 + 6, none⟩ = some (.string l.b.z) ∧ w'.cell? ⟨b, o + i * 9 + 7, none⟩ = some (.int .i64 l.l) ∧ w'.cell? ⟨b, o + i * 9 + 8, none⟩ = some (.int .i64 l.r) ∧ w'.cell? ⟨b', o' + j * 3 + 1, none⟩ = some (.int .i64 z.2.1) ∧ w'.cell? ⟨b', o' + j * 3 + 2, none⟩ = some (.int .i64 z.2.2)) (first | with_reducible exact K0.out | with_reducible exact K1.out | with_reducible exact K2.out | with_reducible exact KS.out _ HBQ.out | with_reducible exact KS.out _ (HBQ.out.alloc HBQ.out.size _) | exact KS.out _ (put11_below HBQ.out (Nat.le_refl _) _ _ _ _ _ _ _ _ _ _ _) | (trace_state; fail))
                      (first
                        | (go_at_call 9
                           refine C1.out.mono ?_
                           rintro e w2 ⟨rfl, hb2⟩
                           have HBQ := hide (show Below w1.heap.size w1 w2 from HD1.out.trans (hb2.mono HD1.out.size))
                           clear hb2)
                        | (go_at_call 9
                           refine C2.out.mono ?_
                           rintro e w2 ⟨rfl, hb2⟩
                           have HGA := hide (below_blk hb2 HPA.out (lt_blk HPA.out))
                           have ca := fun o => cell_blk HGA.out o
                           have fa := fun o => froz_blk HGA.out o
                           have la := lt_blk HGA.out
                           have HBQ := hide (show Below w1.heap.size w1 w2 from HD2.out.trans (hb2.mono HD2.out.size))
                           clear hb2))
                    · go_wp2_with fail
                      go_meet
                      exact ⟨rfl, w2.heap.size, rfl, hide ⟨HBQ.out.size, heap_alloc_new w2 _, HBQ.out.alloc HBQ.out.size _⟩⟩
                    · go_wp2_with fail
                      go_meet
                      exact ⟨rfl, w1.heap.size, rfl, hide ⟨Nat.le_refl _, put11_at HGA.out _ _ _ _ _ _ _ _ _ _ _, put11_below HBQ.out (Nat.le_refl _) _ _ _ _ _ _ _ _ _ _ _⟩⟩
                  case rest =>
                    obtain ⟨rfl, D, rfl, HX⟩ := hcut
                    clear HOZ C1 C2 HBA1 HBA2 HD1 HD2 HPA K0 K1 K2 KS q0 q1 q2 q3 q4 q5 q6 q7 q8 t0 t1 t2 d4 ld4
                    have HBc := hide (HB1.out.trans (HX.out.2.2.mono HB1.out.size))
                    have HBWc := hide (HBW1.out.trans (HX.out.2.2.mono HBW1.out.size))
                    have HOc := hide (owns_stay HO1.out (fun r hr => HX.out.2.2.block r (owns_lt HO1.out r hr)))
                    have cD := fun o => cell_blk HX.out.2.1 o
                    have lD := lt_blk HX.out.2.1
                    by_cases hE0 : E = 0
                    · have HQ2 := hide (show Q ++ [(l, z.2)] = outL S (L.take i) ++ inX S l (j + 1) by
                        rw [inX_yes (by rw [HM.out]; exact hjm) (by rw [← HKD.out]; exact HK0.out) (by rw [← HKD.out, ← HZ.out]; exact HZK.out), HQ.out, List.append_assoc, ← HZ.out])
                      have HNE2 := hide (show ∀ t, t < j + 1 → kd ≠ 0 → (zAt S t).1 = kd → ofE l (zAt S t).2.1 (zAt S t).2.2 = 0 from fun t ht h0 h1 => by
                        rcases Nat.lt_or_ge t j with h | h
                        · exact HNE.out t h h0 h1
                        · rw [show t = j by omega, ← HZ.out, ← HEE.out]; exact hE0)
                      have HCS := hide (HMC.out hE0)
                      have hql : Q.length ≤ 61 := by
                        rw [HQ.out, List.length_append]
                        have := inX_le HO.out l j
                        have := HP2.out
                        omega
                      have HOW2 := hide (HOc.out.alloc (memTO mk mf mo ma mb mx my))
                      have HNW := hide (show ∀ j u, ([.int .i64 mk, .int .i64 mf, .int .i64 mo, .string ma.x, .string ma.y, .string ma.z, .string mb.x, .string mb.y, .string mb.z, .int .i64 mx, .int .i64 my] : List Value)[j]? = some u → (wc.alloc (memTO mk mf mo ma mb mx my)).cell? ((⟨wc.heap.size, 0, none⟩ : Addr).add j) = some u from World.news_of_block (cs := #[.int .i64 mk, .int .i64 mf, .int .i64 mo, .string ma.x, .string ma.y, .string ma.z, .string mb.x, .string mb.y, .string mb.z, .int .i64 mx, .int .i64 my]) (t := 32) (fr := (0, 0)) (heap_alloc_new wc _))
                      subst hE0
                      go_wp2_with (at_builtin; go_must (refine wpList_append_own _ rfl (.tmp 111) (.tmp 113) 36 rfl W0.heap.size 32 i0 _ 11 136 Tryz.underlying36 hi0 hz0 hz1 hz2 rfl (by decide) (.slice va Q.length vc) _ _ rfl HOW2.out ⟨wc.heap.size, 0, none⟩ 1 1 [.int .i64 mk, .int .i64 mf, .int .i64 mo, .string ma.x, .string ma.y, .string ma.z, .string mb.x, .string mb.y, .string mb.z, .int .i64 mx, .int .i64 my] rfl rfl HNW.out (by simp [Value.oneCell']) (by simp only [maxLen]; omega) (by omega) (by have := HBc.out.size; simp; omega) ?_); intro v1 w5 hown hg1 hiff; clear hiff; obtain ⟨a6, c6, hv6⟩ := owns_form hown; subst hv6; have HOW5 := hide hown; have HGR := hide hg1; clear hown hg1)
                      go_roundw
                      case rel =>
                        refine ⟨j + 1, a6, c6, Q ++ [(l, z.2)], by omega, by go_num, ?_, HQ2, HNE2, ?_, ?_⟩
                        · rw [List.length_append]; rfl
                        · refine hide ?_
                          rw [mcells_snoc, List.length_append, ← show _ = mbCs (l, z.2) from HCS.out]
                          exact HOW5.out
                        · exact hide ((HBc.out.alloc HBc.out.size _).grown HGR.out (by have := HBc.out.size; simp; omega) (owns_ge HOc.out (Nat.le_refl _)))
                      case measure => simp [intOf]; omega
                    · have e4 : (E == 0) = false := by simpa using hE0
                      have e5 : (E != 0) = true := by simp only [bne, e4]; rfl
                      have hpk : pkL S (lnAt L i) = some z.2 := by
                        rw [HZ.out]
                        exact pick_of HO.out (by rw [HM.out]; exact hjm) (by rw [← HLI.out, ← HKD.out]; exact HK0.out) (by rw [← HLI.out, ← HKD.out, ← HZ.out]; exact HZK.out)
                      have hel : erL (lnAt L i) z.2 = E := by rw [← HLI.out]; exact HEE.out.symm
                      have HAE := hide (show allE S L = E by
                        rw [allE_err HV.out, errL_at (by rw [HN.out]; exact hin) HEr.out hpk (by rw [hel]; exact hE0), hel])
                      have HNZ := hide hE0
                      clear hE0 hpk hel
                      go_wp2_with fail
                      refine bodyPost_ret (results_tmp2 rfl _ _ _) rfl ?_
                      exact all_fail HAE.out HNZ.out HBWc.out
                · have e2 : (z.1 == kd) = false := by simpa using hzk
                  have e3 : (z.1 != kd) = true := by simp only [bne, e2]; rfl
                  have HQ2 := hide (show Q = outL S (L.take i) ++ inX S l (j + 1) by rw [inX_no (by rw [HM.out]; exact hjm) (.inr (by rw [← HKD.out, ← HZ.out]; exact hzk))]; exact HQ.out)
                  have HNE2 := hide (show ∀ t, t < j + 1 → kd ≠ 0 → (zAt S t).1 = kd → ofE l (zAt S t).2.1 (zAt S t).2.2 = 0 from fun t ht h0 h1 => by
                    rcases Nat.lt_or_ge t j with h | h
                    · exact HNE.out t h h0 h1
                    · rw [show t = j by omega, ← HZ.out] at h1; exact absurd h1 hzk)
                  clear hk0 hzk
                  go_wp2_with fail
                  refine (HK.out _).mono ?_
                  rintro e w1 ⟨rfl, hb1⟩
                  have HB1 := hide (HBw.out.trans (hb1.mono HBw.out.size))
                  have HO1 := hide (owns_stay HOw.out (fun r hr => hb1.block r (owns_lt HOw.out r hr)))
                  have t0 := (hb1.cell (p := ⟨b', o' + j * 3, none⟩) lb').trans s0
                  have lt1 := Nat.lt_of_lt_of_le lb' hb1.size
                  clear hb1 r0 r1 r2 r3 r4 r5 r6 r7 r8 s0 s1 s2 d3 ld
                  go_wp2_with fail
                  go_roundw
                  case rel => exact ⟨j + 1, va, vc, Q, by omega, by go_num, rfl, HQ2, HNE2, HO1, HB1⟩
                  case measure => simp [intOf]; omega
            · have hji : ((j : Int) < (m : Int)) = False := eq_false (by omega)
              have HQ2 := hide (show Q = outL S (L.take (i + 1)) by
                rw [HQ.out, outL_snoc (by rw [HN.out]; exact hin), ← HLI.out, show j = S.length by have := HM.out; omega, inX_end HO.out])
              have HE2 := hide (show errL S (L.take (i + 1)) = 0 from errL_snoc (by rw [HN.out]; exact hin) HEr.out (fun s hs => pick_all (fun t ht h0 h1 => by rw [← HLI.out] at h0 h1 ⊢; rw [← HKD.out] at h0 h1; exact HNE.out t (by have := HM.out; omega) h0 h1) s hs))
              clear hjm
              go_wp2_with fail
              go_roundw
              case rel => exact ⟨i + 1, va, vc, Q, by omega, by go_num, rfl, HQ2, HE2, HOw, HBw⟩
              case measure => simp [intOf]; omega
        · have hii : ((i : Int) < (n : Int)) = False := eq_false (by omega)
          have hPl : P.length ≤ 60 := by rw [HP.out]; exact Nat.le_trans (outL_take_le S L i) (by omega)
          have q1 : ((512 : Int) < (P.length : Int)) = False := eq_false (by omega)
          have HX := hide (show P = outL S L ∧ errL S L = 0 from by
            have h1 := HP.out; have h2 := HEr.out
            rw [List.take_of_length_le (by have := HN.out; omega)] at h1 h2
            exact ⟨h1, h2⟩)
          have HBW := hide (X0.out.2.2.trans (HBw.out.mono X0.out.2.2.size))
          clear hin
          go_wp2_with fail
          refine bodyPost_ret (results_tmp2 rfl _ _ _) rfl ?_
          refine all_ret (base := W0.heap.size) (e := 32) HV.out HX.out.2 ?_ HBW.out
          rw [← HX.out.1]
          exact HOw.out
open Go.RowKit Go.KP Go.KI Go.Shelf
attribute [local go_sem] Oper.semAt_some

theorem sized11_at (b : Nat) (kd : Int) (x : Sz3) (w : World) (h : w.heap[b]? = some (.cells #[.int .i64 kd] 3)) :
    Calls Tryz.prog 74 #[.agg #[.int .i64 x.1, .int .i64 x.2.1, .int .i64 x.2.2], .pointer (some ⟨b, 0, none⟩)] w (Ret w (.bool (decide (x.1 = kd)))) := by
  have X0 := hide (heap1 w (szO x))
  have G := hide (below_blk X0.out.2.2 h (lt_blk h))
  have c0 := cell_blk G.out 0
  have l0 := lt_blk G.out
  clear h
  go_enter Tryz.func74, Tryz.ntmps74
  go_wp2_with fail
  go_ret
  refine ⟨?_, X0.out.2.2⟩
  simp
  rfl
theorem sized11_answers (b : Nat) (kd : Int) (w : World) (h : w.heap[b]? = some (.cells #[.int .i64 kd] 3)) : AnswersZ 74 #[.pointer (some ⟨b, 0, none⟩)] (fun x => decide (x.1 = kd)) w :=
  ⟨enters_of Tryz.func74 (by kernel_rfl) rfl, fun x W hb => sized11_at b kd x W (below_blk hb h (lt_blk h))⟩
abbrev boxL (A : Option Addr) (n c : Nat) : Obj := .cells #[.slice A n c] 22
abbrev boxZ (A : Option Addr) (n c : Nat) : Obj := .cells #[.slice A n c] 23
theorem hsized_any (A : Option Addr) (n c : Nat) (A2 : Option Addr) (m c2 : Nat) (w : World) :
    Calls Tryz.prog 37 #[.slice A n c, .slice A2 m c2] w (fun e w' => e = .returned (.func (.func 72) #[] #[.pointer (some ⟨w.heap.size, 0, none⟩), .pointer (some ⟨w.heap.size + 1, 0, none⟩)]) ∧ w' = (w.alloc (boxL A n c)).alloc (boxZ A2 m c2)) := by
  go_enter Tryz.func37, Tryz.ntmps37
  go_wp2_with fail
  go_ret
  exact ⟨rfl, rfl⟩
theorem idx_ways (S : List Sz3) (kd : Int) : ∀ (k : Nat) (R : List Sz3), R = S.drop k → k ≤ S.length →
    ((R.find? (fun s => s.1 = kd) = none ∧ idxF (fun x : Sz3 => decide (x.1 = kd)) k R = -1) ∨
     ∃ j, k ≤ j ∧ j < S.length ∧ R.find? (fun s => s.1 = kd) = some (zAt S j) ∧ idxF (fun x : Sz3 => decide (x.1 = kd)) k R = (j : Int)) := by
  intro k R
  induction R generalizing k with
  | nil => intro _ _; exact .inl ⟨rfl, rfl⟩
  | cons x r ih =>
    intro h hk
    have hl : k < S.length := by
      rcases Nat.lt_or_ge k S.length with h1 | h1
      · exact h1
      · rw [List.drop_eq_nil_of_le h1] at h; cases h
    rw [List.drop_eq_getElem_cons hl] at h
    injection h with h1 h2
    have hz : zAt S k = x := by simp [zAt, hl, h1]
    by_cases hx : x.1 = kd
    · refine .inr ⟨k, Nat.le_refl _, hl, ?_, ?_⟩
      · rw [List.find?_cons_of_pos (by simpa using hx), hz]
      · unfold idxF; rw [if_pos (by simpa using hx)]
    · rw [List.find?_cons_of_neg (by simpa using hx)]
      rcases ih (k + 1) h2 hl with ⟨i1, i2⟩ | ⟨j, j1, j2, j3, j4⟩
      · refine .inl ⟨i1, ?_⟩
        unfold idxF; rw [if_neg (by simpa using hx)]; exact i2
      · refine .inr ⟨j, by omega, j2, j3, ?_⟩
        unfold idxF; rw [if_neg (by simpa using hx)]; exact j4
theorem pick_ways (S : List Sz3) (l : Ln) :
    (pkL S l = none ∧ (kindP l.k = 0 ∨ idxF (fun x : Sz3 => decide (x.1 = kindP l.k)) 0 S = -1)) ∨
    ∃ j, kindP l.k ≠ 0 ∧ j < S.length ∧ (zAt S j).1 = kindP l.k ∧ pkL S l = some (zAt S j).2 ∧ idxF (fun x : Sz3 => decide (x.1 = kindP l.k)) 0 S = (j : Int) := by
  by_cases h0 : kindP l.k = 0
  · exact .inl ⟨if_pos h0, .inl h0⟩
  · rcases idx_ways S (kindP l.k) 0 S rfl (Nat.zero_le _) with ⟨h1, h2⟩ | ⟨j, _, h2, h3, h4⟩
    · refine .inl ⟨?_, .inr h2⟩
      show pickS S _ = none
      unfold pickS
      rw [if_neg h0, h1]
      rfl
    · refine .inr ⟨j, h0, h2, by simpa using List.find?_some h3, ?_, h4⟩
      show pickS S _ = _
      unfold pickS
      rw [if_neg h0, h3]
      rfl
theorem outL_next {S : List Sz3} {L : List Ln} {i : Nat} (h : i < L.length) {s : Int × Int} (hp : pkL S (lnAt L i) = some s) :
    (outL S (L.take i)).length < (outL S L).length ∧ (outL S L).getD (outL S (L.take i)).length mb0 = (lnAt L i, s) ∧ (outL S (L.take (i + 1))).length = (outL S (L.take i)).length + 1 := by
  have h1 : outL S [lnAt L i] = [(lnAt L i, s)] := outA_some _ _ hp
  have e : outL S L = outL S (L.take i) ++ ((lnAt L i, s) :: outL S (L.drop (i + 1))) := by
    conv => lhs; rw [show L = L.take i ++ ([lnAt L i] ++ L.drop (i + 1)) by rw [List.singleton_append, ← lnAt_drop h, List.take_append_drop]]
    unfold outL at h1 ⊢
    rw [outA_append, outA_append, h1]
    rfl
  refine ⟨by rw [e, List.length_append, List.length_cons]; omega, ?_, by rw [outL_snoc h, h1]; simp⟩
  rw [e]
  simp
theorem outL_skip {S : List Sz3} {L : List Ln} {i : Nat} (h : i < L.length) (hp : pkL S (lnAt L i) = none) : (outL S (L.take (i + 1))).length = (outL S (L.take i)).length := by
  rw [outL_snoc h, show outL S [lnAt L i] = [] from outA_none _ _ hp, List.append_nil]
theorem outL_pre (S : List Sz3) (L : List Ln) (i : Nat) : (outL S (L.take i)).length ≤ (outL S L).length := by
  conv => rhs; rw [show L = L.take i ++ L.drop i by rw [List.take_append_drop]]
  unfold outL
  rw [outA_append, List.length_append]
  omega
end Go.Proofs.YtklgpilgalfckaaGreatDoor
namespace Go.KP
open Go Go.RowKit

structure QuietO (O : Nat → Prop) (B : Nat) (S : Nat → Prop) (W W2 : World) : Prop where
  os : W2.os = W.os
  tape : W2.tape = W.tape
  output : W2.output = W.output
  size : W.heap.size ≤ W2.heap.size
  block : ∀ b, ¬ O b → (b < B ∨ S b) → b < W.heap.size → W2.heap[b]? = W.heap[b]?
theorem Quiet.toO {B : Nat} {S : Nat → Prop} {W W2 : World} (h : Quiet B S W W2) (O : Nat → Prop) : QuietO O B S W W2 :=
  ⟨h.os, h.tape, h.output, h.size, fun b _ hb hl => h.block b hb hl⟩
theorem QuietO.refl (O : Nat → Prop) (B : Nat) (S : Nat → Prop) (W : World) : QuietO O B S W W := ⟨rfl, rfl, rfl, Nat.le_refl _, fun _ _ _ _ => rfl⟩
theorem QuietO.trans {O : Nat → Prop} {B : Nat} {S : Nat → Prop} {a b c : World} (h : QuietO O B S a b) (k : QuietO O B S b c) : QuietO O B S a c :=
  ⟨k.os.trans h.os, k.tape.trans h.tape, k.output.trans h.output, Nat.le_trans h.size k.size, fun i hn hi hl => (k.block i hn hi (Nat.lt_of_lt_of_le hl h.size)).trans (h.block i hn hi hl)⟩
theorem QuietO.of_below {O : Nat → Prop} {B n : Nat} {S : Nat → Prop} {a w w2 : World} (h : QuietO O B S a w) (hb : Below n w w2) (hn : w.heap.size ≤ n) : QuietO O B S a w2 :=
  h.trans ⟨hb.os, hb.tape, hb.output, hb.size, fun b _ _ hl => hb.block b (by omega)⟩
theorem QuietO.set {O : Nat → Prop} {B : Nat} {S : Nat → Prop} {a w : World} (h : QuietO O B S a w) {p : Addr} (hp : O p.block) (u : Value) : QuietO O B S a (w.setCell p u) :=
  h.trans ⟨rfl, rfl, rfl, by simp [World.setCell], fun b hn _ _ => Below.heap_setCell _ _ _ _ (fun e => hn (by rw [e]; exact hp))⟩
def StaysO (O : Nat → Prop) (B : Nat) (J : (Nat → Prop) → World → Prop) : Prop := ∀ S W W2, J S W → QuietO O B S W W2 → J S W2
variable {P : Program}

def IterOwn (P : Program) (gf : Nat) (lb : Array Value) (encs : Nat → Array Value) (N : Nat) (Ke : Nat → World → Prop) (O : Nat → Prop) (w : World) : Prop :=
  ∀ (l : Nat) (J : Nat → (Nat → Prop) → World → Prop) (Jx : (Nat → Prop) → World → Prop) (W : World),
    (∀ b, O b → b < W.heap.size ∧ W.heap[b]? = w.heap[b]?) → (∀ k, StaysO O W.heap.size (J k)) → StaysO O W.heap.size Jx → (∀ k S W1, J k S W1 → ∀ b, S b → b < W1.heap.size) → (∀ k S W1, k ≤ N → J k S W1 → Ke k W1) →
    (∀ k S W1, k < N → J k S W1 → W.heap.size ≤ W1.heap.size →
      YieldAt Fence.wide 0 P l (encs k) W1 fun e W2 => ∃ S', Upd W.heap.size S S' W1 W2 ∧ (∀ b, O b → W2.heap[b]? = W1.heap[b]?) ∧
        ((e = .returned (.bool true) ∧ J (k + 1) S' W2) ∨ (e = .returned (.bool false) ∧ Jx S' W2))) →
    J 0 (fun _ => False) W →
    CallsIn Fence.wide 0 P gf (#[.func (.yield l) #[] #[]] ++ lb) W fun e W2 => (∃ v, e = .returned v) ∧ ∃ S, J N S W2 ∨ Jx S W2

def bodyEndO (B : Nat) (O : Nat → Prop) (I : (Nat → Prop) → World → Prop) (Ix : Code → (Nat → Prop) → World → Prop) (S : Nat → Prop) (W : World) : Exit → Act → World → Prop
  | .normal, _, W2 => ∃ S', Upd B S S' W W2 ∧ (∀ b, O b → W2.heap[b]? = W.heap[b]?) ∧ I S' W2
  | .ret, _, W2 => ∃ S', Upd B S S' W W2 ∧ (∀ b, O b → W2.heap[b]? = W.heap[b]?) ∧ Ix .ret S' W2
  | .exit id, _, W2 => ∃ S', Upd B S S' W W2 ∧ (∀ b, O b → W2.heap[b]? = W.heap[b]?) ∧ Ix (.exit id) S' W2
  | .goto t, _, W2 => ∃ S', Upd B S S' W W2 ∧ (∀ b, O b → W2.heap[b]? = W.heap[b]?) ∧ Ix (.goto t) S' W2
  | .panic _, _, _ => False
  | .outgrown, _, _ => False

theorem wp_iter_own {g : Operand} {ps : Array Tmp} {assign body : Code} {Q : Exit → Act → World → Prop} {a : Act} {w : World}
    {gf : Nat} {lb : Array Value} (hg : a.eval g = .func (.func gf) #[] lb) (eg : ∀ args w, (callFunc gf args).run P w = .ok (.enter gf args) w)
    {encs : Nat → Array Value} {N : Nat} {Ke : Nat → World → Prop} {O : Nat → Prop} {w0 : World} (hseq : IterOwn P gf lb encs N Ke O w0) (hO : ∀ b, O b → b < w.heap.size ∧ w.heap[b]? = w0.heap[b]?) (hps : ∀ k, (encs k).size = ps.size)
    (I : Nat → (Nat → Prop) → World → Prop) (Ix : Code → (Nat → Prop) → World → Prop) (hI : ∀ k, StaysO O w.heap.size (I k)) (hIx : ∀ c, StaysO O w.heap.size (Ix c)) (h0 : I 0 (fun _ => False) w) (hke : ∀ k S W, k ≤ N → I k S W → Ke k W)
    (Ax : Nat → (Nat → Prop) → Act → World → Prop)
    (hAx : ∀ k S a1 W l r r2, Ax k S a1 W → W.heap[l]? = some (.loop r) → Ax k S a1 (W.putObj l (.loop r2)))
    (hassign : ∀ (l k : Nat) (S : Nat → Prop) (W : World) (K : Act → World → Prop), w.heap.size ≤ W.heap.size → (∀ b, S b → b < W.heap.size) → (∀ a1 W1, Quiet w.heap.size S W W1 → Upd w.heap.size S S W W1 → Ax k S a1 W1 → K a1 W1) →
      assign.wpIn (Fence.wide.inRound l) 0 P (Exit.then K (fun _ _ _ => False)) { tmps := (ps.zip (encs k)).foldl (fun t (p, v) => t.setIfInBounds p v) a.tmps, defers := [] } W)
    (hS : ∀ k S W, I k S W → ∀ b, S b → b < W.heap.size)
    (hbody : ∀ (l k : Nat) (S : Nat → Prop) (a1 : Act) (W : World), k < N → I k S W → Ax k S a1 W → w.heap.size ≤ W.heap.size →
      body.wpIn (Fence.wide.inRound l) 0 P (bodyEndO w.heap.size O (I (k + 1)) Ix S W) a1 W)
    (hdone : ∀ (D : Nat) (S : Nat → Prop) (W : World), w.heap.size ≤ D → I N S W → W.heap[D]? = some (.deferred (some [])) → Q .normal { a with defers := { target := .collected D, args := #[] } :: a.defers } W)
    (hstop : ∀ (D : Nat) (c : Code) (S : Nat → Prop) (W : World), w.heap.size ≤ D → Ix c S W → W.heap[D]? = some (.deferred (some [])) → c.wpIn Fence.wide 0 P Q { a with defers := { target := .collected D, args := #[] } :: a.defers } W) :
    (Code.rangeFunc g ps assign body).wpIn Fence.wide 0 P Q a w := by
  refine wpIn_rangeFunc ?_
  intro fn _
  obtain ⟨rec, hrec⟩ : ∃ rec : LoopState → Option Code → Loop, rec = fun st pe => { state := st, pending := pe, fn, tmps := a.tmps, params := ps, assign, body, defers := w.heap.size } := ⟨_, rfl⟩
  obtain ⟨W1, hW1⟩ : ∃ W1, (w.alloc (.deferred (some []))).alloc (.loop (rec .ready none)) = W1 := ⟨_, rfl⟩
  have hL1 : W1.heap[w.heap.size + 1]? = some (.loop (rec .ready none)) := by
    rw [← hW1]; have h := World.alloc_heap_new (w.alloc (.deferred (some []))) (.loop (rec .ready none)); rwa [World.size_alloc] at h
  have hK1 : W1.heap[w.heap.size]? = some (.deferred (some [])) := by
    rw [← hW1]; exact (Below.heap_alloc _ _ _ (by simp)).trans (World.alloc_heap_new w _)
  have hq1 : Quiet w.heap.size (fun _ => False) w W1 := by rw [← hW1]; exact ((Quiet.refl _ _ w).alloc _).alloc _
  have hs1 : W1.heap.size = w.heap.size + 2 := by rw [← hW1]; simp
  have hn0 : ¬ O w.heap.size := fun h => by have := (hO _ h).1; omega
  have hn1 : ¬ O (w.heap.size + 1) := fun h => by have := (hO _ h).1; omega
  have hO1 : ∀ b, O b → b < W1.heap.size ∧ W1.heap[b]? = w0.heap[b]? := fun b hb => by
    obtain ⟨h1, h2⟩ := hO b hb
    exact ⟨by omega, (hq1.block b (.inl h1) h1).trans h2⟩
  have inner : ∀ (i : Nat) (S S' : Nat → Prop) (W W2 : World), w.heap.size ≤ i → i < w.heap.size + 2 → i < W.heap.size → ¬ S i → Upd w.heap.size S S' W W2 → W2.heap[i]? = W.heap[i]? ∧ ¬ S' i := fun i S S' W W2 h1 _ h3 h4 hu => hu.block i h1 h3 h4
  refine ⟨w.heap.size + 1, [{ target := .collected w.heap.size, args := #[] }], W1, { target := .fn (.func gf) lb, args := #[.func (.yield (w.heap.size + 1)) #[] #[]] }, W1, gf,
    #[.func (.yield (w.heap.size + 1)) #[] #[]] ++ lb, W1, ?_, ?_, ?_, ?_, fun h => by simp [Fence.wide] at h, ?_⟩
  · rw [← hW1, hrec]; exact run_enterLoop_outer _ _ _ _ _
  · simp only [resolve, hg]
    simp [go_sem]
  · exact fun _ _ => trivial
  · simp [invoke, go_sem, eg]
  · refine (hseq (w.heap.size + 1)
      (fun k S W => I k S W ∧ ¬ S w.heap.size ∧ ¬ S (w.heap.size + 1) ∧ W1.heap.size ≤ W.heap.size ∧ W.heap[w.heap.size + 1]? = some (.loop (rec .ready none)) ∧ W.heap[w.heap.size]? = some (.deferred (some [])))
      (fun S W => ∃ c, Ix c S W ∧ ¬ S w.heap.size ∧ ¬ S (w.heap.size + 1) ∧ W1.heap.size ≤ W.heap.size ∧ W.heap[w.heap.size + 1]? = some (.loop (rec .done (some c))) ∧ W.heap[w.heap.size]? = some (.deferred (some [])))
      W1 hO1 ?_ ?_ (fun k S W1 h => hS k S W1 h.1) (fun k S W1 hk h => hke k S W1 hk h.1) ?_ ⟨hI 0 _ _ _ h0 (hq1.toO O), fun h => h, fun h => h, Nat.le_refl _, hL1, hK1⟩).mono ?_
    · rintro k S W W2 ⟨hi, n1, n2, hsz, hl, hk⟩ hq
      have hw : w.heap.size + 1 < W.heap.size := (Array.getElem?_eq_some_iff.1 hl).1
      exact ⟨hI k _ _ _ hi ⟨hq.os, hq.tape, hq.output, hq.size, fun b hn hb hlt => hq.block b hn (hb.imp (fun h => by omega) id) hlt⟩, n1, n2, Nat.le_trans hsz hq.size,
        (hq.block _ hn1 (.inl (by omega)) hw).trans hl, (hq.block _ hn0 (.inl (by omega)) (by omega)).trans hk⟩
    · rintro S W W2 ⟨c, hi, n1, n2, hsz, hl, hk⟩ hq
      have hw : w.heap.size + 1 < W.heap.size := (Array.getElem?_eq_some_iff.1 hl).1
      exact ⟨c, hIx c _ _ _ hi ⟨hq.os, hq.tape, hq.output, hq.size, fun b hn hb hlt => hq.block b hn (hb.imp (fun h => by omega) id) hlt⟩, n1, n2, Nat.le_trans hsz hq.size,
        (hq.block _ hn1 (.inl (by omega)) hw).trans hl, (hq.block _ hn0 (.inl (by omega)) (by omega)).trans hk⟩
    · rintro k S W hkN ⟨hi, n1, n2, hsz, hl, hk⟩ _
      have hlt : w.heap.size + 1 < W.heap.size := (Array.getElem?_eq_some_iff.1 hl).1
      have hy := run_yield (P := P) (args := encs k) hl (by rw [hrec]; exact hps k)
      rw [hrec] at hy
      refine ⟨fn, _, assign, body, hy, roundIn_of_wpIn trivial (hassign _ k S W _ (by omega) (hS k S W hi) ?_)⟩
      intro a1 Wa hqa hua hax
      have hla := (inner (w.heap.size + 1) _ _ _ _ (by omega) (by omega) hlt n2 hua).1.trans hl
      have hka := (inner w.heap.size _ _ _ _ (by omega) (by omega) (by omega) n1 hua).1.trans hk
      have hsa := hua.size
      refine ⟨_, run_beginRound hla (by rw [hrec]), ?_⟩
      have hlt2 : w.heap.size + 1 < Wa.heap.size := by omega
      have hia := hI k _ _ _ hi (hqa.toO O)
      obtain ⟨W2, hW2⟩ : ∃ W2, Wa.putObj (w.heap.size + 1) (.loop { rec .ready none with state := .busy }) = W2 := ⟨_, rfl⟩
      have hq2 : Quiet w.heap.size S Wa W2 := by rw [← hW2]; exact putObj_quiet _ _ _ (by omega) n2
      have hax2 : Ax k S a1 W2 := by rw [← hW2]; exact hAx _ _ _ _ _ _ _ hax hla
      have hl2 : W2.heap[w.heap.size + 1]? = some (.loop { rec .ready none with state := .busy }) := by rw [← hW2]; exact World.putObj_heap_same hlt2
      have hk2 : W2.heap[w.heap.size]? = some (.deferred (some [])) := by rw [← hW2]; exact (World.putObj_heap_other (by omega)).trans hka
      have hs2 : W2.heap.size = Wa.heap.size := by rw [← hW2]; simp
      rw [hW2]
      refine wpIn_mono (hbody _ k S a1 W2 hkN (hI k _ _ _ hia (hq2.toO O)) hax2 (by omega)) ?_
      have fin : ∀ (jump : Option Code) (S' : Nat → Prop) (W3 : World), Upd w.heap.size S S' W2 W3 → (∀ b, O b → W3.heap[b]? = W2.heap[b]?) →
          ∃ W4, (Instr.endRound (w.heap.size + 1) jump).run P W3 = .ok (.bool jump.isNone) W4 ∧ Upd W1.heap.size S S' W W4 ∧ (∀ b, O b → W4.heap[b]? = W.heap[b]?) ∧ Quiet w.heap.size S' W3 W4 ∧
            ¬ S' w.heap.size ∧ ¬ S' (w.heap.size + 1) ∧ W1.heap.size ≤ W4.heap.size ∧
            W4.heap[w.heap.size + 1]? = some (.loop (rec (if jump.isNone then .ready else .done) jump)) ∧ W4.heap[w.heap.size]? = some (.deferred (some [])) := fun jump S' W3 hu ho3 => by
        have hl3 := (inner (w.heap.size + 1) _ _ _ _ (by omega) (by omega) (by omega) n2 hu)
        have hk3 := (inner w.heap.size _ _ _ _ (by omega) (by omega) (by omega) n1 hu)
        have hl4 := hl3.1.trans hl2
        have hs3 := hu.size
        have hr := run_endRound (P := P) jump hl4
        have e : ({ rec .ready none with state := if jump.isNone then LoopState.ready else LoopState.done, pending := jump } : Loop) = rec (if jump.isNone then .ready else .done) jump := by rw [hrec]
        simp only at hr
        rw [e] at hr
        have hq4 : Quiet w.heap.size S' W3 (W3.putObj (w.heap.size + 1) (.loop (rec (if jump.isNone then .ready else .done) jump))) := putObj_quiet _ _ _ (by omega) hl3.2
        refine ⟨_, hr, ⟨by simp; omega, fun b hB hlt' hs' => ?_⟩, fun b hb => ?_, hq4, hk3.2, hl3.2, by simp; omega, World.putObj_heap_same (by omega), (World.putObj_heap_other (by omega)).trans (hk3.1.trans hk2)⟩
        · obtain ⟨g1, g2⟩ := hua.block b (by omega) hlt' hs'
          obtain ⟨g3, g4⟩ := hu.block b (by omega) (by omega) g2
          refine ⟨(World.putObj_heap_other (by omega)).trans (g3.trans ?_), g4⟩
          rw [← hW2, World.putObj_heap_other (by omega)]
          exact g1
        · obtain ⟨h1, _⟩ := hO b hb
          refine (hq4.block b (.inl h1) (by omega)).trans ((ho3 b hb).trans ?_)
          exact (hq2.block b (.inl h1) (by omega)).trans (hqa.block b (.inl h1) (by omega))
      rintro e a3 W3 hp
      cases e with
      | normal =>
        obtain ⟨S', hu, ho3, hi3⟩ := hp
        obtain ⟨W4, hr, hu4, ho4, hq4, m1, m2, m3, hl4, hk4⟩ := fin none S' W3 hu ho3
        exact ⟨_, _, hr, S', hu4, ho4, .inl ⟨rfl, hI _ _ _ _ hi3 (hq4.toO O), m1, m2, m3, hl4, hk4⟩⟩
      | ret =>
        obtain ⟨S', hu, ho3, hi3⟩ := hp
        obtain ⟨W4, hr, hu4, ho4, hq4, m1, m2, m3, hl4, hk4⟩ := fin (some .ret) S' W3 hu ho3
        exact ⟨_, _, hr, S', hu4, ho4, .inr ⟨rfl, .ret, hIx _ _ _ _ hi3 (hq4.toO O), m1, m2, m3, hl4, hk4⟩⟩
      | exit id =>
        obtain ⟨S', hu, ho3, hi3⟩ := hp
        obtain ⟨W4, hr, hu4, ho4, hq4, m1, m2, m3, hl4, hk4⟩ := fin (some (.exit id)) S' W3 hu ho3
        exact ⟨_, _, hr, S', hu4, ho4, .inr ⟨rfl, .exit id, hIx _ _ _ _ hi3 (hq4.toO O), m1, m2, m3, hl4, hk4⟩⟩
      | goto t =>
        obtain ⟨S', hu, ho3, hi3⟩ := hp
        obtain ⟨W4, hr, hu4, ho4, hq4, m1, m2, m3, hl4, hk4⟩ := fin (some (.goto t)) S' W3 hu ho3
        exact ⟨_, _, hr, S', hu4, ho4, .inr ⟨rfl, .goto t, hIx _ _ _ _ hi3 (hq4.toO O), m1, m2, m3, hl4, hk4⟩⟩
      | panic ch => exact hp.elim
      | outgrown => exact hp.elim
    · rintro e W2 ⟨⟨v, rfl⟩, S, (⟨hi, n1, n2, hsz, hl, hk⟩ | ⟨c, hi, n1, n2, hsz, hl, hk⟩)⟩
      · refine ⟨none, _, by have h := run_endLoop (P := P) hl (by rw [hrec]; simp); rw [hrec] at h; exact h, ?_⟩
        exact hdone _ S _ (Nat.le_refl _) (hI _ _ _ _ hi ((putObj_quiet _ _ _ (by omega) n2).toO O)) ((World.putObj_heap_other (by omega)).trans hk)
      · refine ⟨some c, _, by have h := run_endLoop (P := P) hl (by rw [hrec]; simp); rw [hrec] at h; exact h, ?_⟩
        exact hstop _ c S _ (Nat.le_refl _) (hIx _ _ _ _ hi ((putObj_quiet _ _ _ (by omega) n2).toO O)) ((World.putObj_heap_other (by omega)).trans hk)
end Go.KP
namespace Go.Proofs.YtklgpilgalfckaaGreatDoor
open Go.RowKit Go.KP Go.KI Go.Shelf
attribute [local go_sem] Oper.semAt_some

def SK (A : Option Addr) (n c : Nat) (L : List Ln) (A2 : Option Addr) (m c2 : Nat) (S : List Sz3) (b1 b2 : Nat) (W : World) : Prop :=
  LinesAt W A L ∧ SizesAt W A2 S ∧ W.heap[b1]? = some (boxL A n c) ∧ W.heap[b2]? = some (boxZ A2 m c2)
theorem SK.on {A : Option Addr} {n c : Nat} {L : List Ln} {A2 : Option Addr} {m c2 : Nat} {S : List Sz3} {b1 b2 : Nat} {W W2 : World} (h : SK A n c L A2 m c2 S b1 b2 W) (hb : Below W.heap.size W W2) : SK A n c L A2 m c2 S b1 b2 W2 :=
  ⟨h.1.on hb, h.2.1.on hb, below_blk hb h.2.2.1 (lt_blk h.2.2.1), below_blk hb h.2.2.2 (lt_blk h.2.2.2)⟩
abbrev mbAt (S : List Sz3) (L : List Ln) (k : Nat) : Mb := (outL S L).getD k mb0
def SSt (S : List Sz3) (L : List Ln) (J : Nat → (Nat → Prop) → World → Prop) (n0 : Nat) (i : Nat) (T : Nat → Prop) (wr : World) : Prop :=
  J (outL S (L.take i)).length T wr ∧ n0 ≤ wr.heap.size
theorem sizedSeq_any (A : Option Addr) (n c : Nat) (L : List Ln) (A2 : Option Addr) (m c2 : Nat) (S : List Sz3) (b1 b2 : Nat) (w : World) (hn : L.length = n) (hm : S.length = m) (h60 : n ≤ 60) (h14 : m ≤ 1000000) :
    IterOwn Tryz.prog 72 #[.pointer (some ⟨b1, 0, none⟩), .pointer (some ⟨b2, 0, none⟩)] (fun k => #[lnV (mbAt S L k).1, .agg #[.int .i64 (kindP (mbAt S L k).1.k), .int .i64 (mbAt S L k).2.1, .int .i64 (mbAt S L k).2.2]]) (outL S L).length (fun _ W => SK A n c L A2 m c2 S b1 b2 W) (fun _ => False) w := by
  intro lp J Jx W hown hJ hJx hJS hKe hY h0
  refine callsIn_of_wp Tryz.func72 rfl trivial ?_ rfl
  simp only [Tryz.ntmps72, List.size_toArray, List.length_cons, List.length_nil, Nat.reduceAdd, Nat.reduceSub, Array.replicate_succ, Array.replicate_zero, List.push_toArray, List.append_toArray, List.nil_append, List.cons_append]
  have HK0 := hide (hKe 0 _ W (Nat.zero_le _) h0)
  have HJ := hide hJ; have HJx := hide hJx; have HJS := hide hJS; have HY := hide hY; have H0 := hide h0; have HK := hide hKe; have HN := hide hn; have HM := hide hm
  have c0 := cell_blk HK0.out.2.2.1 0
  have l0 := lt_blk HK0.out.2.2.1
  clear hJ hJx hJS hY h0 hKe hown hn hm
  gi_wp2
  clear c0 l0
  gi_loopw [11] (fun i wr => ∃ (i' : Nat) (T : Nat → Prop), i' ≤ n ∧ i = .int .i64 i' ∧ Hid (SSt S L J W.heap.size i' T wr)) (fun i _ => n - (intOf i).toNat)
  case atStart => exact ⟨0, _, Nat.zero_le _, rfl, hide ⟨H0.out, Nat.le_refl _⟩⟩
  case round =>
    obtain ⟨i, T, hi, rfl, hin⟩ := hrel
    have IN := hide hin.out
    clear hin
    have HKW := hide (HK.out _ T wr (outL_pre S L i) IN.out.1)
    by_cases hlt : i < n
    · have hii : (i : Int) < (n : Int) := by omega
      obtain ⟨l, hl⟩ : ∃ l, l = lnAt L i := ⟨_, rfl⟩
      have HLI := hide hl
      obtain ⟨b, o, rfl, hbl, hcell⟩ := HKW.out.1 i (by rw [HN.out]; exact hlt)
      rw [← hl] at hcell
      have r0 : wr.cell? ⟨b, o + i * 9, none⟩ = some (.int .i64 l.k) := hcell 0 _ rfl
      have r1 : wr.cell? ⟨b, o + i * 9 + 1, none⟩ = some (.string l.a.x) := hcell 1 _ rfl
      have r2 : wr.cell? ⟨b, o + i * 9 + 2, none⟩ = some (.string l.a.y) := hcell 2 _ rfl
      have r3 : wr.cell? ⟨b, o + i * 9 + 3, none⟩ = some (.string l.a.z) := hcell 3 _ rfl
      have r4 : wr.cell? ⟨b, o + i * 9 + 4, none⟩ = some (.string l.b.x) := hcell 4 _ rfl
      have r5 : wr.cell? ⟨b, o + i * 9 + 5, none⟩ = some (.string l.b.y) := hcell 5 _ rfl
      have r6 : wr.cell? ⟨b, o + i * 9 + 6, none⟩ = some (.string l.b.z) := hcell 6 _ rfl
      have r7 : wr.cell? ⟨b, o + i * 9 + 7, none⟩ = some (.int .i64 l.l) := hcell 7 _ rfl
      have r8 : wr.cell? ⟨b, o + i * 9 + 8, none⟩ = some (.int .i64 l.r) := hcell 8 _ rfl
      have HP := hide (pick_ways S l)
      have X1 := hide (heap1 wr (lnO l))
      have HKD := hide (fun w => hkindOf_any l.k w)
      obtain ⟨kd, hkd⟩ : ∃ kd, kd = kindP l.k := ⟨_, rfl⟩
      have HKE := hide hkd
      rw [← hkd] at HKD HP
      clear hl hcell hkd
      gi_wp2
      refine ⟨trivial, rfl, (callsIn_wide.2 (HKD.out _)).mono ?_⟩
      rintro e w1 ⟨rfl, hb1⟩
      have GL := hide (below_blk hb1 X1.out.1 (lt_blk X1.out.1))
      have HB1 := hide (X1.out.2.2.trans (hb1.mono X1.out.2.2.size))
      have X2 := hide (heap1 w1 (.cells #[.int .i64 kd] 3))
      have HB2 := hide (HB1.out.trans (X2.out.2.2.mono HB1.out.size))
      have HK2 := hide (HKW.out.on HB2.out)
      have GL2 := hide (below_blk X2.out.2.2 GL.out (lt_blk GL.out))
      have e2 := cell_blk HK2.out.2.2.2 0
      have l2 := lt_blk HK2.out.2.2.2
      have HI := hide (zIndex_any 74 _ _ A2 m c2 S (w1.alloc (.cells #[.int .i64 kd] 3)) HM.out h14 HK2.out.2.1 (sized11_answers w1.heap.size kd _ X2.out.1))
      clear hb1 r0 r1 r2 r3 r4 r5 r6 r7 r8
      obtain ⟨q, hq⟩ : ∃ q, q = idxF (fun x : Sz3 => decide (x.1 = kd)) 0 S := ⟨_, rfl⟩
      rw [← hq] at HI HP
      clear hq
      gi_wp2
      refine ⟨trivial, rfl, (callsIn_wide.2 HI.out).mono ?_⟩
      rintro e w3 ⟨rfl, hb3⟩
      have HB3 := hide (HB2.out.trans (hb3.mono HB2.out.size))
      have GL3 := hide (below_blk hb3 GL2.out (lt_blk GL2.out))
      have HK3 := hide (HKW.out.on HB3.out)
      have HJQ := hide (fun q => show J (outL S (L.take i)).length T (w3.drewN q) ∧ W.heap.size ≤ (w3.drewN q).heap.size from ⟨HJ.out _ T wr (w3.drewN q) IN.out.1 ((QuietO.refl _ _ _ wr).of_below (below_drewN HB3.out q) (Nat.le_refl _)), Nat.le_trans IN.out.2 HB3.out.size⟩)
      have HJ3 := hide (HJ.out _ T wr w3.drew IN.out.1 ((QuietO.refl _ _ _ wr).of_below HB3.out.drew (Nat.le_refl _)))
      have HS3 := hide (show W.heap.size ≤ w3.drew.heap.size from Nat.le_trans IN.out.2 HB3.out.size)
      have hil : i < L.length := by rw [HN.out]; exact hlt
      clear hb3 e2 l2 HI HK2 HB1 HB2 GL GL2 X1 X2 HKD
      by_cases hkz : kd = 0
      · have HNO := hide (show (outL S (L.take (i + 1))).length = (outL S (L.take i)).length from outL_skip hil (by
          rw [← HLI.out]
          rcases HP.out with ⟨hp, _⟩ | ⟨j, hk0, _⟩
          · exact hp
          · exact absurd hkz hk0))
        subst hkz
        gi_wp2
        refine region_calm ?_
        go_quiet (fail)
        refine calm_normal ?_
        gi_wp2
        go_roundw
        case rel => exact ⟨i + 1, T, by omega, by go_num, hide ⟨by rw [HNO.out]; exact (HJQ.out nq).1, (HJQ.out nq).2⟩⟩
        case measure => simp [intOf]; omega
      · have hkf : decide (kd = 0) = false := decide_eq_false hkz
        rcases HP.out with ⟨hp, hq⟩ | ⟨j, hk0, hj, hzj, hp, hq⟩
        · obtain rfl : q = -1 := hq.resolve_left hkz
          have HNO := hide (show (outL S (L.take (i + 1))).length = (outL S (L.take i)).length from outL_skip hil (by rw [← HLI.out]; exact hp))
          clear hp hq
          gi_wp2
          refine region_calm ?_
          go_quiet (fail)
          refine calm_normal ?_
          gi_wp2
          go_roundw
          case rel => exact ⟨i + 1, T, by omega, by go_num, hide ⟨by rw [HNO.out]; exact (HJQ.out nq).1, (HJQ.out nq).2⟩⟩
          case measure => simp [intOf]; omega
        · subst hq
          obtain ⟨hlt3, hmb, hsn⟩ := outL_next hil (show pkL S (lnAt L i) = some (zAt S j).2 by rw [← HLI.out]; exact hp)
          obtain ⟨b', o', rfl, hbl', hs0, hs1, hs2⟩ := HK3.out.2.1 j hj
          obtain ⟨z, hz⟩ : ∃ z, z = zAt S j := ⟨_, rfl⟩
          rw [← hz] at hs0 hs1 hs2 hzj hmb
          have hyy := HY.out _ T w3.drew hlt3 HJ3.out HS3.out
          rw [show mbAt S L (outL S (L.take i)).length = (l, z.2) by rw [HLI.out]; exact hmb] at hyy
          try dsimp only at hyy
          rw [← HKE.out, ← hzj] at hyy
          obtain ⟨fn, tmps, assign, body, hy, hR⟩ := hyy
          have HR := hide hR
          have HSN := hide hsn
          have HHM := hide (show J ((outL S (L.take i)).length + 1) = J (outL S (L.take (i + 1))).length by rw [hsn])
          have d := fun o => cell_blk GL3.out o
          have ld := lt_blk GL3.out
          have hjm : (j : Int) < (m : Int) := by have := HM.out; omega
          have hjn : j < m := by have := HM.out; omega
          have e2 := cell_blk HK3.out.2.2.2 0
          have l2 := lt_blk HK3.out.2.2.2
          clear hR hlt3 hmb hsn hp hk0 hz hzj
          gi_wp2
          gi_region_with (refine ⟨rfl, HR.out.mono ?_⟩; rintro e W5 h5; obtain ⟨bv, he5, g5⟩ : ∃ bv, e = .returned (.bool bv) ∧ ∃ S', Upd W.heap.size T S' w3.drew W5 ∧ ((bv = true ∧ J ((outL S (L.take i)).length + 1) S' W5) ∨ (bv = false ∧ Jx S' W5)) := (by obtain ⟨S', hu, _, ⟨h1, h2⟩ | ⟨h1, h2⟩⟩ := h5; exact ⟨true, h1, S', hu, .inl ⟨rfl, h2⟩⟩; exact ⟨false, h1, S', hu, .inr ⟨rfl, h2⟩⟩); have H5 := hide g5; clear g5 h5; subst he5; clear hy HR d ld e2 l2)
          all_goals
            obtain ⟨S', hu, ⟨rfl, hj3⟩ | ⟨rfl, hj3⟩⟩ := H5.out
            · rw [HHM.out] at hj3
              have HJ5 := hide hj3
              have HS5 := hide (Nat.le_trans HS3.out hu.size)
              clear hu hj3
              gi_wp2
              go_roundw
              case rel => exact ⟨i + 1, S', by omega, by go_num, hide ⟨HJ5.out, HS5.out⟩⟩
              case measure => simp [intOf]; omega
            · clear hu
              gi_wp2
              refine bodyPost_ret (results_none rfl _ _ _) rfl ?_
              exact ⟨⟨_, rfl⟩, S', .inr hj3⟩
    · have hii : ((i : Int) < (n : Int)) = False := eq_false (by omega)
      have HE := hide (show (outL S (L.take i)).length = (outL S L).length by rw [List.take_of_length_le (by have := HN.out; omega)])
      clear hlt
      gi_wp2
      refine bodyPost_end (results_none rfl _ _ _) rfl ?_
      exact ⟨⟨_, rfl⟩, T, .inl (by rw [← HE.out]; exact IN.out.1)⟩
open Go.RowKit Go.KP Go.KI Go.Shelf
attribute [local go_sem] Oper.semAt_some

abbrev mbE (x : Mb) : Int := ofE x.1 x.2.1 x.2.2
def firstE : List Mb → Int
  | [] => 0
  | x :: r => if mbE x ≠ 0 then mbE x else firstE r
theorem errL_first (S : List Sz3) (L : List Ln) : errL S L = firstE (outL S L) := by
  induction L with
  | nil => rfl
  | cons x r ih =>
    unfold errL outL at ih ⊢
    rw [errA_cons, outA_cons]
    cases pkL S x with
    | none => exact ih
    | some s =>
      show (if erL x s ≠ 0 then erL x s else errA (pkL S) erL r) = if mbE (x, s) ≠ 0 then mbE (x, s) else firstE (outA (pkL S) mkL r)
      rw [ih]
theorem firstE_ok {l : List Mb} (h : ∀ t, t < l.length → mbE (l.getD t mb0) = 0) : firstE l = 0 := by
  induction l with
  | nil => rfl
  | cons x r ih =>
    unfold firstE
    rw [if_neg (fun g => g (h 0 (by simp)))]
    exact ih fun t ht => h (t + 1) (by simpa using ht)
theorem firstE_at : ∀ {l : List Mb} {k : Nat}, k < l.length → (∀ t, t < k → mbE (l.getD t mb0) = 0) → mbE (l.getD k mb0) ≠ 0 → firstE l = mbE (l.getD k mb0) := by
  intro l
  induction l with
  | nil => intro k hk; exact absurd hk (by simp)
  | cons x r ih =>
    intro k hk h hE
    unfold firstE
    cases k with
    | zero => exact if_pos hE
    | succ k =>
      rw [if_neg (fun g => g (h 0 (by omega)))]
      exact ih (by simpa using hk) (fun t ht => h (t + 1) (by omega)) hE
theorem set_off {w : World} {b c o : Nat} {x : Obj} (h : w.heap[b]? = some x) (hne : c ≠ b) (v : Value) : (w.setCell ⟨c, o, none⟩ v).heap[b]? = some x :=
  (Below.heap_setCell _ _ _ _ (fun e => hne e.symm)).trans h
theorem put_two {w W : World} {u v : Value} {z y : Int} (h0 : W.heap[w.heap.size + 1]? = some (.cells #[u] 36 (0, 0))) (h1 : W.heap[w.heap.size + 2]? = some (.cells #[.int .i64 z] 33 (0, 0))) (hb : Below w.heap.size w W) :
    ((W.setCell ⟨w.heap.size + 1, 0, none⟩ v).setCell ⟨w.heap.size + 2, 0, none⟩ (.int .i64 y)).heap[w.heap.size + 1]? = some (.cells #[v] 36 (0, 0)) ∧
    ((W.setCell ⟨w.heap.size + 1, 0, none⟩ v).setCell ⟨w.heap.size + 2, 0, none⟩ (.int .i64 y)).heap[w.heap.size + 2]? = some (.cells #[.int .i64 y] 33 (0, 0)) ∧
    Below w.heap.size w ((W.setCell ⟨w.heap.size + 1, 0, none⟩ v).setCell ⟨w.heap.size + 2, 0, none⟩ (.int .i64 y)) ∧
    ((W.setCell ⟨w.heap.size + 1, 0, none⟩ v).setCell ⟨w.heap.size + 2, 0, none⟩ (.int .i64 y)).heap.size = W.heap.size ∧
    ∀ b, b ≠ w.heap.size + 1 → b ≠ w.heap.size + 2 → ((W.setCell ⟨w.heap.size + 1, 0, none⟩ v).setCell ⟨w.heap.size + 2, 0, none⟩ (.int .i64 y)).heap[b]? = W.heap[b]? := by
  refine ⟨set_off (set_at (i := 0) h0) (by omega) _, set_at (i := 0) (set_off h1 (by omega) _), (hb.setCell (p := ⟨w.heap.size + 1, 0, none⟩) (by simp) _).setCell (p := ⟨w.heap.size + 2, 0, none⟩) (by simp) _, by simp [World.setCell], fun b n1 n2 => ?_⟩
  exact (Below.heap_setCell _ _ _ _ (fun e => n2 e)).trans (Below.heap_setCell _ _ _ _ (fun e => n1 e))
theorem exit_all {a : Act} {W : World} {b0 b1 : Nat} {v : Value} {z : Int} (h0 : W.heap[b0]? = some (.cells #[v] 36 (0, 0))) (h1 : W.heap[b1]? = some (.cells #[.int .i64 z] 33 (0, 0)))
    (h2 : a.tmps[4]? = some (.pointer (some ⟨b0, 0, none⟩))) (h3 : a.tmps[5]? = some (.pointer (some ⟨b1, 0, none⟩))) :
    (results Tryz.f10 a.tmps).run Tryz.prog W = .ok (.tuple #[v, .int .i64 z]) W := by
  have c0 := fun o => cell_blk h0 o
  have c1 := fun o => cell_blk h1 o
  simp [results, go_sem, c0, c1, h2, h3]
theorem outL_one {S : List Sz3} {L : List Ln} {k : Nat} (hk : k < (outL S L).length) : (outL S L).take (k + 1) = (outL S L).take k ++ [mbAt S L k] := by
  rw [List.take_succ_eq_append_getElem hk]
  simp [hk]
theorem hAll_any (A : Option Addr) (n c : Nat) (L : List Ln) (A2 : Option Addr) (m c2 : Nat) (S : List Sz3) (B : Nat) (w : World) (hB : B ≤ w.heap.size) (hT : PQ B w) (hn : L.length = n) (hm : S.length = m) (h60 : n ≤ 60) (h14 : m ≤ 1000000) (hcap : m ≤ c2)
    (hf : fewL L) (hc : LinesAt w A L) (hc2 : SizesAt w A2 S) :
    Calls Tryz.prog 10 #[roofV A n c, .slice A2 m c2] w (AllAt w S L) := by
  have HT := hide hT
  refine (callsIn_wide (n := 0)).1 ?_
  refine callsIn_of_wp_marks Tryz.func10 rfl trivial ?_ rfl
  simp only [Tryz.ntmps10, List.size_toArray, List.length_cons, List.length_nil, Nat.reduceAdd, Nat.reduceSub, Array.replicate_succ, Array.replicate_zero, List.push_toArray, List.append_toArray, List.nil_append, List.cons_append]
  obtain ⟨Y0, Y1, Y2, y4, Y5⟩ := heap3 w (roofO A n c) (.cells #[.slice none 0 0] 36) (.cells #[.int .i64 0] 33)
  have HV := hide (hvalid_any A2 m c2 S (((w.alloc (roofO A n c)).alloc (.cells #[.slice none 0 0] 36)).alloc (.cells #[.int .i64 0] 33)) hm h14 hcap (hc2.on Y5))
  have HC := hide hc; have HC2 := hide hc2; have HN := hide hn; have HM := hide hm; have HF := hide hf
  have HY := hide (And.intro Y0 (And.intro Y1 (And.intro Y2 (And.intro y4 Y5))))
  clear hT hn hm hf hc hc2 Y0 Y1 Y2 y4 Y5
  gi_wp2
  refine ⟨trivial, rfl, (callsIn_wide.2 HV.out).mono ?_⟩
  rintro e w1 ⟨rfl, hb1⟩
  obtain ⟨Y0, Y1, Y2, y4, Y5⟩ := HY.out
  have C0 := hide (below_blk hb1 Y0 (lt_blk Y0)); have C1 := hide (below_blk hb1 Y1 (lt_blk Y1)); have C2 := hide (below_blk hb1 Y2 (lt_blk Y2))
  have HB1 := hide (Y5.trans (hb1.mono Y5.size))
  have hs1 : w.heap.size + 3 ≤ w1.heap.size := by have := hb1.size; omega
  clear hb1 Y0 Y1 Y2 y4 Y5 HY HV
  have k1 := cell_blk C1.out 0
  have k2 := cell_blk C2.out 0
  have f1 := froz_blk C1.out 0
  have f2 := froz_blk C2.out 0
  cases hv : validS S
  · have HE := hide (allE_bad (L := L) hv)
    clear hv
    obtain ⟨p1, p2, p3, p4, p5⟩ := put_two (v := .slice none 0 0) (y := 1) C1.out C2.out HB1.out
    gi_wp2
    exact ⟨_, exit_all p1 p2 rfl rfl, all_fail HE.out (by decide) p3⟩
  · have c3 := cell_blk C0.out 3
    have HVv := hide hv
    have l0 := lt_blk C0.out
    clear hv
    gi_wp2
    refine ⟨trivial, rfl, (callsIn_wide.2 (hsized_any A n c A2 m c2 _)).mono ?_⟩
    rintro e w4 ⟨rfl, hw4⟩
    obtain ⟨Z0, Z1, Z2, z4, Z5⟩ := heap3 w1 (.cells #[.slice none 0 0] 36) (boxL A n c) (boxZ A2 m c2)
    rw [← hw4] at Z0 Z1 Z2 z4 Z5
    have HB4 := hide (HB1.out.trans (Z5.mono HB1.out.size))
    have D1 := hide (below_blk Z5 C1.out (lt_blk C1.out)); have D2 := hide (below_blk Z5 C2.out (lt_blk C2.out))
    have E0 := hide Z0; have E1 := hide Z1; have E2 := hide Z2
    have HSK := hide (show SK A n c L A2 m c2 S (w1.heap.size + 1) (w1.heap.size + 2) w4 from ⟨HC.out.on HB4.out, HC2.out.on HB4.out, Z1, Z2⟩)
    obtain ⟨i0, hi0, hz0, hz1, hz2⟩ := info_parts info32
    have hs4 : w4.heap.size = w1.heap.size + 3 := z4
    clear hw4 Z0 Z1 Z2 z4 Z5 c3 l0 k1 k2 f1 f2 C0 C1 C2
    gi_wp2
    refine wp_iter_own (gf := 72) (lb := #[.pointer (some ⟨w1.heap.size + 1, 0, none⟩), .pointer (some ⟨w1.heap.size + 2, 0, none⟩)]) rfl (enters_of Tryz.func72 (by kernel_rfl) rfl)
      (sizedSeq_any A n c L A2 m c2 S (w1.heap.size + 1) (w1.heap.size + 2) w4 HN.out HM.out h60 h14) (fun b hb => hb.elim) (fun _ => rfl)
      (fun k T W => ∃ v, T = OwnOf v ∧ W.heap[w.heap.size + 1]? = some (.cells #[.slice none 0 0] 36 (0, 0)) ∧ W.heap[w.heap.size + 2]? = some (.cells #[.int .i64 0] 33 (0, 0)) ∧ W.heap[w1.heap.size]? = some (.cells #[v] 36 (0, 0)) ∧
      SK A n c L A2 m c2 S (w1.heap.size + 1) (w1.heap.size + 2) W ∧ W.ownsRow w4.heap.size 32 11 v k (mcells ((outL S L).take k)) ∧ (∀ t, t < k → mbE (mbAt S L t) = 0) ∧ Below w.heap.size w W)
      (fun c T W => ∃ E, c = .ret ∧ allE S L = E ∧ E ≠ 0 ∧ W.heap[w.heap.size + 1]? = some (.cells #[.slice none 0 0] 36 (0, 0)) ∧ W.heap[w.heap.size + 2]? = some (.cells #[.int .i64 E] 33 (0, 0)) ∧ Below w.heap.size w W ∧ w4.heap.size ≤ W.heap.size) ?hI ?hIx ?h0 ?hke
      (fun k T a1' W => ∃ (b7 b8 : Nat) (x : Mb), x = (outL S L)[k]?.getD mb0 ∧ W.heap[b7]? = some (lnO x.1) ∧ W.heap[b8]? = some (.cells #[.int .i64 (kindP x.1.k), .int .i64 x.2.1, .int .i64 x.2.2] 59 (0, 0)) ∧
        a1' = { tmps := #[roofV A n c, .slice A2 m c2, .pointer (some ⟨w.heap.size, 0, none⟩), undef, .pointer (some ⟨w.heap.size + 1, 0, none⟩), .pointer (some ⟨w.heap.size + 1 + 1, 0, none⟩), .pointer (some ⟨w1.heap.size, 0, none⟩), .pointer (some ⟨b7, 0, none⟩), .pointer (some ⟨b8, 0, none⟩), undef, undef, .slice A2 m c2, .bool true, .bool false, .pointer (some ⟨w.heap.size, 3, none⟩), .slice A n c, .slice A2 m c2, .func (.func 72) #[] #[.pointer (some ⟨w1.heap.size + 1, 0, none⟩), .pointer (some ⟨w1.heap.size + 1 + 1, 0, none⟩)], lnV x.1, .agg #[.int .i64 (kindP x.1.k), .int .i64 x.2.1, .int .i64 x.2.2], undef, undef, undef, undef, undef, undef, undef, undef, undef, undef, undef, undef, undef, undef, undef, undef, undef, undef, undef, undef], defers := [] })
      ?hAx ?hassign ?hS ?hbody ?hdone ?hstop
    case h0 => exact ⟨.slice none 0 0, by funext b; simp [OwnOf, Value.ownBlock], D1.out, D2.out, E0.out, HSK.out, World.ownsRow_nil _ _ _ _, fun t ht => absurd ht (by omega), HB4.out⟩
    case hke =>
      rintro k T W _ ⟨v, _, _, _, _, hsk, _⟩
      exact hsk
    case hS =>
      rintro k T W ⟨v, rfl, _, _, _, _, hown, _⟩ b hb
      exact owns_lt hown b hb
    case hI =>
      rintro k T W W2 ⟨v, rfl, e1, e2, e0, hsk, hown, hok, hb⟩ hq
      have e : ∀ {b : Nat} {o : Obj}, b < w1.heap.size + 3 → W.heap[b]? = some o → W2.heap[b]? = some o := fun {b} {o} hb h => (hq.block b (fun f => f) (.inl (by omega)) (lt_blk h)).trans h
      have hb2 : Below w.heap.size w W2 := ⟨hq.os.trans hb.os, hq.tape.trans hb.tape, hq.output.trans hb.output, Nat.le_trans hb.size hq.size, fun j hj => (hq.block j (fun f => f) (.inl (by omega)) (by have := hb.size; omega)).trans (hb.block j hj)⟩
      exact ⟨v, rfl, e (by omega) e1, e (by omega) e2, e (by omega) e0, ⟨HC.out.on hb2, HC2.out.on hb2, e (by omega) hsk.2.2.1, e (by omega) hsk.2.2.2⟩, owns_stay hown (fun r hr => hq.block r (fun f => f) (.inr hr) (hown.lt r hr).2), hok, hb2⟩
    case hIx =>
      rintro c T W W2 ⟨E, rfl, hE, hne, e1, e2, hb, hsz⟩ hq
      have e : ∀ {b : Nat} {o : Obj}, b < w1.heap.size + 3 → W.heap[b]? = some o → W2.heap[b]? = some o := fun {b} {o} hb h => (hq.block b (fun f => f) (.inl (by omega)) (lt_blk h)).trans h
      exact ⟨E, rfl, hE, hne, e (by omega) e1, e (by omega) e2, ⟨hq.os.trans hb.os, hq.tape.trans hb.tape, hq.output.trans hb.output, Nat.le_trans hb.size hq.size, fun j hj => (hq.block j (fun f => f) (.inl (by omega)) (by have := hb.size; omega)).trans (hb.block j hj)⟩, Nat.le_trans hsz hq.size⟩
    case hstop =>
      rintro D c T W hD ⟨E, rfl, hE, hne, e1, e2, hb, hsz⟩ hK
      have HK := hide hK
      have HE := hide hE; have HNE := hide hne
      have E1 := hide e1; have E2 := hide e2; have HB := hide hb
      clear hK hE hne e1 e2 hb
      gi_wp2
      refine ⟨by simp, .inl ⟨_, _, rfl, run_takeDeferred HK.out, ?_⟩⟩
      exact ⟨_, exit_all ((World.putObj_heap_other (by omega)).trans E1.out) ((World.putObj_heap_other (by omega)).trans E2.out) rfl rfl, all_fail HE.out HNE.out (HB.out.trans (belowK_b (w := w) (Nat.le_refl _) W D _ _ (by omega) HK.out rfl rfl))⟩
    case hdone =>
      rintro D T W hD ⟨v, rfl, e1, e2, e0, hsk, hown, hok, hb⟩ hK
      rw [List.take_length] at hown
      obtain ⟨va, vc, rfl⟩ := owns_form hown
      have HEr := hide (show errL S L = 0 by rw [errL_first]; exact firstE_ok hok)
      have hol : (outL S L).length ≤ 60 := by have := outL_le S L; have := HN.out; omega
      have q1 : ((512 : Int) < ((outL S L).length : Int)) = False := eq_false (by omega)
      have c0 := cell_blk e0 0
      have c1 := cell_blk e1 0
      have c2 := cell_blk e2 0
      have f1 := froz_blk e1 0
      have f2 := froz_blk e2 0
      have l0 := lt_blk e0
      obtain ⟨p1, p2, p3, p4, p5⟩ := put_two (v := .slice va (outL S L).length vc) (y := 0) e1 e2 hb
      have P1 := hide p1; have P2 := hide p2; have P3 := hide p3
      have HO := hide (owns_stay hown (fun r hr => p5 r (by have := (hown.lt r hr).1; omega) (by have := (hown.lt r hr).1; omega)))
      have HK := hide ((p5 D (by omega) (by omega)).trans hK)
      have P4 := hide p4
      clear hown hok hb hK e0 e1 e2 hsk p1 p2 p3 p4 p5
      gi_wp2
      refine ⟨by simp, .inl ⟨_, _, rfl, run_takeDeferred HK.out, ?_⟩⟩
      exact ⟨_, exit_all ((World.putObj_heap_other (by omega)).trans P1.out) ((World.putObj_heap_other (by omega)).trans P2.out) rfl rfl, all_ret HVv.out HEr.out (ownsRow_putObj HO.out _ HK.out rfl) (P3.out.trans (belowK_b (w := w) (Nat.le_refl _) _ D _ _ (by omega) HK.out rfl rfl))⟩
    case hAx =>
      rintro k T a1 W l r r2 ⟨b7, b8, x, hx, h7, h8, ha⟩ hl
      exact ⟨b7, b8, x, hx, (World.putObj_heap_other (by rintro rfl; rw [hl] at h7; cases h7)).trans h7, (World.putObj_heap_other (by rintro rfl; rw [hl] at h8; cases h8)).trans h8, ha⟩
    case hassign =>
      intro lp k T W K hsz hSlt hK
      gi_wp2
      exact hK _ _ (((Quiet.refl _ _ _).alloc _).alloc _) (((Upd.refl _ _ _).alloc _).alloc _) ⟨W.heap.size, W.heap.size + 1, _, rfl, (heap2 W _ _).1, (heap2 W _ _).2.1, rfl⟩
    case hbody =>
      rintro lp k T a1' W hk ⟨v, rfl, e1, e2, e0, hsk, hown, hok, hb⟩ ⟨b7, b8, x, hx, h7, h8, rfl⟩ hsz
      have HX := hide (show x = mbAt S L k by rw [hx]; simp [mbAt])
      have TL := hide (show tinyL x.1 by
        have hm : x ∈ outL S L := by
          rw [HX.out]
          simp only [mbAt, List.getD_eq_getElem?_getD, List.getElem?_eq_getElem hk, Option.getD_some]
          exact List.getElem_mem hk
        obtain ⟨y, s, hy, _, he⟩ := outA_mem _ _ hm
        obtain ⟨i, hi, e⟩ := List.getElem_of_mem hy
        have h := HF.out.2 i hi
        rw [he]
        show tinyL y
        rw [← e]
        simpa [lnAt, hi] using h)
      have HOF := hide (hOf_any x.1 x.2.1 x.2.2 TL.out B W (Nat.le_trans hB hb.size) (HT.out.on hb hB))
      have d7 := fun o => cell_blk h7 o
      have d8 := fun o => cell_blk h8 o
      have l7 := lt_blk h7
      have l8 := lt_blk h8
      obtain ⟨mk, mf, mo, ma, mb, mx, my, hmv, hmc⟩ := ofV_form x.1 x.2.1 x.2.2
      rw [hmv] at HOF
      have E0' := hide e0; have E1 := hide e1; have E2 := hide e2; have HO := hide hown; have HOK := hide hok; have HB := hide hb; have HMC := hide hmc; have HS := hide hsk
      clear e0 e1 e2 hown hok hb hmc hmv hx hsk
      gi_wp2
      refine ⟨trivial, rfl, (CallsIn.inRound lp (callsIn_wide.2 HOF.out)).mono ?_⟩
      rintro e w2 ⟨rfl, hb2⟩
      have G0 := hide (below_blk hb2 E0'.out (lt_blk E0'.out))
      have G1 := hide (below_blk hb2 E1.out (lt_blk E1.out))
      have G2 := hide (below_blk hb2 E2.out (lt_blk E2.out))
      have HO2 := hide (owns_stay HO.out (fun r hr => hb2.block r (HO.out.lt r hr).2))
      have HS2 := hide (HS.out.on hb2)
      have HB2 := hide (HB.out.trans (hb2.mono HB.out.size))
      have HU2 := hide (fun S => (Upd.refl w4.heap.size S W).of_below hb2 (Nat.le_refl _))
      have hsz2 : W.heap.size ≤ w2.heap.size := hb2.size
      clear hb2 d7 d8 l7 l8 HOF h7 h8 E0' E1 E2 HO HS HB
      obtain ⟨E, hE⟩ : ∃ E, E = ofE x.1 x.2.1 x.2.2 := ⟨_, rfl⟩
      rw [← hE] at HMC ⊢
      have HE := hide hE
      clear hE
      obtain ⟨M, hM⟩ : ∃ M, M = memTO mk mf mo ma mb mx my := ⟨_, rfl⟩
      have Y := hide (heap1 w2 (memTO mk mf mo ma mb mx my))
      by_cases hz : E = 0
      · subst hz
        have HMC2 := hide (HMC.out rfl)
        have HA := hide (show mbE (mbAt S L k) = 0 by rw [← HX.out]; exact HE.out.symm)
        have c0 := cell_blk G0.out 0
        have f0 := froz_blk G0.out 0
        have l0 := lt_blk G0.out
        have hkl : k < 61 := by have := outL_le S L; have := HN.out; omega
        gi_wp2_with (gi_at_builtin; refine in_append _ rfl (.tmp 32) (.tmp 34) 36 rfl w4.heap.size 32 i0 mem0V 11 136 Tryz.underlying36 hi0 hz0 hz1 hz2 rfl (by decide) _ _ _ rfl ((HO2.out.alloc _).alloc _) ⟨w2.heap.size + 1, 0, none⟩ 1 1 [.int .i64 mk, .int .i64 mf, .int .i64 mo, .string ma.x, .string ma.y, .string ma.z, .string mb.x, .string mb.y, .string mb.z, .int .i64 mx, .int .i64 my] rfl rfl (World.news_of_block (cs := #[.int .i64 mk, .int .i64 mf, .int .i64 mo, .string ma.x, .string ma.y, .string ma.z, .string mb.x, .string mb.y, .string mb.z, .int .i64 mx, .int .i64 my]) (t := 32) (fr := (0, 0)) (heap2 w2 _ _).2.1) (by simp [Value.oneCell']) (by omega) (by simp only [maxLen]; omega) (by omega) (by simp; omega) ?_; intro g2 cap2 w3 hown2 hg2 hat2 hlt2; have hblk := fun b (hb : b < w4.heap.size) => ((hg2.block b (by simp; omega) (owns_ne HO2.out (by omega))).trans (Below.heap_alloc _ _ _ (by simp; omega))).trans (Below.heap_alloc _ _ _ (show b < w2.heap.size by omega)); have c4 := (World.cell?_of_block (a := ⟨w1.heap.size, 0, none⟩) (hblk _ (by simp; omega))).trans c0; have f4 := (World.frozen?_of_block (a := ⟨w1.heap.size, 0, none⟩) (hblk _ (by simp; omega))).trans f0; have HBk := hide hblk; have HOW2 := hide hown2; have HG2 := hide hg2; have HA2 := hide hat2; clear hblk hown2 hg2 hat2)
        have HBF := hide ((((HB2.out.alloc HB2.out.size _).alloc (HB2.out.alloc HB2.out.size _).size _).grown HG2.out (by simp; omega) (owns_ge HO2.out (by omega))).setCell (p := ⟨w1.heap.size, 0, none⟩) (by simp; omega) (.slice (some ⟨g2, 0, none⟩) (k + 1) cap2))
        refine ⟨OwnOf (.slice (some ⟨g2, 0, none⟩) (k + 1) cap2), upd_append (b := w1.heap.size) (by omega) (((HU2.out _).alloc _).alloc _) HG2.out HA2.out, fun b hb => hb.elim, .slice (some ⟨g2, 0, none⟩) (k + 1) cap2, rfl,
          set_off ((HBk.out _ (by omega)).trans G1.out) (by omega) _, set_off ((HBk.out _ (by omega)).trans G2.out) (by omega) _, set_at (i := 0) ((HBk.out _ (by omega)).trans G0.out),
          ⟨HC.out.on HBF.out, HC2.out.on HBF.out, set_off ((HBk.out _ (by omega)).trans HS2.out.2.2.1) (by omega) _, set_off ((HBk.out _ (by omega)).trans HS2.out.2.2.2) (by omega) _⟩, ?_, ?_, HBF.out⟩
        · have e : mbCs x = [.int .i64 mk, .int .i64 mf, .int .i64 mo, .string ma.x, .string ma.y, .string ma.z, .string mb.x, .string mb.y, .string mb.z, .int .i64 mx, .int .i64 my] := HMC2.out.symm
          rw [outL_one hk, mcells_snoc, ← HX.out, e]
          exact owns_stay HOW2.out (fun r hr => Below.heap_setCell _ _ _ _ (by have := (HOW2.out.lt r hr).1; simp; omega))
        · intro t ht
          rcases Nat.lt_or_ge t k with h | h
          · exact HOK.out t h
          · rw [show t = k by omega]; exact HA.out
      · have hzb : (E == 0) = false := by simpa using hz
        have hzn : (E != 0) = true := by simpa using hz
        have HA := hide (show allE S L = E by
          rw [allE_err HVv.out, errL_first, firstE_at hk HOK.out (by show mbE (mbAt S L k) ≠ 0; rw [← HX.out]; show ofE x.1 x.2.1 x.2.2 ≠ 0; rw [← HE.out]; exact hz)]
          show mbE (mbAt S L k) = E
          rw [← HX.out]
          exact HE.out.symm)
        have HZ := hide hz
        clear hz
        have c1 := cell_blk G1.out 0
        have c2 := cell_blk G2.out 0
        have f1 := froz_blk G1.out 0
        have f2 := froz_blk G2.out 0
        have l1 := lt_blk G1.out
        have l2 := lt_blk G2.out
        obtain ⟨p1, p2, p3, p4, p5⟩ := put_two (v := .slice none 0 0) (y := E) G1.out G2.out HB2.out
        have P1 := hide p1; have P2 := hide p2; have P3 := hide p3; have P4 := hide p4
        clear p1 p2 p3 p4 p5
        gi_wp2
        exact ⟨OwnOf v, (((HU2.out _).setBox (p := ⟨w.heap.size + 1, 0, none⟩) (by simp; omega) _).setBox (p := ⟨w.heap.size + 2, 0, none⟩) (by simp; omega) _).alloc _, fun b hb => hb.elim, E, rfl, HA.out, HZ.out, (Below.heap_alloc _ _ _ (lt_blk P1.out)).trans P1.out, (Below.heap_alloc _ _ _ (lt_blk P2.out)).trans P2.out, P3.out.alloc P3.out.size _, by simp; omega⟩
end Go.Proofs.YtklgpilgalfckaaGreatDoor
