/-
  Texts laid together.
-/
import Derived.Test.YtklgpilgalfckaaGreatDoorMN13
import Derived.Test.YtklgpilgalfckaaGreatDoorMN3
import Derived.Test.YtklgpilgalfckaaGreatDoorMN12
import Derived.Test.YtklgpilgalfckaaGreatDoorMN2
import Derived.Maps.OwnOps
import Derived.Maps.Views
import Derived.Deep.DeepCutAuto
set_option maxRecDepth 100000
set_option maxHeartbeats 16000000
namespace Go.Proofs.YtklgpilgalfckaaGreatDoor
open Go.RowKit Go.KP Go.KI Go.Shelf
attribute [local go_sem] Oper.semAt_some

theorem size_ways (P R : List Sz3) (s : Sz3) :
    ((s.1 < 1 ∨ (¬ s.1 < 1 ∧ 12 < s.1)) ∧ validFrom P (s :: R) = false) ∨
    (1 ≤ s.1 ∧ s.1 ≤ 12 ∧ (s.2.1 < 1 ∨ (¬ s.2.1 < 1 ∧ 1000 < s.2.1)) ∧ validFrom P (s :: R) = false) ∨
    (1 ≤ s.1 ∧ s.1 ≤ 12 ∧ 1 ≤ s.2.1 ∧ s.2.1 ≤ 1000 ∧ (s.2.2 < 1 ∨ (¬ s.2.2 < 1 ∧ 1000 < s.2.2)) ∧ validFrom P (s :: R) = false) ∨
    (1 ≤ s.1 ∧ s.1 ≤ 12 ∧ 1 ≤ s.2.1 ∧ s.2.1 ≤ 1000 ∧ 1 ≤ s.2.2 ∧ s.2.2 ≤ 1000 ∧ ((P.any (fun x => decide (x.1 = s.1)) = true ∧ validFrom P (s :: R) = false) ∨ (P.any (fun x => decide (x.1 = s.1)) = false ∧ validFrom P (s :: R) = validFrom (P ++ [s]) R))) := by
  by_cases h : sizeOK s = true
  · have h' := h
    unfold sizeOK at h
    simp only [Bool.and_eq_true, decide_eq_true_eq] at h
    obtain ⟨⟨⟨h1, h2⟩, h3, h4⟩, h5, h6⟩ := h
    refine .inr (.inr (.inr ⟨h1, h2, h3, h4, h5, h6, ?_⟩))
    cases hp : P.any (fun x => decide (x.1 = s.1))
    · exact .inr ⟨rfl, validFrom_true h' hp⟩
    · exact .inl ⟨rfl, validFrom_false (.inr hp)⟩
  · have hf : sizeOK s = false := by simpa using h
    have e := validFrom_false (P := P) (R := R) (.inl hf)
    rw [e]
    unfold sizeOK at hf
    simp only [Bool.and_eq_false_iff, decide_eq_false_iff_not] at hf
    by_cases h1 : 1 ≤ s.1 ∧ s.1 ≤ 12
    · by_cases h2 : 1 ≤ s.2.1 ∧ s.2.1 ≤ 1000
      · have h3 : ¬ (1 ≤ s.2.2 ∧ s.2.2 ≤ 1000) := by
          rcases hf with (hf | hf) | hf
          · exact absurd h1 hf
          · exact absurd h2 hf
          · exact hf
        exact .inr (.inr (.inl ⟨h1.1, h1.2, h2.1, h2.2, by omega, rfl⟩))
      · exact .inr (.inl ⟨h1.1, h1.2, by omega, rfl⟩)
    · exact .inl ⟨by omega, rfl⟩
theorem hvalid_any (A : Option Addr) (n c : Nat) (S : List Sz3) (w : World) (hn : S.length = n) (hmax : n ≤ 1000000) (hcap : n ≤ c) (hc : SizesAt w A S) :
    Calls Tryz.prog 36 #[.slice A n c] w (Ret w (.bool (validS S))) := by
  have HC := hide hc; have HN := hide hn
  have HI := hide (show validS S = validFrom (S.take 0) (S.drop 0) from rfl)
  obtain ⟨V, hV⟩ : ∃ V, V = validS S := ⟨_, rfl⟩
  rw [← hV] at HI ⊢
  clear hc hn hV
  go_enter Tryz.func36, Tryz.ntmps36
  go_wp2_with fail
  go_loopw [7] (fun i wr => ∃ k : Nat, k ≤ n ∧ i = .int .i64 k ∧ Below w.heap.size w wr ∧ Hid (V = validFrom (S.take k) (S.drop k))) (fun i _ => n - (intOf i).toNat)
  case atStart => exact ⟨0, Nat.zero_le _, rfl, Below.refl _ _, HI⟩
  case round =>
    obtain ⟨k, hk, rfl, hb, hinv⟩ := hrel
    by_cases hlt : k < n
    · obtain ⟨b, o, rfl, hbl, hc1, hc2, hc3⟩ := HC.out k (by rw [HN.out]; exact hlt)
      have r1 := (hb.cell (p := ⟨b, o + k * 3, none⟩) hbl).trans hc1
      have r2 := (hb.cell (p := ⟨b, o + k * 3 + 1, none⟩) hbl).trans hc2
      have r3 := (hb.cell (p := ⟨b, o + k * 3 + 2, none⟩) hbl).trans hc3
      have hl : k < S.length := by rw [HN.out]; exact hlt
      have hst : validFrom (S.take k) (S.drop k) = validFrom (S.take k) (zAt S k :: S.drop (k + 1)) := by
        rw [List.drop_eq_getElem_cons hl]
        simp [zAt, hl]
      have htk : S.take k ++ [zAt S k] = S.take (k + 1) := by
        rw [List.take_add_one]
        simp [zAt, hl]
      have hsw := size_ways (S.take k) (S.drop (k + 1)) (zAt S k)
      rw [← hst, htk] at hsw
      have HZ := hide (HC.out.take k)
      have HL := hide (show (S.take k).length = k by rw [List.length_take]; omega)
      clear hst htk hc1 hc2 hc3 hl
      obtain ⟨z, hz⟩ : ∃ z, z = zAt S k := ⟨_, rfl⟩
      rw [← hz] at r1 r2 r3 hsw
      clear hz
      have X0 := hide (heap1 wr (szO z))
      have HB0 := hide (hb.trans (X0.out.2.2.mono hb.size))
      rcases hsw with ⟨h1, e⟩ | ⟨h1, h2, h3, e⟩ | ⟨h1, h2, h3, h4, h5, e⟩ | ⟨h1, h2, h3, h4, h5, h6, h7⟩
      · have HO := hide (fun w => houtside_yes z.1 1 12 h1 w)
        have HE := hide e
        clear h1 e
        go_wp2_with fail
        refine (HO.out _).mono ?_
        rintro e w' ⟨rfl, rfl⟩
        go_wp2_with fail
        go_ret
        exact ⟨by rw [hinv.out, HE.out]; rfl, HB0.out⟩
      · have HO := hide (fun w => houtside_no z.1 1 12 h1 h2 w)
        have HO2 := hide (fun w => houtside_yes z.2.1 1 1000 h3 w)
        have HE := hide e
        clear h1 h2 h3 e
        go_wp2_with fail
        refine (HO.out _).mono ?_
        rintro e w' ⟨rfl, rfl⟩
        go_wp2_with fail
        refine (HO2.out _).mono ?_
        rintro e w' ⟨rfl, rfl⟩
        go_wp2_with fail
        go_ret
        exact ⟨by rw [hinv.out, HE.out]; rfl, HB0.out⟩
      · have HO := hide (fun w => houtside_no z.1 1 12 h1 h2 w)
        have HO2 := hide (fun w => houtside_no z.2.1 1 1000 h3 h4 w)
        have HO3 := hide (fun w => houtside_yes z.2.2 1 1000 h5 w)
        have HE := hide e
        clear h1 h2 h3 h4 h5 e
        go_wp2_with fail
        refine (HO.out _).mono ?_
        rintro e w' ⟨rfl, rfl⟩
        go_wp2_with fail
        refine (HO2.out _).mono ?_
        rintro e w' ⟨rfl, rfl⟩
        go_wp2_with fail
        refine (HO3.out _).mono ?_
        rintro e w' ⟨rfl, rfl⟩
        go_wp2_with fail
        go_ret
        exact ⟨by rw [hinv.out, HE.out]; rfl, HB0.out⟩
      · have HO := hide (fun w => houtside_no z.1 1 12 h1 h2 w)
        have HO2 := hide (fun w => houtside_no z.2.1 1 1000 h3 h4 w)
        have HO3 := hide (fun w => houtside_no z.2.2 1 1000 h5 h6 w)
        have HZ2 := hide (show SizesAt (wr.alloc (szO z)) (some ⟨b, o, none⟩) (S.take k) from (show SizesAt w (some ⟨b, o, none⟩) (S.take k) from HZ.out).on HB0.out)
        have HP := hide (zContains_any 71 _ _ (some ⟨b, o, none⟩) k c (S.take k) (wr.alloc (szO z)) HL.out (by omega) HZ2.out (valid1_answers wr.heap.size z _ X0.out.1))
        have HE := hide h7
        have l1 := X0.out.2.1
        clear h1 h2 h3 h4 h5 h6 h7
        go_wp2_with fail
        refine (HO.out _).mono ?_
        rintro e w' ⟨rfl, rfl⟩
        go_wp2_with fail
        refine (HO2.out _).mono ?_
        rintro e w' ⟨rfl, rfl⟩
        go_wp2_with fail
        refine (HO3.out _).mono ?_
        rintro e w' ⟨rfl, rfl⟩
        go_wp2_with fail
        refine HP.out.mono ?_
        rintro e w2 ⟨rfl, hb2⟩
        have HB2 := hide (HB0.out.trans (hb2.mono HB0.out.size))
        clear hb2
        rcases HE.out with ⟨h1, h2⟩ | ⟨h1, h2⟩
        · rw [h1]
          have HE2 := hide h2
          clear h1 h2
          go_wp2_with fail
          go_ret
          exact ⟨by rw [hinv.out, HE2.out]; rfl, HB2.out⟩
        · rw [h1]
          have HE2 := hide h2
          clear h1 h2
          go_wp2_with fail
          go_roundw
          case rel => exact ⟨k + 1, by omega, by go_num, HB2.out, hide (by rw [hinv.out, HE2.out])⟩
          case measure => simp [intOf]; omega
    · obtain rfl : k = n := by omega
      go_wp2_with fail
      go_ret
      refine ⟨?_, hb⟩
      have h := hinv.out
      rw [List.drop_of_length_le (by have := HN.out; omega)] at h
      rw [h]
      rfl
open Go.RowKit Go.KP Go.KI Go.Shelf
attribute [local go_sem] Oper.semAt_some

theorem lof1_cls (a : I3) (ha : small3 a) (B m : Nat) (w0 : World) (hT : PQ B w0) (hB : B ≤ m) (hm : m ≤ w0.heap.size) (x : Of (Below m w0)) :
    Calls Tryz.prog 39 #[i3V a] x.w fun e w' => e = .returned (vecV (v3 a)) ∧ Cls (Below m w0) w' :=
  (lof1_any a ha B x.w (by have := x.h.size; omega) (hT.on x.h hB)).mono fun _ _ ⟨h, hb⟩ => ⟨h, Cls.mk (x.h.trans (hb.mono (by have := x.h.size; omega)))⟩
theorem eqI3 (a0 a1 a2 b0 b1 b2 : Int) (w : World) : (Op.equalIn 10000 52 (.agg #[.int .i8 a0, .int .i8 a1, .int .i8 a2]) (.agg #[.int .i8 b0, .int .i8 b1, .int .i8 b2])).run Tryz.prog w = .ok (a0 == b0 && a1 == b1 && a2 == b2) w := by
  have u3 := Tryz.underlying51
  have a3 := Tryz.isAgg51
  have z3 := Tryz.sizeOf51
  rw [show (10000 : Nat) = 9999 + 1 from rfl, Op.equalIn]
  simp only [Sem.run_bind, run_underlying Tryz.underlying52, Result.andThen_ok]
  simp only [Std.Legacy.Range.forIn_eq_forIn_range', Std.Legacy.Range.size, Nat.sub_zero, Nat.add_sub_cancel, Nat.div_one, List.range'_succ, List.range'_zero, List.forIn_cons, List.forIn_nil]
  go_simp
  by_cases h1 : a0 = b0 <;> by_cases h2 : a1 = b1 <;> by_cases h3 : a2 = b2 <;> simp [*]
def moved (a b : I3) : I3 := if a.x = b.x ∧ a.y = b.y ∧ a.z = b.z then ⟨IntKind.i8.wrap (a.x + 1), b.y, b.z⟩ else b
theorem wrap8 (n : Int) : -128 ≤ IntKind.i8.wrap n ∧ IntKind.i8.wrap n ≤ 127 ∧ IntKind.i8.wrap (n + 1) ≠ IntKind.i8.wrap n := by
  simp only [IntKind.wrap, IntKind.bits, IntKind.signed]
  simp
  omega
theorem wrap8_in {n : Int} (h1 : -128 ≤ n) (h2 : n ≤ 127) : IntKind.i8.wrap n = n := IntWalk.i8_in _ (by omega)
theorem moved_small {a b : I3} (hb : small3 b) : small3 (moved a b) := by
  unfold moved
  split
  · exact ⟨⟨(wrap8 _).1, (wrap8 _).2.1⟩, hb.2⟩
  · exact hb
theorem v3_ne {a b : I3} (ha : small3 a) : v3 a ≠ v3 (moved a b) := by
  intro h
  rw [V3.eq_iff] at h
  obtain ⟨h1, h2, h3⟩ := h
  have e1 : a.x = (moved a b).x := half_inj h1
  have e2 : a.y = (moved a b).y := half_inj h2
  have e3 : a.z = (moved a b).z := half_inj h3
  unfold moved at e1 e2 e3
  by_cases h : a.x = b.x ∧ a.y = b.y ∧ a.z = b.z
  · rw [if_pos h] at e1
    have h4 := (wrap8 a.x).2.2
    rw [wrap8_in ha.1.1 ha.1.2] at h4
    exact h4 e1.symm
  · rw [if_neg h] at e1 e2 e3
    exact h ⟨e1, e2, e3⟩
abbrev smallV (a b : I3) : Value := .agg #[.int .i8 a.x, .int .i8 a.y, .int .i8 a.z, .int .i8 b.x, .int .i8 b.y, .int .i8 b.z]
theorem lof_to {a b : I3} (ha : small3 a) (hb : small3 b) (B : Nat) (w : World) (hB : B ≤ w.heap.size) (hT : PQ B w) :
    Calls Tryz.prog 13 #[smallV a b] w (Ret w (memV 6 1 0 (v3 a) (v3 (moved a b)) 80 220)) := by
  have hc := moved_small (a := a) hb
  obtain ⟨c, hcc⟩ : ∃ c, c = moved a b := ⟨_, rfl⟩
  rw [← hcc] at hc ⊢
  have hway : ((a.x == b.x && a.y == b.y && a.z == b.z) = false ∧ c = b) ∨ ((a.x == b.x && a.y == b.y && a.z == b.z) = true ∧ c = ⟨IntKind.i8.wrap (a.x + 1), b.y, b.z⟩) := by
    unfold moved at hcc
    by_cases h : a.x = b.x ∧ a.y = b.y ∧ a.z = b.z
    · rw [if_pos h] at hcc
      exact .inr ⟨by simp [h], hcc⟩
    · rw [if_neg h] at hcc
      refine .inl ⟨?_, hcc⟩
      rw [Bool.eq_false_iff]
      intro e
      simp only [Bool.and_eq_true, beq_iff_eq] at e
      exact h ⟨e.1.1, e.1.2, e.2⟩
  have he := fun w => eqI3 a.x a.y a.z b.x b.y b.z w
  clear hcc
  rcases hway with ⟨h1, rfl⟩ | ⟨h1, hc2⟩
  · rw [h1] at he
    clear h1
    go_enter Tryz.func13, Tryz.ntmps13
    obtain ⟨W0, hW0⟩ : ∃ W, W = (w.alloc (.cells #[.int .i8 a.x, .int .i8 a.y, .int .i8 a.z, .int .i8 c.x, .int .i8 c.y, .int .i8 c.z] 54)).alloc mem0 := ⟨_, rfl⟩
    have hX := heap2 w (.cells #[.int .i8 a.x, .int .i8 a.y, .int .i8 a.z, .int .i8 c.x, .int .i8 c.y, .int .i8 c.z] 54) mem0
    rw [← hW0] at hX
    have E1 := hide hX.1
    have E2 := hide hX.2.1
    have HB0 := hide hX.2.2.2
    have hs := hX.2.2.1.symm
    clear hX
    have hsz : w.heap.size + 2 = W0.heap.size := hs
    have hT0 := hT.on HB0.out hB
    have HN1 := hide (fun o => lof1_cls a ha B W0.heap.size W0 hT0 (by omega) (Nat.le_refl _) o)
    have HN2 := hide (fun o => lof1_cls c hc B W0.heap.size W0 hT0 (by omega) (Nat.le_refl _) o)
    have HA := hide ha
    clear hsz hs hT hT0 ha hc
    go_wp2_with fail
    rw [← hW0]
    clear hW0
    have hx1 : ∀ x : Of (Below W0.heap.size W0), ∀ o, x.w.cell? ⟨w.heap.size, o, none⟩ = W0.cell? ⟨w.heap.size, o, none⟩ := fun x o => x.h.cell (p := ⟨w.heap.size, o, none⟩) (lt_blk E1.out)
    have c1 := fun o => cell_blk E1.out o
    refine region_prefix (C := Cls (Below W0.heap.size W0)) 9 (by kernel_rfl) (by decide) (by kernel_rfl) (by kernel_rfl) (by kernel_rfl) (by kernel_rfl) (Cls.mk (Below.refl _ _).drew) ?_
    simp only [List.take_succ_cons, List.take_zero, List.drop_succ_cons, List.drop_zero]
    repeat (go_big_quiet_step (first | with_reducible exact HN1.out _ | with_reducible exact HN2.out _))
    refine wpQuiet_nil ?_
    intro w1 hcl
    have hb1 := hcl.out
    have A2 := hide (below_blk hb1 E2.out (lt_blk E2.out))
    have HB1 := hide (HB0.out.trans (hb1.mono HB0.out.size))
    clear hcl hb1 hx1 c1 HN1 HN2
    have d := fun o => cell_blk A2.out o
    have f := fun o => froz_blk A2.out o
    have l6 := lt_blk A2.out
    go_wp2_with fail
    exact exit_mem rfl (put11_at A2.out _ _ _ _ _ _ _ _ _ _ _) rfl rfl ⟨rfl, put11_below HB1.out (show w.heap.size ≤ w.heap.size + 1 by omega) _ _ _ _ _ _ _ _ _ _ _⟩
  · rw [h1] at he
    clear h1
    go_enter Tryz.func13, Tryz.ntmps13
    subst hc2
    obtain ⟨W0, hW0⟩ : ∃ W, W = (w.alloc (.cells #[.int .i8 a.x, .int .i8 a.y, .int .i8 a.z, .int .i8 (IntKind.i8.wrap (a.x + 1)), .int .i8 b.y, .int .i8 b.z] 54)).alloc mem0 := ⟨_, rfl⟩
    have hX := heap2 w (.cells #[.int .i8 a.x, .int .i8 a.y, .int .i8 a.z, .int .i8 (IntKind.i8.wrap (a.x + 1)), .int .i8 b.y, .int .i8 b.z] 54) mem0
    rw [← hW0] at hX
    have E1 := hide hX.1
    have E2 := hide hX.2.1
    have HB0 := hide hX.2.2.2
    have hs := hX.2.2.1.symm
    clear hX
    have hsz : w.heap.size + 2 = W0.heap.size := hs
    have hT0 := hT.on HB0.out hB
    have HN1 := hide (fun o => lof1_cls a ha B W0.heap.size W0 hT0 (by omega) (Nat.le_refl _) o)
    have HN2 := hide (fun o => lof1_cls ⟨IntKind.i8.wrap (a.x + 1), b.y, b.z⟩ hc B W0.heap.size W0 hT0 (by omega) (Nat.le_refl _) o)
    have HA := hide ha
    clear hsz hs hT hT0 ha hc hb
    go_wp2_with fail
    rw [← hW0]
    clear hW0
    have hx1 : ∀ x : Of (Below W0.heap.size W0), ∀ o, x.w.cell? ⟨w.heap.size, o, none⟩ = W0.cell? ⟨w.heap.size, o, none⟩ := fun x o => x.h.cell (p := ⟨w.heap.size, o, none⟩) (lt_blk E1.out)
    have c1 := fun o => cell_blk E1.out o
    refine region_prefix (C := Cls (Below W0.heap.size W0)) 9 (by kernel_rfl) (by decide) (by kernel_rfl) (by kernel_rfl) (by kernel_rfl) (by kernel_rfl) (Cls.mk (Below.refl _ _).drew) ?_
    simp only [List.take_succ_cons, List.take_zero, List.drop_succ_cons, List.drop_zero]
    repeat (go_big_quiet_step (first | with_reducible exact HN1.out _ | with_reducible exact HN2.out _))
    refine wpQuiet_nil ?_
    intro w1 hcl
    have hb1 := hcl.out
    have A2 := hide (below_blk hb1 E2.out (lt_blk E2.out))
    have HB1 := hide (HB0.out.trans (hb1.mono HB0.out.size))
    clear hcl hb1 hx1 c1 HN1 HN2
    have d := fun o => cell_blk A2.out o
    have f := fun o => froz_blk A2.out o
    have l6 := lt_blk A2.out
    go_wp2_with fail
    exact exit_mem rfl (put11_at A2.out _ _ _ _ _ _ _ _ _ _ _) rfl rfl ⟨rfl, put11_below HB1.out (show w.heap.size ≤ w.heap.size + 1 by omega) _ _ _ _ _ _ _ _ _ _ _⟩
end Go.Proofs.YtklgpilgalfckaaGreatDoor
namespace Go.KP
open Go
theorem region_class {P : Program} {C : World → Prop} {id : Nat} {Q : Exit → Act → World → Prop} {a : Act} {w : World} {l : List Oper} (hm : P.follows .mixedOrders = true) (hno : Region.noSelect l.toArray = true)
    (hlex : Region.lexFrom .any l.toArray l.length 0 (Array.replicate l.length false) = true) (hC : C { w with drawn := w.drawn + 1 })
    (h : wpQuiet P l.toArray C (fun a' => ∀ w', C w' → Q .normal a' w') l a) : (Code.region id l.toArray true).wp P Q a w := by
  refine wp_region_any hm ?_
  have h1 := wpAnyQ_lex (P := P) (C := C) (md := .any) hno l 0 (Array.replicate l.length false) a (by simp) hlex h
  have e : l.toArray.size = l.length := by simp
  rw [e]
  exact wpAny_of_quiet (C := C) (Q := fun a' => ∀ w', C w' → Q .normal a' w') (fun _ w' hw h => h w' hw) _ _ _ _ hC h1
end Go.KP
namespace Go.Proofs.YtklgpilgalfckaaGreatDoor
open Go.RowKit Go.KP Go.KI Go.Shelf
attribute [local go_sem] Oper.semAt_some

theorem T_dig (u : Nat) (h : u < 10) : T ((u : Nat) : Rat) = ⟨#[UInt8.ofNat (48 + u)]⟩ := by
  apply bytes_eq
  rw [T_list, show ((u : Nat) : Rat) = (((u : Nat) : Int) : Rat) from rfl, ratS_int, Lib.itoa_nonneg, Lib.decDigits_one h]
theorem T4 : T 4 = ⟨#[52]⟩ := T_dig 4 (by omega)
theorem T3 : T 3 = ⟨#[51]⟩ := T_dig 3 (by omega)
theorem T2 : T 2 = ⟨#[50]⟩ := T_dig 2 (by omega)
theorem T1 : T 1 = ⟨#[49]⟩ := T_dig 1 (by omega)
theorem Tm4 : T (-4) = ⟨#[45, 52]⟩ := by
  apply bytes_eq
  rw [T_list, show (-4 : Rat) = (((-((4 : Nat) : Int)) : Int) : Rat) by decide +kernel, ratS_int, Lib.itoa_neg 4 (by omega), Lib.decDigits_one (by omega)]
  rfl
abbrev q32 : Rat := ⟨3, 2, by decide, by decide⟩
theorem T32 : T q32 = ⟨#[51, 47, 50]⟩ := by
  apply bytes_eq
  rw [T_list]
  unfold ratS
  rw [if_neg (by decide), show q32.num = ((3 : Nat) : Int) from rfl, Lib.itoa_nonneg, Lib.decDigits_one (by omega), show q32.den = 2 from rfl, Lib.decDigits_one (by omega)]
  rfl
abbrev pEx : V3 := ⟨4, 4, 3⟩
theorem pSz : szV 1 pEx := ⟨⟨by decide, by decide⟩, ⟨by decide, by decide⟩, ⟨by decide, by decide⟩⟩
theorem zSz : szV 1 vzero := ⟨⟨by decide, by decide⟩, ⟨by decide, by decide⟩, ⟨by decide, by decide⟩⟩
theorem exMem : Mem 6 3 0 vzero pEx 80 220 := ⟨by omega, by omega, by omega, by omega, by omega, by omega, by omega, by omega, szV_mono zSz (by omega), szV_mono pSz (by omega), by decide +kernel⟩
theorem ex_sub : vsub pEx vzero = pEx := by decide +kernel
theorem ex_side : vside pEx = ⟨-4, 4, 0⟩ := by decide +kernel
theorem ex_yes : meetsP vzero pEx ⟨2, 2, q32⟩ := by decide +kernel
theorem ex_no : ¬ meetsP vzero pEx ⟨2, 2, 1⟩ := by decide +kernel
abbrev b0 : ByteArray := ⟨#[48]⟩
abbrev b1 : ByteArray := ⟨#[49]⟩
abbrev b2 : ByteArray := ⟨#[50]⟩
abbrev b3 : ByteArray := ⟨#[51]⟩
abbrev b4 : ByteArray := ⟨#[52]⟩
abbrev bm4 : ByteArray := ⟨#[45, 52]⟩
abbrev b32 : ByteArray := ⟨#[51, 47, 50]⟩
abbrev exV : Value := .agg #[.int .i64 6, .int .i64 3, .int .i64 0, .string b0, .string b0, .string b0, .string b4, .string b4, .string b3, .int .i64 80, .int .i64 220]
abbrev exO : Obj := .cells #[.int .i64 6, .int .i64 3, .int .i64 0, .string b0, .string b0, .string b0, .string b4, .string b4, .string b3, .int .i64 80, .int .i64 220] 32
theorem exV_eq : memV 6 3 0 vzero pEx 80 220 = exV := by
  show Value.agg #[.int .i64 6, .int .i64 3, .int .i64 0, .string (T 0), .string (T 0), .string (T 0), .string (T 4), .string (T 4), .string (T 3), .int .i64 80, .int .i64 220] = _
  rw [T0, T4, T3]
theorem vp_eq : vecV pEx = spotV b4 b4 b3 := by
  show Value.agg #[.string (T 4), .string (T 4), .string (T 3)] = _
  rw [T4, T3]
theorem vs_eq : vecV ⟨-4, 4, 0⟩ = spotV bm4 b4 b0 := by
  show Value.agg #[.string (T (-4)), .string (T 4), .string (T 0)] = _
  rw [T4, T0, Tm4]
theorem vy_eq : vecV ⟨2, 2, q32⟩ = spotV b2 b2 b32 := by
  show Value.agg #[.string (T 2), .string (T 2), .string (T q32)] = _
  rw [T2, T32]
theorem vn_eq : vecV ⟨2, 2, 1⟩ = spotV b2 b2 b1 := by
  show Value.agg #[.string (T 2), .string (T 2), .string (T 1)] = _
  rw [T2, T1]
theorem lx_eq : lineV 2 vzero pEx 3 0 = .agg #[.int .i64 2, .string b0, .string b0, .string b0, .string b4, .string b4, .string b3, .int .i64 3, .int .i64 0] := by
  show Value.agg #[.int .i64 2, .string (T 0), .string (T 0), .string (T 0), .string (T 4), .string (T 4), .string (T 3), .int .i64 3, .int .i64 0] = _
  rw [T0, T4, T3]
theorem mx6 (w : World) : (Builtin.max_ #[33, 33, 33, 33, 33, 33] 33 #[.int .i64 0, .int .i64 0, .int .i64 0, .int .i64 0, .int .i64 0, .int .i64 0]).run Tryz.prog w = .ok (.int .i64 0) w := by kernel_rfl
theorem hawake_any (B : Nat) (w : World) (hB : B ≤ w.heap.size) (hT : PQ B w) :
    Calls Tryz.prog 7 #[] w (Ret w (.bool true)) := by
  have HT := hide hT
  have HOf := hide (fun w hB hT => hOf_to (n := 2) (by decide) exMem B w hB hT)
  rw [show kindP 2 = 6 from rfl, lx_eq, exV_eq] at HOf
  have HD := hide (fun w hB hT => hDirection_to exMem B w hB hT)
  rw [ex_sub, exV_eq, vp_eq] at HD
  have HS := hide (fun w hB hT => hSide_to exMem B w hB hT)
  rw [ex_sub, exV_eq, ex_side, vs_eq] at HS
  have HR := hide (fun w hB hT => hRise_to exMem B w hB hT)
  rw [ex_sub, exV_eq, show T pEx.z = b3 from T3] at HR
  have HM1 := hide (fun w hB hT => hMeets_to exMem (q := ⟨2, 2, q32⟩) ⟨⟨by decide +kernel, by decide +kernel⟩, ⟨by decide +kernel, by decide +kernel⟩, ⟨by decide +kernel, by decide +kernel⟩⟩ (r := true) (decide_eq_true ex_yes).symm B w hB hT)
  rw [exV_eq, vy_eq] at HM1
  have HM2 := hide (fun w hB hT => hMeets_to exMem (q := ⟨2, 2, 1⟩) ⟨⟨by decide +kernel, by decide +kernel⟩, ⟨by decide +kernel, by decide +kernel⟩, ⟨by decide +kernel, by decide +kernel⟩⟩ (r := false) (decide_eq_false ex_no).symm B w hB hT)
  rw [exV_eq, vn_eq] at HM2
  have HSP := hide (fun x y z w => lspot_at x y z w)
  have X0 := hide (heap2 w (spotO b0 b0 b0) (spotO b4 b4 b3))
  clear hT
  go_enter Tryz.func7, Tryz.ntmps7
  go_wp2_with fail
  refine (HSP.out _ _ _ _).mono ?_
  rintro e w' ⟨rfl, rfl⟩
  go_wp2_with fail
  refine (HSP.out _ _ _ _).mono ?_
  rintro e w' ⟨rfl, rfl⟩
  go_wp2_with fail
  refine (HOf.out _ (Nat.le_trans hB X0.out.2.2.2.size) (HT.out.on X0.out.2.2.2 hB)).mono ?_
  rintro e w1 ⟨rfl, hb1⟩
  have X1 := hide (heap1 w1 exO)
  have G1 := hide X1.out.1
  have HB1 := hide (X0.out.2.2.2.trans ((hb1.trans (X1.out.2.2.mono hb1.size)).mono X0.out.2.2.2.size))
  clear hb1
  go_wp2_with fail
  refine (HD.out _ (Nat.le_trans hB HB1.out.size) (HT.out.on HB1.out hB)).mono ?_
  rintro e w2 ⟨rfl, hb2⟩
  have X2 := hide (heap1 w2 (spotO b4 b4 b3))
  have hb2' := hb2.trans (X2.out.2.2.mono hb2.size)
  have G1 := hide (below_blk hb2' G1.out (lt_blk G1.out))
  have G3 := hide X2.out.1
  have HB2 := hide (HB1.out.trans (hb2'.mono HB1.out.size))
  clear hb2 hb2'
  have c := fun o => cell_blk G1.out o
  have l1 := lt_blk G1.out
  go_wp2_with fail
  refine (HS.out _ (Nat.le_trans hB HB2.out.size) (HT.out.on HB2.out hB)).mono ?_
  rintro e w3 ⟨rfl, hb3⟩
  have X3 := hide (heap1 w3 (spotO bm4 b4 b0))
  have hb3' := hb3.trans (X3.out.2.2.mono hb3.size)
  have G1 := hide (below_blk hb3' G1.out (lt_blk G1.out))
  have G3 := hide (below_blk hb3' G3.out (lt_blk G3.out))
  have G5 := hide X3.out.1
  have HB3 := hide (HB2.out.trans (hb3'.mono HB2.out.size))
  clear hb3 hb3' c l1
  have c := fun o => cell_blk G1.out o
  have l1 := lt_blk G1.out
  go_wp2_with fail
  refine (HR.out _ (Nat.le_trans hB HB3.out.size) (HT.out.on HB3.out hB)).mono ?_
  rintro e w4 ⟨rfl, hb4⟩
  have G1 := hide (below_blk hb4 G1.out (lt_blk G1.out))
  have G3 := hide (below_blk hb4 G3.out (lt_blk G3.out))
  have G5 := hide (below_blk hb4 G5.out (lt_blk G5.out))
  have HB4 := hide (HB3.out.trans (hb4.mono HB3.out.size))
  clear hb4 c l1
  have c := fun o => cell_blk G1.out o
  have l1 := lt_blk G1.out
  have HC4 := hide (fun (x : Of (Below w4.heap.size w4)) => show Calls Tryz.prog 31 #[exV, spotV b2 b2 b32] x.w fun e w' => e = .returned (.tuple #[.bool true, .int .i64 0]) ∧ Cls (Below w4.heap.size w4) w' from (HM1.out x.w (Nat.le_trans hB (Nat.le_trans HB4.out.size x.h.size)) ((HT.out.on HB4.out hB).on x.h (Nat.le_trans hB HB4.out.size))).mono fun _ _ ⟨h, hb⟩ => ⟨h, Cls.mk (x.h.trans (hb.mono (by have := x.h.size; omega)))⟩)
  have HSC := hide (fun (a b c : ByteArray) (x : Of (Below w4.heap.size w4)) => lspot_cls a b c w4.heap.size w4 (Nat.le_refl _) x)
  go_wp2_with fail
  have hx1 : ∀ x : Of (Below w4.heap.size w4), ∀ o, x.w.cell? ⟨w1.heap.size, o, none⟩ = w4.cell? ⟨w1.heap.size, o, none⟩ := fun x o => x.h.cell (p := ⟨w1.heap.size, o, none⟩) (lt_blk G1.out)
  refine region_prefix (C := Cls (Below w4.heap.size w4)) 8 (by kernel_rfl) (by decide) (by kernel_rfl) (by kernel_rfl) (by kernel_rfl) (by kernel_rfl) (Cls.mk (Below.refl _ _).drew) ?_
  simp only [List.take_succ_cons, List.take_zero, List.drop_succ_cons, List.drop_zero]
  repeat (go_big_quiet_step (first | with_reducible exact HSC.out _ _ _ _ | with_reducible exact HC4.out _))
  refine wpQuiet_nil ?_
  intro w5 hcl
  have hb := hcl.out
  have G1 := hide (below_blk hb G1.out (lt_blk G1.out))
  have G3 := hide (below_blk hb G3.out (lt_blk G3.out))
  have G5 := hide (below_blk hb G5.out (lt_blk G5.out))
  have HB5 := hide (HB4.out.trans (hb.mono HB4.out.size))
  clear hcl hb hx1 c l1 HC4 HSC
  have c := fun o => cell_blk G1.out o
  have l1 := lt_blk G1.out
  have HC5 := hide (fun (x : Of (Below w5.heap.size w5)) => show Calls Tryz.prog 31 #[exV, spotV b2 b2 b1] x.w fun e w' => e = .returned (.tuple #[.bool false, .int .i64 0]) ∧ Cls (Below w5.heap.size w5) w' from (HM2.out x.w (Nat.le_trans hB (Nat.le_trans HB5.out.size x.h.size)) ((HT.out.on HB5.out hB).on x.h (Nat.le_trans hB HB5.out.size))).mono fun _ _ ⟨h, hb⟩ => ⟨h, Cls.mk (x.h.trans (hb.mono (by have := x.h.size; omega)))⟩)
  have HSC := hide (fun (a b c : ByteArray) (x : Of (Below w5.heap.size w5)) => lspot_cls a b c w5.heap.size w5 (Nat.le_refl _) x)
  go_wp2_with fail
  have hx1 : ∀ x : Of (Below w5.heap.size w5), ∀ o, x.w.cell? ⟨w1.heap.size, o, none⟩ = w5.cell? ⟨w1.heap.size, o, none⟩ := fun x o => x.h.cell (p := ⟨w1.heap.size, o, none⟩) (lt_blk G1.out)
  refine region_prefix (C := Cls (Below w5.heap.size w5)) 8 (by kernel_rfl) (by decide) (by kernel_rfl) (by kernel_rfl) (by kernel_rfl) (by kernel_rfl) (Cls.mk (Below.refl _ _).drew) ?_
  simp only [List.take_succ_cons, List.take_zero, List.drop_succ_cons, List.drop_zero]
  repeat (go_big_quiet_step (first | with_reducible exact HSC.out _ _ _ _ | with_reducible exact HC5.out _))
  refine wpQuiet_nil ?_
  intro w6 hcl
  have hb := hcl.out
  have G1 := hide (below_blk hb G1.out (lt_blk G1.out))
  have G3 := hide (below_blk hb G3.out (lt_blk G3.out))
  have G5 := hide (below_blk hb G5.out (lt_blk G5.out))
  have HB6 := hide (HB5.out.trans (hb.mono HB5.out.size))
  clear hcl hb hx1 c l1 HC5 HSC
  have c := fun o => cell_blk G1.out o
  have l1 := lt_blk G1.out
  have HSC := hide (fun (a b c : ByteArray) (x : Of (Below w6.heap.size w6)) => lspot_cls a b c w6.heap.size w6 (Nat.le_refl _) x)
  have hmx := mx6
  have he1 : ∀ w, (Op.equalIn 10000 28 (spotV b4 b4 b3) (spotV b4 b4 b3)).run Tryz.prog w = .ok true w := fun w => by rw [eqSpot]; simp
  have he2 : ∀ w, (Op.equalIn 10000 28 (spotV bm4 b4 b0) (spotV bm4 b4 b0)).run Tryz.prog w = .ok true w := fun w => by rw [eqSpot]; simp
  go_wp2_with fail
  have hx1 : ∀ x : Of (Below w6.heap.size w6), ∀ o, x.w.cell? ⟨w1.heap.size, o, none⟩ = w6.cell? ⟨w1.heap.size, o, none⟩ := fun x o => x.h.cell (p := ⟨w1.heap.size, o, none⟩) (lt_blk G1.out)
  have hx3 : ∀ x : Of (Below w6.heap.size w6), ∀ o, x.w.cell? ⟨w2.heap.size, o, none⟩ = w6.cell? ⟨w2.heap.size, o, none⟩ := fun x o => x.h.cell (p := ⟨w2.heap.size, o, none⟩) (lt_blk G3.out)
  have hx5 : ∀ x : Of (Below w6.heap.size w6), ∀ o, x.w.cell? ⟨w3.heap.size, o, none⟩ = w6.cell? ⟨w3.heap.size, o, none⟩ := fun x o => x.h.cell (p := ⟨w3.heap.size, o, none⟩) (lt_blk G5.out)
  have c3 := fun o => cell_blk G3.out o
  have c5 := fun o => cell_blk G5.out o
  refine region_class (C := Cls (Below w6.heap.size w6)) (by kernel_rfl) (by kernel_rfl) (by kernel_rfl) (Cls.mk (Below.refl _ _).drew) ?_
  repeat (go_big_quiet_step (first | with_reducible exact HSC.out _ _ _ _))
  refine wpQuiet_nil ?_
  intro w7 hcl
  have HB7 := hide (HB6.out.trans (hcl.out.mono HB6.out.size))
  clear hcl hx1 hx3 hx5 c3 c5 c l1 HSC he1 he2 hmx
  go_wp2_with fail
  go_ret
  exact ⟨rfl, HB7.out⟩
open Go.RowKit Go.KP Go.KI Go.Shelf
attribute [local go_sem] Oper.semAt_some

instance (a : S3) : Decidable (tiny3 a) := by unfold tiny3; infer_instance
open Go.RowKit Go.KP Go.KI Go.Shelf
attribute [local go_sem] Oper.semAt_some

theorem eqSpotF (m : Nat) (a b c d e f : ByteArray) (w : World) : (Op.equalIn (m + 2) 28 (.agg #[.string a, .string b, .string c]) (.agg #[.string d, .string e, .string f])).run Tryz.prog w = .ok (a.toList == d.toList && b.toList == e.toList && c.toList == f.toList) w := by
  have hS : Tryz.prog.underlying 28 = some (.struct (Tryz.prog.fieldsOf 28)) := by kernel_rfl
  have hp : Tryz.prog.stoodInHeld 28 = false := by kernel_rfl
  rw [show m + 2 = (m + 1) + 1 from rfl, run_equalIn_agg w (m + 1) 28 _ _ hS hp]
  simp only [Program.fieldsOf, Tryz.underlying28]
  go_simp
  by_cases h1 : a.toList = d.toList <;> by_cases h2 : b.toList = e.toList <;> by_cases h3 : c.toList = f.toList <;> simp [*]
theorem eqMem_same (k f o wd dp : Int) (a b c d e g : ByteArray) (w : World) : (Op.equalIn 10000 32 (.agg #[.int .i64 k, .int .i64 f, .int .i64 o, .string a, .string b, .string c, .string d, .string e, .string g, .int .i64 wd, .int .i64 dp]) (.agg #[.int .i64 k, .int .i64 f, .int .i64 o, .string a, .string b, .string c, .string d, .string e, .string g, .int .i64 wd, .int .i64 dp])).run Tryz.prog w = .ok true w := by
  have hS : Tryz.prog.underlying 32 = some (.struct (Tryz.prog.fieldsOf 32)) := by kernel_rfl
  have hp : Tryz.prog.stoodInHeld 32 = false := by kernel_rfl
  have he := fun w => eqSpotF 9997 a b c a b c w
  have he2 := fun w => eqSpotF 9997 d e g d e g w
  rw [show (10000 : Nat) = 9999 + 1 from rfl, run_equalIn_agg w 9999 32 _ _ hS hp]
  simp only [Program.fieldsOf, Tryz.underlying32]
  go_simp
open Go.RowKit Go.KP Go.KI Go.Shelf
attribute [local go_sem] Oper.semAt_some

theorem flat_at {α : Type} (f : α → List Value) (n : Nat) (hf : ∀ a, (f a).length = n) (d : α) : ∀ (l : List α) (k j : Nat), k < l.length → j < n → (l.flatMap f)[k * n + j]? = (f (l.getD k d))[j]? := by
  intro l
  induction l with
  | nil => intro k j h; exact absurd h (by simp)
  | cons x r ih =>
    intro k j h hj
    rw [List.flatMap_cons]
    cases k with
    | zero =>
      rw [Nat.zero_mul, Nat.zero_add, List.getElem?_append_left (by rw [hf]; exact hj)]
      rfl
    | succ m =>
      rw [List.getElem?_append_right (by rw [hf, Nat.succ_mul]; omega), hf, show (m + 1) * n + j - n = m * n + j by rw [Nat.succ_mul]; omega, ih m j (by simpa using h) hj]
      rfl
abbrev s30 : S3 := ⟨⟨#[]⟩, ⟨#[]⟩, ⟨#[]⟩⟩
abbrev ln0 : Ln := ⟨0, s30, s30, 0, 0⟩
abbrev lnAt (L : List Ln) (k : Nat) : Ln := L.getD k ln0
def LinesAt (w : World) (A : Option Addr) (L : List Ln) : Prop := ∀ k, k < L.length → ∃ b o, A = some ⟨b, o, none⟩ ∧ b < w.heap.size ∧ ∀ j u, (lnCs (lnAt L k))[j]? = some u → w.cell? ⟨b, o + k * 9 + j, none⟩ = some u
theorem LinesAt.on {w w2 : World} {A : Option Addr} {L : List Ln} (h : LinesAt w A L) (hb : Below w.heap.size w w2) : LinesAt w2 A L := by
  intro k hk
  obtain ⟨b, o, h1, h2, h3⟩ := h k hk
  exact ⟨b, o, h1, Nat.lt_of_lt_of_le h2 hb.size, fun j u hu => (hb.cell (p := ⟨b, o + k * 9 + j, none⟩) h2).trans (h3 j u hu)⟩
def fewL (L : List Ln) : Prop := L.length ≤ 60 ∧ ∀ k, k < L.length → tinyL (lnAt L k)
noncomputable instance (L : List Ln) : Decidable (fewL L) := Classical.propDecidable _
abbrev Mb := Ln × Int × Int
abbrev mbCs (m : Mb) : List Value := [.int .i64 (kindP m.1.k), .int .i64 m.1.l, .int .i64 m.1.r, .string m.1.a.x, .string m.1.a.y, .string m.1.a.z, .string m.1.b.x, .string m.1.b.y, .string m.1.b.z, .int .i64 m.2.1, .int .i64 m.2.2]
abbrev mb0 : Mb := (ln0, 0, 0)
def mcells (l : List Mb) : List Value := l.flatMap mbCs
theorem mcells_at {l : List Mb} {k j : Nat} (h : k < l.length) (hj : j < 11) : (mcells l)[k * 11 + j]? = (mbCs (l.getD k mb0))[j]? := flat_at mbCs 11 (fun _ => rfl) mb0 l k j h hj
theorem mcells_snoc (l : List Mb) (m : Mb) : mcells (l ++ [m]) = mcells l ++ mbCs m := by
  unfold mcells
  rw [List.flatMap_append]
  simp
theorem SlAt.mems {B : Nat} {w : World} {v : Value} {l : List Mb} (h : SlAt B w 11 v l.length (mcells l)) :
    ∃ A c, v = .slice A l.length c ∧ ∀ k, k < l.length → ∃ b o, A = some ⟨b, o, none⟩ ∧ b < B ∧ ∀ j u, (mbCs (l.getD k mb0))[j]? = some u → w.cell? ⟨b, o + k * 11 + j, none⟩ = some u := by
  rcases h.2 with ⟨a, c, h1, h2⟩ | ⟨b, o, cap, hv, hb, hc⟩
  · exact ⟨a, c, by rw [h1, h2], fun k hk => by omega⟩
  · refine ⟨_, cap, hv, fun k hk => ⟨b, o, rfl, hb, fun j u hu => ?_⟩⟩
    have hj : j < 11 := (List.getElem?_eq_some_iff.1 hu).1
    rw [Nat.add_assoc]
    exact hc _ _ ((mcells_at hk hj).trans hu)
theorem sameMems_any (l : List Mb) (hl : l.length ≤ 1000000) (u v : Value) (B : Nat) (w : World) (hB : B ≤ w.heap.size) (hu : SlAt B w 11 u l.length (mcells l)) (hv : SlAt B w 11 v l.length (mcells l)) :
    Calls Tryz.prog 12 #[u, v] w (Ret w (.bool true)) := by
  obtain ⟨A, c, rfl, hA⟩ := SlAt.mems hu
  obtain ⟨A2, c2, rfl, hA2⟩ := SlAt.mems hv
  have HA := hide hA
  have HA2 := hide hA2
  have hnn : (((l.length : Nat) : Int) == ((l.length : Nat) : Int)) = true := beq_self_eq_true _
  have hnn2 : (((l.length : Nat) : Int) != ((l.length : Nat) : Int)) = false := by simp only [bne, hnn]; rfl
  obtain ⟨n, hn⟩ : ∃ n, n = l.length := ⟨_, rfl⟩
  rw [← hn] at hl hnn hnn2 HA HA2 ⊢
  clear hA hA2 hu hv hn
  go_enter Tryz.func12, Tryz.ntmps12
  go_wp2_with fail
  clear hnn hnn2
  go_loopw [5] (fun i wr => ∃ k : Nat, k ≤ n ∧ i = .int .i64 k ∧ Hid (Below w.heap.size w wr)) (fun i _ => n - (intOf i).toNat)
  case atStart => exact ⟨0, by omega, rfl, Below.refl _ _⟩
  case round =>
    obtain ⟨k, hk, rfl, hb⟩ := hrel
    have hk0 : (0 : Int) ≤ (k : Int) := by omega
    by_cases hlt : k < n
    · obtain ⟨b, o, rfl, hb1, hr1⟩ := HA.out k hlt
      obtain ⟨b2, o2, rfl, hb2, hr2⟩ := HA2.out k hlt
      obtain ⟨⟨L, wd, dp⟩, hx⟩ : ∃ x, x = l.getD k mb0 := ⟨_, rfl⟩
      rw [← hx] at hr1 hr2
      obtain ⟨kd, hkd⟩ : ∃ x, x = kindP L.k := ⟨_, rfl⟩
      have g1 : ∀ j u, ([.int .i64 kd, .int .i64 L.l, .int .i64 L.r, .string L.a.x, .string L.a.y, .string L.a.z, .string L.b.x, .string L.b.y, .string L.b.z, .int .i64 wd, .int .i64 dp] : List Value)[j]? = some u → wr.cell? ⟨b, o + k * 11 + j, none⟩ = some u := fun j u h => (hb.out.cell (p := ⟨b, o + k * 11 + j, none⟩) (Nat.lt_of_lt_of_le hb1 hB)).trans (hr1 j u (by rw [hkd] at h; exact h))
      have g2 : ∀ j u, ([.int .i64 kd, .int .i64 L.l, .int .i64 L.r, .string L.a.x, .string L.a.y, .string L.a.z, .string L.b.x, .string L.b.y, .string L.b.z, .int .i64 wd, .int .i64 dp] : List Value)[j]? = some u → wr.cell? ⟨b2, o2 + k * 11 + j, none⟩ = some u := fun j u h => (hb.out.cell (p := ⟨b2, o2 + k * 11 + j, none⟩) (Nat.lt_of_lt_of_le hb2 hB)).trans (hr2 j u (by rw [hkd] at h; exact h))
      have p0 : wr.cell? ⟨b, o + k * 11, none⟩ = some (.int .i64 kd) := g1 0 _ rfl
      have p1 : wr.cell? ⟨b, o + k * 11 + 1, none⟩ = some (.int .i64 L.l) := g1 1 _ rfl
      have p2 : wr.cell? ⟨b, o + k * 11 + 2, none⟩ = some (.int .i64 L.r) := g1 2 _ rfl
      have p3 : wr.cell? ⟨b, o + k * 11 + 3, none⟩ = some (.string L.a.x) := g1 3 _ rfl
      have p4 : wr.cell? ⟨b, o + k * 11 + 4, none⟩ = some (.string L.a.y) := g1 4 _ rfl
      have p5 : wr.cell? ⟨b, o + k * 11 + 5, none⟩ = some (.string L.a.z) := g1 5 _ rfl
      have p6 : wr.cell? ⟨b, o + k * 11 + 6, none⟩ = some (.string L.b.x) := g1 6 _ rfl
      have p7 : wr.cell? ⟨b, o + k * 11 + 7, none⟩ = some (.string L.b.y) := g1 7 _ rfl
      have p8 : wr.cell? ⟨b, o + k * 11 + 8, none⟩ = some (.string L.b.z) := g1 8 _ rfl
      have p9 : wr.cell? ⟨b, o + k * 11 + 9, none⟩ = some (.int .i64 wd) := g1 9 _ rfl
      have p10 : wr.cell? ⟨b, o + k * 11 + 10, none⟩ = some (.int .i64 dp) := g1 10 _ rfl
      have q0 : wr.cell? ⟨b2, o2 + k * 11, none⟩ = some (.int .i64 kd) := g2 0 _ rfl
      have q1 : wr.cell? ⟨b2, o2 + k * 11 + 1, none⟩ = some (.int .i64 L.l) := g2 1 _ rfl
      have q2 : wr.cell? ⟨b2, o2 + k * 11 + 2, none⟩ = some (.int .i64 L.r) := g2 2 _ rfl
      have q3 : wr.cell? ⟨b2, o2 + k * 11 + 3, none⟩ = some (.string L.a.x) := g2 3 _ rfl
      have q4 : wr.cell? ⟨b2, o2 + k * 11 + 4, none⟩ = some (.string L.a.y) := g2 4 _ rfl
      have q5 : wr.cell? ⟨b2, o2 + k * 11 + 5, none⟩ = some (.string L.a.z) := g2 5 _ rfl
      have q6 : wr.cell? ⟨b2, o2 + k * 11 + 6, none⟩ = some (.string L.b.x) := g2 6 _ rfl
      have q7 : wr.cell? ⟨b2, o2 + k * 11 + 7, none⟩ = some (.string L.b.y) := g2 7 _ rfl
      have q8 : wr.cell? ⟨b2, o2 + k * 11 + 8, none⟩ = some (.string L.b.z) := g2 8 _ rfl
      have q9 : wr.cell? ⟨b2, o2 + k * 11 + 9, none⟩ = some (.int .i64 wd) := g2 9 _ rfl
      have q10 : wr.cell? ⟨b2, o2 + k * 11 + 10, none⟩ = some (.int .i64 dp) := g2 10 _ rfl
      have he := fun w => eqMem_same kd L.l L.r wd dp L.a.x L.a.y L.a.z L.b.x L.b.y L.b.z w
      have hki : (k : Int) < (n : Int) := by omega
      clear hx hb1 hb2 hr1 hr2 g1 g2 hkd
      go_wp2_with fail
      go_quiet (fail)
      have HB2 := hide (below_drewN hb.out nq)
      clear hb he p0 p1 p2 p3 p4 p5 p6 p7 p8 p9 p10 q0 q1 q2 q3 q4 q5 q6 q7 q8 q9 q10
      go_wp2_with fail
      go_roundw
      case rel => exact ⟨k + 1, by omega, by go_num, HB2⟩
      case measure => simp [intOf]; omega
    · have hki : ((k : Int) < (n : Int)) = False := eq_false (by omega)
      clear hlt
      go_wp2_with fail
      go_ret
      exact ⟨rfl, hb.out⟩
open Go.RowKit Go.KP Go.KI Go.Shelf

abbrev pkL (S : List Sz3) (l : Ln) : Option (Int × Int) := pickS S (kindP l.k)
abbrev erL (l : Ln) (s : Int × Int) : Int := ofE l s.1 s.2
abbrev mkL (l : Ln) (s : Int × Int) : Mb := (l, s)
def errL (S : List Sz3) (L : List Ln) : Int := errA (pkL S) erL L
def outL (S : List Sz3) (L : List Ln) : List Mb := outA (pkL S) mkL L
def allE (S : List Sz3) (L : List Ln) : Int := if validS S = true then errL S L else 1
def allX (S : List Sz3) (L : List Ln) : List Mb := if allE S L = 0 then outL S L else []
theorem lnAt_drop {L : List Ln} {i : Nat} (h : i < L.length) : L.drop i = lnAt L i :: L.drop (i + 1) := by
  rw [List.drop_eq_getElem_cons h]
  simp [lnAt, h]
theorem ln_snoc {L : List Ln} {i : Nat} (h : i < L.length) : L.take (i + 1) = L.take i ++ [lnAt L i] := by
  rw [List.take_add_one]
  simp [lnAt, h]
theorem outL_snoc {S : List Sz3} {L : List Ln} {i : Nat} (h : i < L.length) : outL S (L.take (i + 1)) = outL S (L.take i) ++ outL S [lnAt L i] := by
  rw [ln_snoc h]
  exact outA_append _ _ _ _
theorem outL_le (S : List Sz3) (L : List Ln) : (outL S L).length ≤ L.length := outA_le _ _ L
open Go.RowKit Go.KP Go.KI Go.Shelf

abbrev Sm := I3 × I3
abbrev sm0 : Sm := (⟨0, 0, 0⟩, ⟨0, 0, 0⟩)
def smallS (x : Sm) : Prop := small3 x.1 ∧ small3 x.2
abbrev vecT (a : V3) : S3 := ⟨T a.x, T a.y, T a.z⟩
def kindB (b : Nat) : Int := ((b % 8 + 1 : Nat) : Int)
def lineOf (x : Sm) (b : Nat) : Ln := ⟨kindB b, vecT (v3 x.1), vecT (v3 (moved x.1 x.2)), 2, 1⟩
def linesOf (X : List Sm) (K : List Nat) : List Ln := (X.zip K).map fun p => lineOf p.1 p.2
theorem half_ok : ∀ k : Fin 256, (T (half ((k.val : Int) - 128))).size ≤ 30 := by decide +kernel
theorem half_size {n : Int} (h1 : -128 ≤ n) (h2 : n ≤ 127) : (T (half n)).size ≤ 30 := by
  have h := half_ok ⟨(n + 128).toNat, by omega⟩
  have e : (((n + 128).toNat : Nat) : Int) - 128 = n := by omega
  simp only [e] at h
  exact h
theorem half_chk {n : Int} (h1 : -128 ≤ n) (h2 : n ≤ 127) : chkQ (T (half n)).data.toList = 0 := by
  rw [T_list]
  exact chkQ_fits (sz_fits (half_sz (by omega)) (by decide))
theorem small_tiny {a : I3} (h : small3 a) : tiny3 (vecT (v3 a)) := ⟨half_size h.1.1 h.1.2, half_size h.2.1.1 h.2.1.2, half_size h.2.2.1 h.2.2.2⟩
theorem three_zero {p q r : Int} (h1 : p = 0) (h2 : q = 0) (h3 : r = 0) : (if p ≠ 0 then p else if q ≠ 0 then q else r) = 0 := by
  subst h1; subst h2; subst h3; rfl
theorem small_chk {a : I3} (h : small3 a) : chkS (vecT (v3 a)) = 0 :=
  three_zero (half_chk h.1.1 h.1.2) (half_chk h.2.1.1 h.2.1.2) (half_chk h.2.2.1 h.2.2.2)
theorem lineOf_tiny {x : Sm} (h : smallS x) (b : Nat) : tinyL (lineOf x b) := ⟨small_tiny h.1, small_tiny (moved_small h.2)⟩
theorem lineOf_ofE {x : Sm} (h : smallS x) {b : Nat} {wd dp : Int} (hk : kindP (kindB b) ≠ 0) (h1 : 1 ≤ wd) (h2 : wd ≤ 1000) (h3 : 1 ≤ dp) (h4 : dp ≤ 1000) : ofE (lineOf x b) wd dp = 0 := by
  unfold ofE
  show (if kindP (kindB b) = 0 then 8 else memE (kindP (kindB b)) 2 1 (vecT (v3 x.1)) (vecT (v3 (moved x.1 x.2))) wd dp) = 0
  rw [if_neg hk]
  unfold memE
  have hp : 1 ≤ kindP (kindB b) ∧ kindP (kindB b) ≤ 12 := by
    unfold kindP at hk ⊢
    split at hk
    · simp_all
    · split at hk
      · simp_all
      · split at hk
        · simp_all
        · exact absurd rfl hk
  rw [if_neg (by omega), if_neg (by omega), if_neg (by omega), small_chk h.1, small_chk (moved_small h.2)]
  rw [if_neg (by simp), if_neg (by simp), if_neg]
  rintro ⟨e1, e2, e3⟩
  exact v3_ne h.1 (V3.ext (T_inj e1) (T_inj e2) (T_inj e3))
theorem linesOf_len {X : List Sm} {K : List Nat} (h : X.length = K.length) : (linesOf X K).length = K.length := by
  unfold linesOf
  rw [List.length_map, List.length_zip, h]
  omega
theorem linesOf_snoc {X : List Sm} {K : List Nat} {i : Nat} (h1 : i < X.length) (h2 : i < K.length) : linesOf (X.take (i + 1)) (K.take (i + 1)) = linesOf (X.take i) (K.take i) ++ [lineOf (X.getD i sm0) (K.getD i 0)] := by
  unfold linesOf
  rw [List.take_succ_eq_append_getElem h1, List.take_succ_eq_append_getElem h2, List.zip_append (by simp; omega)]
  simp [h1, h2]
theorem linesOf_mem {X : List Sm} {K : List Nat} {l : Ln} (h : l ∈ linesOf X K) : ∃ x b, x ∈ X ∧ b ∈ K ∧ l = lineOf x b := by
  unfold linesOf at h
  obtain ⟨⟨x, b⟩, hm, e⟩ := List.mem_map.1 h
  have := List.of_mem_zip hm
  exact ⟨x, b, this.1, this.2, e.symm⟩
theorem few_lines {X : List Sm} {K : List Nat} (h : X.length = K.length) (h8 : K.length ≤ 8) (hs : ∀ x ∈ X, smallS x) : fewL (linesOf X K) := by
  refine ⟨by rw [linesOf_len h]; omega, fun k hk => ?_⟩
  have hm : lnAt (linesOf X K) k ∈ linesOf X K := by
    simp only [lnAt, List.getD_eq_getElem?_getD, List.getElem?_eq_getElem hk, Option.getD_some]
    exact List.getElem_mem hk
  obtain ⟨x, b, hx, _, e⟩ := linesOf_mem hm
  rw [e]
  exact lineOf_tiny (hs x hx) b
def szOf (h v r : Bool) : List Sz3 := (if h then [(6, 52, 200)] else []) ++ (if v then [(7, 53, 200)] else []) ++ (if r then [(8, 51, 200)] else [])
abbrev szC : Sz3 := (1, 1, 1)
theorem szOf_valid : ∀ h v r : Bool, validS (szOf h v r) = true ∧ validS (szC :: szOf h v r) = true := by decide
theorem kind_cases (n : Int) : (n = 1 ∧ kindP n = 8) ∨ (n = 2 ∧ kindP n = 6) ∨ (n = 3 ∧ kindP n = 7) ∨ (n ≠ 1 ∧ n ≠ 2 ∧ n ≠ 3 ∧ kindP n = 0) := by
  unfold kindP
  by_cases h1 : n = 1
  · exact .inl ⟨h1, if_pos h1⟩
  rw [if_neg h1]
  by_cases h2 : n = 2
  · exact .inr (.inl ⟨h2, if_pos h2⟩)
  rw [if_neg h2]
  by_cases h3 : n = 3
  · exact .inr (.inr (.inl ⟨h3, if_pos h3⟩))
  rw [if_neg h3]
  exact .inr (.inr (.inr ⟨h1, h2, h3, rfl⟩))
theorem pick_szOf (h v r : Bool) (n : Int) : pickS (szOf h v r) (kindP n) = if n = 1 ∧ r = true then some (51, 200) else if n = 2 ∧ h = true then some (52, 200) else if n = 3 ∧ v = true then some (53, 200) else none := by
  rcases kind_cases n with ⟨rfl, e⟩ | ⟨rfl, e⟩ | ⟨rfl, e⟩ | ⟨n1, n2, n3, e⟩
  · rw [e]; cases h <;> cases v <;> cases r <;> rfl
  · rw [e]; cases h <;> cases v <;> cases r <;> rfl
  · rw [e]; cases h <;> cases v <;> cases r <;> rfl
  · rw [e, if_neg (fun g => n1 g.1), if_neg (fun g => n2 g.1), if_neg (fun g => n3 g.1)]
    exact if_pos rfl
theorem pick_more (S : List Sz3) (n : Int) : pickS (szC :: S) (kindP n) = pickS S (kindP n) := by
  unfold pickS
  by_cases h : kindP n = 0
  · rw [if_pos h, if_pos h]
  · rw [if_neg h, if_neg h, List.find?_cons_of_neg]
    have : kindP n ≠ 1 := by rcases kind_cases n with ⟨_, e⟩ | ⟨_, e⟩ | ⟨_, e⟩ | ⟨_, _, _, e⟩ <;> omega
    simpa using Ne.symm this
theorem outL_more (S : List Sz3) (L : List Ln) : outL (szC :: S) L = outL S L := by
  induction L with
  | nil => rfl
  | cons x r ih =>
    unfold outL at ih ⊢
    rw [outA_cons, outA_cons, ih]
    rw [show pkL (szC :: S) x = pkL S x from pick_more S x.k]
theorem outL_no (L : List Ln) : outL [] L = [] := by
  induction L with
  | nil => rfl
  | cons x r ih =>
    unfold outL at ih ⊢
    rw [outA_cons, ih]
    have : pkL [] x = none := by
      show pickS [] (kindP x.k) = none
      unfold pickS
      split <;> rfl
    rw [this]
theorem errL_zero {S : List Sz3} {L : List Ln} (h : ∀ x ∈ L, ∀ s, pkL S x = some s → erL x s = 0) : errL S L = 0 := by
  induction L with
  | nil => rfl
  | cons x r ih =>
    have h1 := ih fun y hy => h y (by simp [hy])
    unfold errL at h1 ⊢
    rw [errA_cons]
    cases hx : pkL S x with
    | none => exact h1
    | some s =>
      show (if erL x s ≠ 0 then erL x s else errA (pkL S) erL r) = 0
      rw [if_neg (by simpa using h x (by simp) s hx)]
      exact h1
theorem err_szOf {X : List Sm} {K : List Nat} (hs : ∀ x ∈ X, smallS x) (h v r : Bool) : errL (szOf h v r) (linesOf X K) = 0 := by
  refine errL_zero fun l hl s hp => ?_
  obtain ⟨x, b, hx, _, rfl⟩ := linesOf_mem hl
  have hp2 : pickS (szOf h v r) (kindP (kindB b)) = some s := hp
  have hk : kindP (kindB b) ≠ 0 := by
    intro e
    rw [e] at hp2
    unfold pickS at hp2
    rw [if_pos rfl] at hp2
    cases hp2
  rw [pick_szOf] at hp2
  split at hp2
  · obtain rfl := Option.some.inj hp2; exact lineOf_ofE (hs x hx) hk (by decide) (by decide) (by decide) (by decide)
  · split at hp2
    · obtain rfl := Option.some.inj hp2; exact lineOf_ofE (hs x hx) hk (by decide) (by decide) (by decide) (by decide)
    · split at hp2
      · obtain rfl := Option.some.inj hp2; exact lineOf_ofE (hs x hx) hk (by decide) (by decide) (by decide) (by decide)
      · cases hp2
theorem err_more (S : List Sz3) (L : List Ln) : errL (szC :: S) L = errL S L := by
  induction L with
  | nil => rfl
  | cons x r ih =>
    unfold errL at ih ⊢
    rw [errA_cons, errA_cons, ih]
    rw [show pkL (szC :: S) x = pkL S x from pick_more S x.k]
theorem err_no (L : List Ln) : errL [] L = 0 := errL_zero fun x _ s hp => by
  have : pkL [] x = none := by
    show pickS [] (kindP x.k) = none
    unfold pickS
    split <;> rfl
  rw [this] at hp
  cases hp
def cntK (K : List Nat) (n : Int) : Nat := K.countP fun b => decide (kindB b = n)
theorem cntK_snoc {K : List Nat} {i : Nat} (h : i < K.length) (n : Int) : cntK (K.take (i + 1)) n = cntK (K.take i) n + (if kindB (K.getD i 0) = n then 1 else 0) := by
  unfold cntK
  rw [List.take_succ_eq_append_getElem h, List.countP_append, List.countP_cons, List.countP_nil]
  simp [h]
theorem cntK_le (K : List Nat) (n : Int) : cntK K n ≤ K.length := List.countP_le_length
def wantN (h v r : Bool) (K : List Nat) : Nat := (if h then cntK K 2 else 0) + (if v then cntK K 3 else 0) + (if r then cntK K 1 else 0)
theorem want_len {h v r : Bool} : ∀ {X : List Sm} {K : List Nat}, X.length = K.length → (outL (szOf h v r) (linesOf X K)).length = wantN h v r K := by
  intro X
  induction X with
  | nil =>
    intro K hl
    obtain rfl : K = [] := List.eq_nil_of_length_eq_zero (by simpa using hl.symm)
    cases h <;> cases v <;> cases r <;> rfl
  | cons x X ih =>
    intro K hl
    cases K with
    | nil => cases hl
    | cons b K =>
      have hi := ih (K := K) (by simpa using hl)
      have e : linesOf (x :: X) (b :: K) = lineOf x b :: linesOf X K := rfl
      have hp : pkL (szOf h v r) (lineOf x b) = pickS (szOf h v r) (kindP (kindB b)) := rfl
      have h2 : (outL (szOf h v r) (lineOf x b :: linesOf X K)).length = (if (pickS (szOf h v r) (kindP (kindB b))).isSome then 1 else 0) + (outL (szOf h v r) (linesOf X K)).length := by
        unfold outL
        rw [outA_cons, hp]
        cases pickS (szOf h v r) (kindP (kindB b)) with
        | none => simp
        | some s => simp; omega
      rw [e, h2, hi, pick_szOf]
      unfold wantN cntK
      simp only [List.countP_cons]
      obtain ⟨n, hn⟩ : ∃ n, n = kindB b := ⟨_, rfl⟩
      rw [← hn]
      rcases kind_cases n with ⟨e, _⟩ | ⟨e, _⟩ | ⟨e, _⟩ | ⟨n1, n2, n3, _⟩
      · subst e; cases h <;> cases v <;> cases r <;> simp <;> omega
      · subst e; cases h <;> cases v <;> cases r <;> simp <;> omega
      · subst e; cases h <;> cases v <;> cases r <;> simp <;> omega
      · simp [n1, n2, n3]
theorem mem_size {S : List Sz3} {L : List Ln} {m : Mb} (h : m ∈ outL S L) : (kindP m.1.k, m.2.1, m.2.2) ∈ S := by
  obtain ⟨x, s, _, hp, rfl⟩ := outA_mem _ _ h
  have hp2 : pickS S (kindP x.k) = some s := hp
  unfold pickS at hp2
  split at hp2
  · cases hp2
  · cases hx : S.find? (fun s => s.1 = kindP x.k) with
    | none => rw [hx] at hp2; cases hp2
    | some y =>
      rw [hx] at hp2
      obtain rfl : y.2 = s := by simpa using hp2
      have h1 := List.mem_of_find?_eq_some hx
      have h2 : y.1 = kindP x.k := by simpa using List.find?_some hx
      show (kindP x.k, y.2.1, y.2.2) ∈ S
      rw [← h2]
      exact h1
theorem all_szOf {X : List Sm} {K : List Nat} (hs : ∀ x ∈ X, smallS x) (h v r : Bool) : allE (szOf h v r) (linesOf X K) = 0 ∧ allX (szOf h v r) (linesOf X K) = outL (szOf h v r) (linesOf X K) := by
  have e : allE (szOf h v r) (linesOf X K) = 0 := by unfold allE; rw [if_pos (szOf_valid h v r).1]; exact err_szOf hs h v r
  exact ⟨e, by unfold allX; rw [if_pos e]⟩
theorem all_more {X : List Sm} {K : List Nat} (hs : ∀ x ∈ X, smallS x) (h v r : Bool) : allE (szC :: szOf h v r) (linesOf X K) = 0 ∧ allX (szC :: szOf h v r) (linesOf X K) = outL (szOf h v r) (linesOf X K) := by
  have e : allE (szC :: szOf h v r) (linesOf X K) = 0 := by unfold allE; rw [if_pos (szOf_valid h v r).2, err_more]; exact err_szOf hs h v r
  exact ⟨e, by unfold allX; rw [if_pos e, outL_more]⟩
theorem all_no (L : List Ln) : allE [] L = 0 ∧ allX [] L = [] := by
  have e : allE [] L = 0 := by unfold allE; rw [if_pos (by rfl)]; exact err_no L
  exact ⟨e, by unfold allX; rw [if_pos e, outL_no]⟩
def CountsAs {H : Type} (D : DataW H) (K : List Nat) : Prop := Go.Maps.IsMap D ∧ ∀ n : Int, D.atKey (.int .i64 n) (.lit (.int .i64 0)) = .lit (.int .i64 (cntK K n))
theorem counts_none {H : Type} : CountsAs (H := H) (.map []) [] := ⟨⟨_, rfl⟩, fun _ => rfl⟩
theorem counts_step {H : Type} {D : DataW H} {K : List Nat} {i : Nat} (h : CountsAs D (K.take i)) (hi : i < K.length) : CountsAs (D.put (.int .i64 (kindB (K.getD i 0))) (.lit (.int .i64 ((cntK (K.take i) (kindB (K.getD i 0)) : Int) + 1)))) (K.take (i + 1)) := by
  refine ⟨?_, fun n => ?_⟩
  · obtain ⟨⟨es, rfl⟩, _⟩ := h
    exact ⟨_, rfl⟩
  · rw [cntK_snoc hi]
    by_cases hn : kindB (K.getD i 0) = n
    · subst hn
      rw [Go.Maps.atKey_put_same h.1 (by simp [WideAt.IsKeyLit]), if_pos rfl]
      simp
    · rw [Go.Maps.atKey_put_other (by simpa using fun e => hn e.symm), h.2, if_neg hn]
      rfl
open Go.RowKit Go.KP Go.KI Go.Shelf
attribute [local go_sem] Oper.semAt_some

theorem eqSz (a0 a1 a2 b0 b1 b2 : Int) (w : World) : (Op.equalIn 10000 59 (.agg #[.int .i64 a0, .int .i64 a1, .int .i64 a2]) (.agg #[.int .i64 b0, .int .i64 b1, .int .i64 b2])).run Tryz.prog w = .ok (a0 == b0 && a1 == b1 && a2 == b2) w := by
  have hS : Tryz.prog.underlying 59 = some (.struct (Tryz.prog.fieldsOf 59)) := by kernel_rfl
  have hp : Tryz.prog.stoodInHeld 59 = false := by kernel_rfl
  rw [show (10000 : Nat) = 9999 + 1 from rfl, run_equalIn_agg w 9999 59 _ _ hS hp]
  simp only [Program.fieldsOf, Tryz.underlying59]
  go_simp
  by_cases h1 : a0 = b0 <;> by_cases h2 : a1 = b1 <;> by_cases h3 : a2 = b2 <;> simp [*]
theorem sz_beq (a b : Sz3) : (a.1 == b.1 && a.2.1 == b.2.1 && a.2.2 == b.2.2) = decide (a = b) := by
  obtain ⟨a0, a1, a2⟩ := a
  obtain ⟨b0, b1, b2⟩ := b
  by_cases h1 : a0 = b0 <;> by_cases h2 : a1 = b1 <;> by_cases h3 : a2 = b2 <;> simp [*]
theorem szIndex_any (y : Sz3) (A : Option Addr) (n c : Nat) (S : List Sz3) (w : World) (hn : S.length = n) (hmax : n ≤ 1000000) (hc : SizesAt w A S) :
    Calls Tryz.prog 41 #[.slice A n c, .agg #[.int .i64 y.1, .int .i64 y.2.1, .int .i64 y.2.2]] w (Ret w (.int .i64 (idxF (fun x => decide (y = x)) 0 S))) := by
  have HN := hide hn
  have X0 := hide (heap1 w (szO y))
  have HC := hide (hc.on X0.out.2.2)
  obtain ⟨W0, hW0⟩ : ∃ W0, W0 = w.alloc (szO y) := ⟨_, rfl⟩
  have HI := hide (show idxF (fun x => decide (y = x)) 0 S = idxF (fun x => decide (y = x)) 0 (S.drop 0) from rfl)
  obtain ⟨V, hV⟩ : ∃ V, V = idxF (fun x => decide (y = x)) 0 S := ⟨_, rfl⟩
  rw [← hV] at HI ⊢
  rw [← hW0] at X0 HC
  clear hc hn hV
  go_enter Tryz.func41, Tryz.ntmps41
  go_wp2_with fail
  rw [← hW0]
  clear hW0
  go_loopw [8] (fun i wr => ∃ k : Nat, k ≤ n ∧ i = .int .i64 k ∧ Hid (Below W0.heap.size W0 wr) ∧ Hid (V = idxF (fun x => decide (y = x)) k (S.drop k))) (fun i _ => n - (intOf i).toNat)
  case atStart => exact ⟨0, Nat.zero_le _, rfl, Below.refl _ _, HI⟩
  case round =>
    obtain ⟨k, hk, rfl, hb, hinv⟩ := hrel
    by_cases hlt : k < n
    · obtain ⟨b, o, rfl, hbl, hc1, hc2, hc3⟩ := HC.out k (by rw [HN.out]; exact hlt)
      have hki : (k : Int) < (n : Int) := by omega
      have r1 := (hb.out.cell (p := ⟨b, o + k * 3, none⟩) hbl).trans hc1
      have r2 := (hb.out.cell (p := ⟨b, o + k * 3 + 1, none⟩) hbl).trans hc2
      have r3 := (hb.out.cell (p := ⟨b, o + k * 3 + 2, none⟩) hbl).trans hc3
      have hst : idxF (fun x => decide (y = x)) k (S.drop k) = if decide (y = zAt S k) = true then (k : Int) else idxF (fun x => decide (y = x)) (k + 1) (S.drop (k + 1)) := by
        have hl : k < S.length := by rw [HN.out]; exact hlt
        rw [List.drop_eq_getElem_cons hl]
        simp [idxF, zAt, hl]
      have HS := hide hst
      have G := hide (below_blk hb.out X0.out.1 (lt_blk X0.out.1))
      have d := fun o => cell_blk G.out o
      have ld := lt_blk G.out
      clear hst hc1 hc2 hc3 hbl
      obtain ⟨z, hz⟩ : ∃ z, z = zAt S k := ⟨_, rfl⟩
      rw [← hz] at r1 r2 r3 HS
      clear hz
      have he := fun w => (eqSz y.1 y.2.1 y.2.2 z.1 z.2.1 z.2.2 w).trans (by rw [sz_beq])
      by_cases hx : y = z
      · rw [decide_eq_true hx] at he
        have HX := hide hx
        clear hx
        go_wp2_with fail
        go_quiet (fail)
        have HB2 := hide (below_drewN hb.out nq)
        clear he d ld r1 r2 r3
        go_wp2_with fail
        go_ret
        refine ⟨?_, X0.out.2.2.trans (HB2.out.mono X0.out.2.2.size)⟩
        have h := hinv.out
        rw [HS.out, if_pos (decide_eq_true HX.out)] at h
        rw [h]
        rfl
      · rw [decide_eq_false hx] at he
        have HX := hide hx
        clear hx
        go_wp2_with fail
        go_quiet (fail)
        have HB2 := hide (below_drewN hb.out nq)
        clear he d ld r1 r2 r3
        go_wp2_with fail
        go_roundw
        case rel => exact ⟨k + 1, by omega, by go_num, HB2, by have h := hinv.out; rw [HS.out, if_neg (by simpa using HX.out)] at h; exact h⟩
        case measure => simp [intOf]; omega
    · have hki : ((k : Int) < (n : Int)) = False := eq_false (by omega)
      have HE := hide (show V = -1 by
        have h := hinv.out
        rw [List.drop_of_length_le (by have := HN.out; omega)] at h
        exact h)
      clear hlt
      go_wp2_with fail
      go_ret
      refine ⟨by rw [HE.out]; rfl, X0.out.2.2.trans (hb.out.mono X0.out.2.2.size)⟩
theorem szContains_any (y : Sz3) (A : Option Addr) (n c : Nat) (S : List Sz3) (w : World) (hn : S.length = n) (hmax : n ≤ 1000000) (hc : SizesAt w A S) (hy : y ∈ S) :
    Calls Tryz.prog 14 #[.slice A n c, .agg #[.int .i64 y.1, .int .i64 y.2.1, .int .i64 y.2.2]] w (Ret w (.bool true)) := by
  have X0 := hide (heap1 w (szO y))
  have HX := hide (szIndex_any y A n c S _ hn hmax (hc.on X0.out.2.2))
  clear hn hc
  have hA := idxF_any (fun x => decide (y = x)) S 0
  rw [show S.any (fun x => decide (y = x)) = true from List.any_eq_true.2 ⟨y, hy, by simp⟩] at hA
  obtain ⟨q, hq⟩ : ∃ q, q = idxF (fun x => decide (y = x)) 0 S := ⟨_, rfl⟩
  rw [← hq] at HX hA
  have hq0 : (0 : Int) ≤ q := of_decide_eq_true hA
  clear hq hA
  go_enter Tryz.func14, Tryz.ntmps14
  go_wp2_with fail
  refine HX.out.mono ?_
  rintro e w1 ⟨rfl, hb1⟩
  have HB1 := hide (X0.out.2.2.trans (hb1.mono X0.out.2.2.size))
  clear hb1
  go_wp2_with fail
  go_ret
  exact ⟨rfl, HB1.out⟩
def lcells (L : List Ln) : List Value := L.flatMap lnCs
theorem lcells_at {L : List Ln} {k j : Nat} (h : k < L.length) (hj : j < 9) : (lcells L)[k * 9 + j]? = (lnCs (lnAt L k))[j]? := flat_at lnCs 9 (fun _ => rfl) ln0 L k j h hj
theorem lcells_snoc (L : List Ln) (x : Ln) : lcells (L ++ [x]) = lcells L ++ lnCs x := by
  unfold lcells
  rw [List.flatMap_append]
  simp
abbrev szCs (s : Sz3) : List Value := [.int .i64 s.1, .int .i64 s.2.1, .int .i64 s.2.2]
def scells (S : List Sz3) : List Value := S.flatMap szCs
theorem scells_at {S : List Sz3} {k j : Nat} (h : k < S.length) (hj : j < 3) : (scells S)[k * 3 + j]? = (szCs (zAt S k))[j]? := flat_at szCs 3 (fun _ => rfl) (0, 0, 0) S k j h hj
theorem scells_snoc (S : List Sz3) (x : Sz3) : scells (S ++ [x]) = scells S ++ szCs x := by
  unfold scells
  rw [List.flatMap_append]
  simp
theorem owns_cap {w : World} {base : Nat} {e : TypeId} {size : Nat} {v : Value} {n : Nat} {xs : List Value} (h : w.ownsRow base e size v n xs) : ∃ A c, v = .slice A n c ∧ n ≤ c := by
  rcases h.2 with ⟨rfl, rfl⟩ | ⟨g, cap, cur, rfl, _, _, h3, _⟩
  · exact ⟨none, 0, rfl, Nat.le_refl _⟩
  · exact ⟨_, cap, rfl, h3⟩
theorem SlAt.lines {B : Nat} {w : World} {A : Option Addr} {n c : Nat} {L : List Ln} (h : SlAt B w 9 (.slice A n c) n (lcells L)) (hn : L.length = n) (hB : B ≤ w.heap.size) : LinesAt w A L := by
  rcases h.2 with ⟨a, c, h1, h2⟩ | ⟨b, o, cap, hv, hb, hc⟩
  · intro k hk
    omega
  · intro k hk
    injection hv with h1
    refine ⟨b, o, h1, by omega, fun j u hu => ?_⟩
    have hj : j < 9 := (List.getElem?_eq_some_iff.1 hu).1
    rw [Nat.add_assoc]
    exact hc _ _ ((lcells_at hk hj).trans hu)
theorem SlAt.sizes {B : Nat} {w : World} {A : Option Addr} {n c : Nat} {S : List Sz3} (h : SlAt B w 3 (.slice A n c) n (scells S)) (hn : S.length = n) (hB : B ≤ w.heap.size) : SizesAt w A S := by
  rcases h.2 with ⟨a, c, h1, h2⟩ | ⟨b, o, cap, hv, hb, hc⟩
  · intro k hk
    omega
  · intro k hk
    injection hv with h1
    have g := fun j u (hu : (szCs (zAt S k))[j]? = some u) => hc (k * 3 + j) u ((scells_at hk (List.getElem?_eq_some_iff.1 hu).1).trans hu)
    refine ⟨b, o, h1, by omega, ?_, ?_, ?_⟩
    · exact g 0 _ rfl
    · exact g 1 _ rfl
    · exact g 2 _ rfl
open Go.RowKit Go.KP Go.KI Go.Shelf
attribute [local go_sem] Oper.semAt_some

abbrev roofV (A : Option Addr) (n c : Nat) : Value := .agg #[.slice none 0 0, .slice none 0 0, .slice none 0 0, .slice A n c]
abbrev roofO (A : Option Addr) (n c : Nat) : Obj := .cells #[.slice none 0 0, .slice none 0 0, .slice none 0 0, .slice A n c] 45
def AllAt (w : World) (S : List Sz3) (L : List Ln) (e : Ending) (w2 : World) : Prop :=
  ∃ v, e = .returned (.tuple #[v, .int .i64 (allE S L)]) ∧ SlAt w2.heap.size w2 11 v (allX S L).length (mcells (allX S L)) ∧ Below w.heap.size w w2
theorem all_fail {w w2 : World} {S : List Sz3} {L : List Ln} {E : Int} (h : allE S L = E) (hE : E ≠ 0) (hb : Below w.heap.size w w2) : AllAt w S L (.returned (.tuple #[.slice none 0 0, .int .i64 E])) w2 := by
  refine ⟨_, by rw [h], ?_, hb⟩
  have hx : allX S L = [] := by unfold allX; rw [if_neg (by rw [h]; exact hE)]
  rw [hx]
  exact SlAt.nil _ _ _
theorem all_ret {w w2 : World} {S : List Sz3} {L : List Ln} {v : Value} {base : Nat} {e : TypeId} (hv : validS S = true) (h : errL S L = 0) (ho : w2.ownsRow base e 11 v (outL S L).length (mcells (outL S L))) (hb : Below w.heap.size w w2) : AllAt w S L (.returned (.tuple #[v, .int .i64 0])) w2 := by
  have h0 : allE S L = 0 := by unfold allE; rw [if_pos hv]; exact h
  have hx : allX S L = outL S L := by unfold allX; rw [if_pos h0]
  refine ⟨v, by rw [h0], ?_, hb⟩
  rw [hx]
  exact SlAt.of_owns ho
theorem ofV_form (l : Ln) (wd dp : Int) : ∃ (k f o : Int) (a b : S3) (x y : Int), ofV l wd dp = memTV k f o a b x y ∧
    (ofE l wd dp = 0 → [.int .i64 k, .int .i64 f, .int .i64 o, .string a.x, .string a.y, .string a.z, .string b.x, .string b.y, .string b.z, .int .i64 x, .int .i64 y] = mbCs (l, wd, dp)) := by
  unfold ofV
  split
  · exact ⟨_, _, _, _, _, _, _, rfl, fun _ => rfl⟩
  · next h => exact ⟨0, 0, 0, s30, s30, 0, 0, rfl, fun e => absurd e h⟩
theorem info32 : (Tryz.prog.info? 32).map (fun i => (i.zero, i.size, i.bytes)) = some (some mem0V, 11, 136) := by kernel_rfl
theorem allE_bad {S : List Sz3} {L : List Ln} (h : validS S = false) : allE S L = 1 := by unfold allE; rw [h]; rfl
theorem allE_err {S : List Sz3} {L : List Ln} (h : validS S = true) : allE S L = errL S L := by unfold allE; rw [if_pos h]
open Go.RowKit Go.KP Go.KI Go.Shelf
attribute [local go_sem] Oper.semAt_some

theorem sized11_at (b : Nat) (kd : Int) (x : Sz3) (w : World) (h : w.heap[b]? = some (.cells #[.int .i64 kd] 3)) :
    Calls Tryz.prog 74 #[.agg #[.int .i64 x.1, .int .i64 x.2.1, .int .i64 x.2.2], .pointer (some ⟨b, 0, none⟩)] w (Ret w (.bool (decide (x.1 = kd)))) := by
  have X0 := hide (heap1 w (szO x))
  have G := hide (below_blk X0.out.2.2 h (lt_blk h))
  have c0 := cell_blk G.out 0
  have l0 := lt_blk G.out
  clear h
  go_enter Tryz.func74, Tryz.ntmps74
  go_wp2_with fail
  go_ret
  refine ⟨?_, X0.out.2.2⟩
  simp
  rfl
theorem sized11_answers (b : Nat) (kd : Int) (w : World) (h : w.heap[b]? = some (.cells #[.int .i64 kd] 3)) : AnswersZ 74 #[.pointer (some ⟨b, 0, none⟩)] (fun x => decide (x.1 = kd)) w :=
  ⟨enters_of Tryz.func74 (by kernel_rfl) rfl, fun x W hb => sized11_at b kd x W (below_blk hb h (lt_blk h))⟩
abbrev boxL (A : Option Addr) (n c : Nat) : Obj := .cells #[.slice A n c] 22
abbrev boxZ (A : Option Addr) (n c : Nat) : Obj := .cells #[.slice A n c] 23
theorem hsized_any (A : Option Addr) (n c : Nat) (A2 : Option Addr) (m c2 : Nat) (w : World) :
    Calls Tryz.prog 37 #[.slice A n c, .slice A2 m c2] w (fun e w' => e = .returned (.func (.func 72) #[] #[.pointer (some ⟨w.heap.size, 0, none⟩), .pointer (some ⟨w.heap.size + 1, 0, none⟩)]) ∧ w' = (w.alloc (boxL A n c)).alloc (boxZ A2 m c2)) := by
  go_enter Tryz.func37, Tryz.ntmps37
  go_wp2_with fail
  go_ret
  exact ⟨rfl, rfl⟩
theorem idx_ways (S : List Sz3) (kd : Int) : ∀ (k : Nat) (R : List Sz3), R = S.drop k → k ≤ S.length →
    ((R.find? (fun s => s.1 = kd) = none ∧ idxF (fun x : Sz3 => decide (x.1 = kd)) k R = -1) ∨
     ∃ j, k ≤ j ∧ j < S.length ∧ R.find? (fun s => s.1 = kd) = some (zAt S j) ∧ idxF (fun x : Sz3 => decide (x.1 = kd)) k R = (j : Int)) := by
  intro k R
  induction R generalizing k with
  | nil => intro _ _; exact .inl ⟨rfl, rfl⟩
  | cons x r ih =>
    intro h hk
    have hl : k < S.length := by
      rcases Nat.lt_or_ge k S.length with h1 | h1
      · exact h1
      · rw [List.drop_eq_nil_of_le h1] at h; cases h
    rw [List.drop_eq_getElem_cons hl] at h
    injection h with h1 h2
    have hz : zAt S k = x := by simp [zAt, hl, h1]
    by_cases hx : x.1 = kd
    · refine .inr ⟨k, Nat.le_refl _, hl, ?_, ?_⟩
      · rw [List.find?_cons_of_pos (by simpa using hx), hz]
      · unfold idxF; rw [if_pos (by simpa using hx)]
    · rw [List.find?_cons_of_neg (by simpa using hx)]
      rcases ih (k + 1) h2 hl with ⟨i1, i2⟩ | ⟨j, j1, j2, j3, j4⟩
      · refine .inl ⟨i1, ?_⟩
        unfold idxF; rw [if_neg (by simpa using hx)]; exact i2
      · refine .inr ⟨j, by omega, j2, j3, ?_⟩
        unfold idxF; rw [if_neg (by simpa using hx)]; exact j4
theorem pick_ways (S : List Sz3) (l : Ln) :
    (pkL S l = none ∧ (kindP l.k = 0 ∨ idxF (fun x : Sz3 => decide (x.1 = kindP l.k)) 0 S = -1)) ∨
    ∃ j, kindP l.k ≠ 0 ∧ j < S.length ∧ (zAt S j).1 = kindP l.k ∧ pkL S l = some (zAt S j).2 ∧ idxF (fun x : Sz3 => decide (x.1 = kindP l.k)) 0 S = (j : Int) := by
  by_cases h0 : kindP l.k = 0
  · exact .inl ⟨if_pos h0, .inl h0⟩
  · rcases idx_ways S (kindP l.k) 0 S rfl (Nat.zero_le _) with ⟨h1, h2⟩ | ⟨j, _, h2, h3, h4⟩
    · refine .inl ⟨?_, .inr h2⟩
      show pickS S _ = none
      unfold pickS
      rw [if_neg h0, h1]
      rfl
    · refine .inr ⟨j, h0, h2, by simpa using List.find?_some h3, ?_, h4⟩
      show pickS S _ = _
      unfold pickS
      rw [if_neg h0, h3]
      rfl
theorem outL_next {S : List Sz3} {L : List Ln} {i : Nat} (h : i < L.length) {s : Int × Int} (hp : pkL S (lnAt L i) = some s) :
    (outL S (L.take i)).length < (outL S L).length ∧ (outL S L).getD (outL S (L.take i)).length mb0 = (lnAt L i, s) ∧ (outL S (L.take (i + 1))).length = (outL S (L.take i)).length + 1 := by
  have h1 : outL S [lnAt L i] = [(lnAt L i, s)] := outA_some _ _ hp
  have e : outL S L = outL S (L.take i) ++ ((lnAt L i, s) :: outL S (L.drop (i + 1))) := by
    conv => lhs; rw [show L = L.take i ++ ([lnAt L i] ++ L.drop (i + 1)) by rw [List.singleton_append, ← lnAt_drop h, List.take_append_drop]]
    unfold outL at h1 ⊢
    rw [outA_append, outA_append, h1]
    rfl
  refine ⟨by rw [e, List.length_append, List.length_cons]; omega, ?_, by rw [outL_snoc h, h1]; simp⟩
  rw [e]
  simp
theorem outL_skip {S : List Sz3} {L : List Ln} {i : Nat} (h : i < L.length) (hp : pkL S (lnAt L i) = none) : (outL S (L.take (i + 1))).length = (outL S (L.take i)).length := by
  rw [outL_snoc h, show outL S [lnAt L i] = [] from outA_none _ _ hp, List.append_nil]
theorem outL_pre (S : List Sz3) (L : List Ln) (i : Nat) : (outL S (L.take i)).length ≤ (outL S L).length := by
  conv => rhs; rw [show L = L.take i ++ L.drop i by rw [List.take_append_drop]]
  unfold outL
  rw [outA_append, List.length_append]
  omega
end Go.Proofs.YtklgpilgalfckaaGreatDoor
namespace Go.KP
open Go Go.RowKit

structure QuietO (O : Nat → Prop) (B : Nat) (S : Nat → Prop) (W W2 : World) : Prop where
  os : W2.os = W.os
  tape : W2.tape = W.tape
  output : W2.output = W.output
  size : W.heap.size ≤ W2.heap.size
  block : ∀ b, ¬ O b → (b < B ∨ S b) → b < W.heap.size → W2.heap[b]? = W.heap[b]?
theorem Quiet.toO {B : Nat} {S : Nat → Prop} {W W2 : World} (h : Quiet B S W W2) (O : Nat → Prop) : QuietO O B S W W2 :=
  ⟨h.os, h.tape, h.output, h.size, fun b _ hb hl => h.block b hb hl⟩
theorem QuietO.refl (O : Nat → Prop) (B : Nat) (S : Nat → Prop) (W : World) : QuietO O B S W W := ⟨rfl, rfl, rfl, Nat.le_refl _, fun _ _ _ _ => rfl⟩
theorem QuietO.trans {O : Nat → Prop} {B : Nat} {S : Nat → Prop} {a b c : World} (h : QuietO O B S a b) (k : QuietO O B S b c) : QuietO O B S a c :=
  ⟨k.os.trans h.os, k.tape.trans h.tape, k.output.trans h.output, Nat.le_trans h.size k.size, fun i hn hi hl => (k.block i hn hi (Nat.lt_of_lt_of_le hl h.size)).trans (h.block i hn hi hl)⟩
theorem QuietO.of_below {O : Nat → Prop} {B n : Nat} {S : Nat → Prop} {a w w2 : World} (h : QuietO O B S a w) (hb : Below n w w2) (hn : w.heap.size ≤ n) : QuietO O B S a w2 :=
  h.trans ⟨hb.os, hb.tape, hb.output, hb.size, fun b _ _ hl => hb.block b (by omega)⟩
theorem QuietO.set {O : Nat → Prop} {B : Nat} {S : Nat → Prop} {a w : World} (h : QuietO O B S a w) {p : Addr} (hp : O p.block) (u : Value) : QuietO O B S a (w.setCell p u) :=
  h.trans ⟨rfl, rfl, rfl, by simp [World.setCell], fun b hn _ _ => Below.heap_setCell _ _ _ _ (fun e => hn (by rw [e]; exact hp))⟩
def StaysO (O : Nat → Prop) (B : Nat) (J : (Nat → Prop) → World → Prop) : Prop := ∀ S W W2, J S W → QuietO O B S W W2 → J S W2
variable {P : Program}

def IterOwn (P : Program) (gf : Nat) (lb : Array Value) (encs : Nat → Array Value) (N : Nat) (Ke : Nat → World → Prop) (O : Nat → Prop) (w : World) : Prop :=
  ∀ (l : Nat) (J : Nat → (Nat → Prop) → World → Prop) (Jx : (Nat → Prop) → World → Prop) (W : World),
    (∀ b, O b → b < W.heap.size ∧ W.heap[b]? = w.heap[b]?) → (∀ k, StaysO O W.heap.size (J k)) → StaysO O W.heap.size Jx → (∀ k S W1, J k S W1 → ∀ b, S b → b < W1.heap.size) → (∀ k S W1, k ≤ N → J k S W1 → Ke k W1) →
    (∀ k S W1, k < N → J k S W1 → W.heap.size ≤ W1.heap.size →
      YieldAt Fence.wide 0 P l (encs k) W1 fun e W2 => ∃ S', Upd W.heap.size S S' W1 W2 ∧ (∀ b, O b → W2.heap[b]? = W1.heap[b]?) ∧
        ((e = .returned (.bool true) ∧ J (k + 1) S' W2) ∨ (e = .returned (.bool false) ∧ Jx S' W2))) →
    J 0 (fun _ => False) W →
    CallsIn Fence.wide 0 P gf (#[.func (.yield l) #[] #[]] ++ lb) W fun e W2 => (∃ v, e = .returned v) ∧ ∃ S, J N S W2 ∨ Jx S W2

def bodyEndO (B : Nat) (O : Nat → Prop) (I : (Nat → Prop) → World → Prop) (Ix : Code → (Nat → Prop) → World → Prop) (S : Nat → Prop) (W : World) : Exit → Act → World → Prop
  | .normal, _, W2 => ∃ S', Upd B S S' W W2 ∧ (∀ b, O b → W2.heap[b]? = W.heap[b]?) ∧ I S' W2
  | .ret, _, W2 => ∃ S', Upd B S S' W W2 ∧ (∀ b, O b → W2.heap[b]? = W.heap[b]?) ∧ Ix .ret S' W2
  | .exit id, _, W2 => ∃ S', Upd B S S' W W2 ∧ (∀ b, O b → W2.heap[b]? = W.heap[b]?) ∧ Ix (.exit id) S' W2
  | .goto t, _, W2 => ∃ S', Upd B S S' W W2 ∧ (∀ b, O b → W2.heap[b]? = W.heap[b]?) ∧ Ix (.goto t) S' W2
  | .panic _, _, _ => False
  | .outgrown, _, _ => False

theorem wp_iter_own {g : Operand} {ps : Array Tmp} {assign body : Code} {Q : Exit → Act → World → Prop} {a : Act} {w : World}
    {gf : Nat} {lb : Array Value} (hg : a.eval g = .func (.func gf) #[] lb) (eg : ∀ args w, (callFunc gf args).run P w = .ok (.enter gf args) w)
    {encs : Nat → Array Value} {N : Nat} {Ke : Nat → World → Prop} {O : Nat → Prop} {w0 : World} (hseq : IterOwn P gf lb encs N Ke O w0) (hO : ∀ b, O b → b < w.heap.size ∧ w.heap[b]? = w0.heap[b]?) (hps : ∀ k, (encs k).size = ps.size)
    (I : Nat → (Nat → Prop) → World → Prop) (Ix : Code → (Nat → Prop) → World → Prop) (hI : ∀ k, StaysO O w.heap.size (I k)) (hIx : ∀ c, StaysO O w.heap.size (Ix c)) (h0 : I 0 (fun _ => False) w) (hke : ∀ k S W, k ≤ N → I k S W → Ke k W)
    (Ax : Nat → (Nat → Prop) → Act → World → Prop)
    (hAx : ∀ k S a1 W l r r2, Ax k S a1 W → W.heap[l]? = some (.loop r) → Ax k S a1 (W.putObj l (.loop r2)))
    (hassign : ∀ (l k : Nat) (S : Nat → Prop) (W : World) (K : Act → World → Prop), w.heap.size ≤ W.heap.size → (∀ b, S b → b < W.heap.size) → (∀ a1 W1, Quiet w.heap.size S W W1 → Upd w.heap.size S S W W1 → Ax k S a1 W1 → K a1 W1) →
      assign.wpIn (Fence.wide.inRound l) 0 P (Exit.then K (fun _ _ _ => False)) { tmps := (ps.zip (encs k)).foldl (fun t (p, v) => t.setIfInBounds p v) a.tmps, defers := [] } W)
    (hS : ∀ k S W, I k S W → ∀ b, S b → b < W.heap.size)
    (hbody : ∀ (l k : Nat) (S : Nat → Prop) (a1 : Act) (W : World), k < N → I k S W → Ax k S a1 W → w.heap.size ≤ W.heap.size →
      body.wpIn (Fence.wide.inRound l) 0 P (bodyEndO w.heap.size O (I (k + 1)) Ix S W) a1 W)
    (hdone : ∀ (D : Nat) (S : Nat → Prop) (W : World), w.heap.size ≤ D → I N S W → W.heap[D]? = some (.deferred (some [])) → Q .normal { a with defers := { target := .collected D, args := #[] } :: a.defers } W)
    (hstop : ∀ (D : Nat) (c : Code) (S : Nat → Prop) (W : World), w.heap.size ≤ D → Ix c S W → W.heap[D]? = some (.deferred (some [])) → c.wpIn Fence.wide 0 P Q { a with defers := { target := .collected D, args := #[] } :: a.defers } W) :
    (Code.rangeFunc g ps assign body).wpIn Fence.wide 0 P Q a w := by
  refine wpIn_rangeFunc ?_
  intro fn _
  obtain ⟨rec, hrec⟩ : ∃ rec : LoopState → Option Code → Loop, rec = fun st pe => { state := st, pending := pe, fn, tmps := a.tmps, params := ps, assign, body, defers := w.heap.size } := ⟨_, rfl⟩
  obtain ⟨W1, hW1⟩ : ∃ W1, (w.alloc (.deferred (some []))).alloc (.loop (rec .ready none)) = W1 := ⟨_, rfl⟩
  have hL1 : W1.heap[w.heap.size + 1]? = some (.loop (rec .ready none)) := by
    rw [← hW1]; have h := World.alloc_heap_new (w.alloc (.deferred (some []))) (.loop (rec .ready none)); rwa [World.size_alloc] at h
  have hK1 : W1.heap[w.heap.size]? = some (.deferred (some [])) := by
    rw [← hW1]; exact (Below.heap_alloc _ _ _ (by simp)).trans (World.alloc_heap_new w _)
  have hq1 : Quiet w.heap.size (fun _ => False) w W1 := by rw [← hW1]; exact ((Quiet.refl _ _ w).alloc _).alloc _
  have hs1 : W1.heap.size = w.heap.size + 2 := by rw [← hW1]; simp
  have hn0 : ¬ O w.heap.size := fun h => by have := (hO _ h).1; omega
  have hn1 : ¬ O (w.heap.size + 1) := fun h => by have := (hO _ h).1; omega
  have hO1 : ∀ b, O b → b < W1.heap.size ∧ W1.heap[b]? = w0.heap[b]? := fun b hb => by
    obtain ⟨h1, h2⟩ := hO b hb
    exact ⟨by omega, (hq1.block b (.inl h1) h1).trans h2⟩
  have inner : ∀ (i : Nat) (S S' : Nat → Prop) (W W2 : World), w.heap.size ≤ i → i < w.heap.size + 2 → i < W.heap.size → ¬ S i → Upd w.heap.size S S' W W2 → W2.heap[i]? = W.heap[i]? ∧ ¬ S' i := fun i S S' W W2 h1 _ h3 h4 hu => hu.block i h1 h3 h4
  refine ⟨w.heap.size + 1, [{ target := .collected w.heap.size, args := #[] }], W1, { target := .fn (.func gf) lb, args := #[.func (.yield (w.heap.size + 1)) #[] #[]] }, W1, gf,
    #[.func (.yield (w.heap.size + 1)) #[] #[]] ++ lb, W1, ?_, ?_, ?_, ?_, fun h => by simp [Fence.wide] at h, ?_⟩
  · rw [← hW1, hrec]; exact run_enterLoop_outer _ _ _ _ _
  · simp only [resolve, hg]
    simp [go_sem]
  · exact fun _ _ => trivial
  · simp [invoke, go_sem, eg]
  · refine (hseq (w.heap.size + 1)
      (fun k S W => I k S W ∧ ¬ S w.heap.size ∧ ¬ S (w.heap.size + 1) ∧ W1.heap.size ≤ W.heap.size ∧ W.heap[w.heap.size + 1]? = some (.loop (rec .ready none)) ∧ W.heap[w.heap.size]? = some (.deferred (some [])))
      (fun S W => ∃ c, Ix c S W ∧ ¬ S w.heap.size ∧ ¬ S (w.heap.size + 1) ∧ W1.heap.size ≤ W.heap.size ∧ W.heap[w.heap.size + 1]? = some (.loop (rec .done (some c))) ∧ W.heap[w.heap.size]? = some (.deferred (some [])))
      W1 hO1 ?_ ?_ (fun k S W1 h => hS k S W1 h.1) (fun k S W1 hk h => hke k S W1 hk h.1) ?_ ⟨hI 0 _ _ _ h0 (hq1.toO O), fun h => h, fun h => h, Nat.le_refl _, hL1, hK1⟩).mono ?_
    · rintro k S W W2 ⟨hi, n1, n2, hsz, hl, hk⟩ hq
      have hw : w.heap.size + 1 < W.heap.size := (Array.getElem?_eq_some_iff.1 hl).1
      exact ⟨hI k _ _ _ hi ⟨hq.os, hq.tape, hq.output, hq.size, fun b hn hb hlt => hq.block b hn (hb.imp (fun h => by omega) id) hlt⟩, n1, n2, Nat.le_trans hsz hq.size,
        (hq.block _ hn1 (.inl (by omega)) hw).trans hl, (hq.block _ hn0 (.inl (by omega)) (by omega)).trans hk⟩
    · rintro S W W2 ⟨c, hi, n1, n2, hsz, hl, hk⟩ hq
      have hw : w.heap.size + 1 < W.heap.size := (Array.getElem?_eq_some_iff.1 hl).1
      exact ⟨c, hIx c _ _ _ hi ⟨hq.os, hq.tape, hq.output, hq.size, fun b hn hb hlt => hq.block b hn (hb.imp (fun h => by omega) id) hlt⟩, n1, n2, Nat.le_trans hsz hq.size,
        (hq.block _ hn1 (.inl (by omega)) hw).trans hl, (hq.block _ hn0 (.inl (by omega)) (by omega)).trans hk⟩
    · rintro k S W hkN ⟨hi, n1, n2, hsz, hl, hk⟩ _
      have hlt : w.heap.size + 1 < W.heap.size := (Array.getElem?_eq_some_iff.1 hl).1
      have hy := run_yield (P := P) (args := encs k) hl (by rw [hrec]; exact hps k)
      rw [hrec] at hy
      refine ⟨fn, _, assign, body, hy, roundIn_of_wpIn trivial (hassign _ k S W _ (by omega) (hS k S W hi) ?_)⟩
      intro a1 Wa hqa hua hax
      have hla := (inner (w.heap.size + 1) _ _ _ _ (by omega) (by omega) hlt n2 hua).1.trans hl
      have hka := (inner w.heap.size _ _ _ _ (by omega) (by omega) (by omega) n1 hua).1.trans hk
      have hsa := hua.size
      refine ⟨_, run_beginRound hla (by rw [hrec]), ?_⟩
      have hlt2 : w.heap.size + 1 < Wa.heap.size := by omega
      have hia := hI k _ _ _ hi (hqa.toO O)
      obtain ⟨W2, hW2⟩ : ∃ W2, Wa.putObj (w.heap.size + 1) (.loop { rec .ready none with state := .busy }) = W2 := ⟨_, rfl⟩
      have hq2 : Quiet w.heap.size S Wa W2 := by rw [← hW2]; exact putObj_quiet _ _ _ (by omega) n2
      have hax2 : Ax k S a1 W2 := by rw [← hW2]; exact hAx _ _ _ _ _ _ _ hax hla
      have hl2 : W2.heap[w.heap.size + 1]? = some (.loop { rec .ready none with state := .busy }) := by rw [← hW2]; exact World.putObj_heap_same hlt2
      have hk2 : W2.heap[w.heap.size]? = some (.deferred (some [])) := by rw [← hW2]; exact (World.putObj_heap_other (by omega)).trans hka
      have hs2 : W2.heap.size = Wa.heap.size := by rw [← hW2]; simp
      rw [hW2]
      refine wpIn_mono (hbody _ k S a1 W2 hkN (hI k _ _ _ hia (hq2.toO O)) hax2 (by omega)) ?_
      have fin : ∀ (jump : Option Code) (S' : Nat → Prop) (W3 : World), Upd w.heap.size S S' W2 W3 → (∀ b, O b → W3.heap[b]? = W2.heap[b]?) →
          ∃ W4, (Instr.endRound (w.heap.size + 1) jump).run P W3 = .ok (.bool jump.isNone) W4 ∧ Upd W1.heap.size S S' W W4 ∧ (∀ b, O b → W4.heap[b]? = W.heap[b]?) ∧ Quiet w.heap.size S' W3 W4 ∧
            ¬ S' w.heap.size ∧ ¬ S' (w.heap.size + 1) ∧ W1.heap.size ≤ W4.heap.size ∧
            W4.heap[w.heap.size + 1]? = some (.loop (rec (if jump.isNone then .ready else .done) jump)) ∧ W4.heap[w.heap.size]? = some (.deferred (some [])) := fun jump S' W3 hu ho3 => by
        have hl3 := (inner (w.heap.size + 1) _ _ _ _ (by omega) (by omega) (by omega) n2 hu)
        have hk3 := (inner w.heap.size _ _ _ _ (by omega) (by omega) (by omega) n1 hu)
        have hl4 := hl3.1.trans hl2
        have hs3 := hu.size
        have hr := run_endRound (P := P) jump hl4
        have e : ({ rec .ready none with state := if jump.isNone then LoopState.ready else LoopState.done, pending := jump } : Loop) = rec (if jump.isNone then .ready else .done) jump := by rw [hrec]
        simp only at hr
        rw [e] at hr
        have hq4 : Quiet w.heap.size S' W3 (W3.putObj (w.heap.size + 1) (.loop (rec (if jump.isNone then .ready else .done) jump))) := putObj_quiet _ _ _ (by omega) hl3.2
        refine ⟨_, hr, ⟨by simp; omega, fun b hB hlt' hs' => ?_⟩, fun b hb => ?_, hq4, hk3.2, hl3.2, by simp; omega, World.putObj_heap_same (by omega), (World.putObj_heap_other (by omega)).trans (hk3.1.trans hk2)⟩
        · obtain ⟨g1, g2⟩ := hua.block b (by omega) hlt' hs'
          obtain ⟨g3, g4⟩ := hu.block b (by omega) (by omega) g2
          refine ⟨(World.putObj_heap_other (by omega)).trans (g3.trans ?_), g4⟩
          rw [← hW2, World.putObj_heap_other (by omega)]
          exact g1
        · obtain ⟨h1, _⟩ := hO b hb
          refine (hq4.block b (.inl h1) (by omega)).trans ((ho3 b hb).trans ?_)
          exact (hq2.block b (.inl h1) (by omega)).trans (hqa.block b (.inl h1) (by omega))
      rintro e a3 W3 hp
      cases e with
      | normal =>
        obtain ⟨S', hu, ho3, hi3⟩ := hp
        obtain ⟨W4, hr, hu4, ho4, hq4, m1, m2, m3, hl4, hk4⟩ := fin none S' W3 hu ho3
        exact ⟨_, _, hr, S', hu4, ho4, .inl ⟨rfl, hI _ _ _ _ hi3 (hq4.toO O), m1, m2, m3, hl4, hk4⟩⟩
      | ret =>
        obtain ⟨S', hu, ho3, hi3⟩ := hp
        obtain ⟨W4, hr, hu4, ho4, hq4, m1, m2, m3, hl4, hk4⟩ := fin (some .ret) S' W3 hu ho3
        exact ⟨_, _, hr, S', hu4, ho4, .inr ⟨rfl, .ret, hIx _ _ _ _ hi3 (hq4.toO O), m1, m2, m3, hl4, hk4⟩⟩
      | exit id =>
        obtain ⟨S', hu, ho3, hi3⟩ := hp
        obtain ⟨W4, hr, hu4, ho4, hq4, m1, m2, m3, hl4, hk4⟩ := fin (some (.exit id)) S' W3 hu ho3
        exact ⟨_, _, hr, S', hu4, ho4, .inr ⟨rfl, .exit id, hIx _ _ _ _ hi3 (hq4.toO O), m1, m2, m3, hl4, hk4⟩⟩
      | goto t =>
        obtain ⟨S', hu, ho3, hi3⟩ := hp
        obtain ⟨W4, hr, hu4, ho4, hq4, m1, m2, m3, hl4, hk4⟩ := fin (some (.goto t)) S' W3 hu ho3
        exact ⟨_, _, hr, S', hu4, ho4, .inr ⟨rfl, .goto t, hIx _ _ _ _ hi3 (hq4.toO O), m1, m2, m3, hl4, hk4⟩⟩
      | panic ch => exact hp.elim
      | outgrown => exact hp.elim
    · rintro e W2 ⟨⟨v, rfl⟩, S, (⟨hi, n1, n2, hsz, hl, hk⟩ | ⟨c, hi, n1, n2, hsz, hl, hk⟩)⟩
      · refine ⟨none, _, by have h := run_endLoop (P := P) hl (by rw [hrec]; simp); rw [hrec] at h; exact h, ?_⟩
        exact hdone _ S _ (Nat.le_refl _) (hI _ _ _ _ hi ((putObj_quiet _ _ _ (by omega) n2).toO O)) ((World.putObj_heap_other (by omega)).trans hk)
      · refine ⟨some c, _, by have h := run_endLoop (P := P) hl (by rw [hrec]; simp); rw [hrec] at h; exact h, ?_⟩
        exact hstop _ c S _ (Nat.le_refl _) (hIx _ _ _ _ hi ((putObj_quiet _ _ _ (by omega) n2).toO O)) ((World.putObj_heap_other (by omega)).trans hk)
end Go.KP
