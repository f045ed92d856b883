/-
  Texts of the integers, laid together: Wh, Wj, Ye, Class, Yi, Yj, Yo.
-/
import Derived.ChangeSame
import Derived.OpenShut
import Derived.Test.YtbfojhneajedmaaGreatDoorZ4
import Derived.Test.YtbfojhneajedmaaGreatDoorZ13
import Derived.Test.YtbfojhneajedmaaGreatDoorZ14
namespace Go.Proofs.YtbfojhneajedmaaGreatDoor
open Go.RowKit Go.KP Go.KI Go.Shelf
attribute [local go_sem] Oper.semAt_some vidx0 vidx1 vidx2

theorem minor_n1 {a b c d : Rat} (h : mulO a d = none) : minorO a b c d = none := by unfold minorO; rw [h, Option.bind_none]
theorem minor_n2 {a b c d : Rat} (h : mulO b c = none) : minorO a b c d = none := by
  unfold minorO
  rw [h]
  cases mulO a d <;> rfl
theorem minor_ok {a b c d p q : Rat} (h1 : mulO a d = some p) (h2 : mulO b c = some q) : minorO a b c d = subO p q := by unfold minorO; rw [h1, Option.bind_some, h2, Option.bind_some]
theorem all3_n1 {x y z : Option Rat} (h : x = none) : all3 x y z = none := by rw [h]; rfl
theorem all3_n2 {x y z : Option Rat} (h : y = none) : all3 x y z = none := by rw [h]; cases x <;> rfl
theorem all3_n3 {x y z : Option Rat} (h : z = none) : all3 x y z = none := by rw [h]; cases x <;> cases y <;> rfl
/-- A slot that is filled or not. -/
def sel (b : Bool) (v : Value) : Value := if b then v else undef
theorem sel_t (v : Value) : sel true v = v := rfl
theorem sel_f (v : Value) : sel false v = undef := rfl
abbrev zarr : Obj := arrO ⟨#[]⟩ ⟨#[]⟩ ⟨#[]⟩
/-- The frame while both vectors' coordinates are taken. -/
def actX (a b : V3) (n : Nat) (b7 b8 : Nat) (x0 x1 x2 x3 x4 x5 : Bool) : Act :=
  { tmps := #[vecV a, vecV b, .pointer (some ⟨n, 0, none⟩), .pointer (some ⟨n + 1, 0, none⟩), .pointer (some ⟨n + 1 + 1, 0, none⟩), .int .i64 0, .pointer (some ⟨n + 1 + 1 + 1, 0, none⟩), sel x4 (.pointer (some ⟨b7, 0, none⟩)), sel x5 (.pointer (some ⟨b8, 0, none⟩)), undef, undef, undef, undef, undef, undef, sel x0 (vecV a), sel x1 (vecV a), sel x2 (vecV b), sel x3 (vecV b), undef, undef, undef, undef, undef, undef, undef, undef, undef, undef, undef, undef, undef, undef, undef, undef, undef, undef, undef, undef, undef, undef, undef, undef, undef, undef, undef, undef, undef, undef, undef, undef, undef, undef, undef, undef, undef, undef, undef, undef, undef, undef, undef, undef, undef, undef, undef, undef, undef, undef, undef, undef], defers := [] }
/-- What holds while they are taken. -/
def TakeX (a b : V3) (n : Nat) (W0 : World) (L : Array Bool) (A : Act) (w : World) : Prop :=
  ∃ b7 b8, A = actX a b n b7 b8 (L.getD 0 false) (L.getD 1 false) (L.getD 2 false) (L.getD 3 false) (L.getD 4 false) (L.getD 5 false) ∧ Below W0.heap.size W0 w ∧
    (L.getD 4 false = true → W0.heap.size ≤ b7 ∧ w.heap[b7]? = some zarr) ∧ (L.getD 5 false = true → W0.heap.size ≤ b8 ∧ w.heap[b8]? = some zarr) ∧ (L.getD 4 false = true → L.getD 5 false = true → b7 ≠ b8)
theorem TakeX.keep {a b : V3} {n : Nat} {W0 w w' : World} {L L' : Array Bool} {A' : Act} {b7 b8 : Nat} (hB : Below W0.heap.size W0 w) (h7 : L.getD 4 false = true → W0.heap.size ≤ b7 ∧ w.heap[b7]? = some zarr) (h8 : L.getD 5 false = true → W0.heap.size ≤ b8 ∧ w.heap[b8]? = some zarr) (hne : L.getD 4 false = true → L.getD 5 false = true → b7 ≠ b8)
    (hb : Below w.heap.size w w') (h4 : L'.getD 4 false = L.getD 4 false) (h5 : L'.getD 5 false = L.getD 5 false) (hA : A' = actX a b n b7 b8 (L'.getD 0 false) (L'.getD 1 false) (L'.getD 2 false) (L'.getD 3 false) (L.getD 4 false) (L.getD 5 false)) : TakeX a b n W0 L' A' w' := by
  refine ⟨b7, b8, by rw [hA, h4, h5], hB.trans (hb.mono hB.size), ?_, ?_, ?_⟩
  · rw [h4]
    intro h
    exact ⟨(h7 h).1, below_blk hb (h7 h).2 (lt_blk (h7 h).2)⟩
  · rw [h5]
    intro h
    exact ⟨(h8 h).1, below_blk hb (h8 h).2 (lt_blk (h8 h).2)⟩
  · rw [h4, h5]
    exact hne
set_option maxRecDepth 100000 in
set_option maxHeartbeats 16000000 in
theorem vcross_in {a b : V3} (fa : fitsV a) (fb : fitsV b) (B : Nat) (w : World) (hB : B ≤ w.heap.size) (hT : PQ B w) :
    Calls Tryz.prog 90 #[vecV a, vecV b] w (ResV w (crossO a b)) := by
  have HT := hide hT
  have FA := hide fa
  have FB := hide fb
  have HO := hide (show crossO a b = all3 (minorO a.y a.z b.y b.z) (minorO a.z a.x b.z b.x) (minorO a.x a.y b.x b.y) from rfl)
  obtain ⟨O, hO⟩ : ∃ O, O = crossO a b := ⟨_, rfl⟩
  rw [← hO] at HO ⊢
  have HOF := hide (fun a b c w => vof_any a b c w)
  obtain ⟨W0, hW0⟩ : ∃ W, W = (((w.alloc (sptO (T a.x) (T a.y) (T a.z))).alloc (sptO (T b.x) (T b.y) (T b.z))).alloc (spotO ⟨#[]⟩ ⟨#[]⟩ ⟨#[]⟩)).alloc (arrO ⟨#[]⟩ ⟨#[]⟩ ⟨#[]⟩) := ⟨_, rfl⟩
  have hX := heap3 w (sptO (T a.x) (T a.y) (T a.z)) (sptO (T b.x) (T b.y) (T b.z)) (spotO ⟨#[]⟩ ⟨#[]⟩ ⟨#[]⟩)
  have hY := heap1 (((w.alloc (sptO (T a.x) (T a.y) (T a.z))).alloc (sptO (T b.x) (T b.y) (T b.z))).alloc (spotO ⟨#[]⟩ ⟨#[]⟩ ⟨#[]⟩)) (arrO ⟨#[]⟩ ⟨#[]⟩ ⟨#[]⟩)
  rw [← hW0, hX.2.2.2.1] at hY
  have hs0 : W0.heap.size = w.heap.size + 4 := hY.2.1
  have E2 := hide (below_blk hY.2.2 hX.1 (by omega))
  have E3 := hide (below_blk hY.2.2 hX.2.1 (by omega))
  have E4 := hide (below_blk hY.2.2 hX.2.2.1 (by omega))
  have E6 := hide hY.1
  have HB0 := hide (hX.2.2.2.2.trans (hY.2.2.mono (by omega)))
  have HS0 := hide hs0
  clear hX hY hO hT fa fb hs0
  go_enter Tryz.func90, Tryz.ntmps90
  go_wp2_with fail
  rw [← hW0]
  have HW0 := hide hW0
  clear hW0
  have HL1 := hide (fun w => vlist_at (T a.x) (T a.y) (T a.z) w)
  have HL2 := hide (fun w => vlist_at (T b.x) (T b.y) (T b.z) w)
  refine region_steps 6 (TakeX a b w.heap.size W0) (by kernel_rfl) (by decide) (by kernel_rfl) (by kernel_rfl) ⟨0, 0, rfl, (Below.refl _ _).drew, (fun h => by cases h), (fun h => by cases h), (fun h => by cases h)⟩ ?_ ?_
  · intro i o L A v hi ho hL hf hd hS
    obtain ⟨b7, b8, rfl, hV, h7, h8, hne⟩ := hS
    have hi6 : i = 0 ∨ i = 1 ∨ i = 2 ∨ i = 3 ∨ i = 4 ∨ i = 5 := by omega
    rcases hi6 with rfl | rfl | rfl | rfl | rfl | rfl
    all_goals
      simp only [List.getElem?_cons_zero, List.getElem?_cons_succ, Option.some.injEq] at ho
      subst ho
    · have G := fun j => getD_set (j := j) hL hi
      obtain ⟨x0, hx0⟩ : ∃ x, x = L.getD 0 false := ⟨_, rfl⟩
      obtain ⟨x1, hx1⟩ : ∃ x, x = L.getD 1 false := ⟨_, rfl⟩
      obtain ⟨x2, hx2⟩ : ∃ x, x = L.getD 2 false := ⟨_, rfl⟩
      obtain ⟨x3, hx3⟩ : ∃ x, x = L.getD 3 false := ⟨_, rfl⟩
      obtain ⟨x4, hx4⟩ : ∃ x, x = L.getD 4 false := ⟨_, rfl⟩
      obtain ⟨x5, hx5⟩ : ∃ x, x = L.getD 5 false := ⟨_, rfl⟩
      rw [← hx0, ← hx1, ← hx2, ← hx3, ← hx4, ← hx5]
      have HK : Hid (∀ A', A' = actX a b w.heap.size b7 b8 true x1 x2 x3 x4 x5 → TakeX a b w.heap.size W0 (L.setIfInBounds 0 true) A' v) := hide (fun A' hA => TakeX.keep hV h7 h8 hne (Below.refl _ v) (by rw [G]; rfl) (by rw [G]; rfl) (by rw [hA, G, G, G, G, hx1, hx2, hx3, hx4, hx5]; rfl))
      have e2 := below_blk hV E2.out (lt_blk E2.out)
      have l2 := lt_blk e2
      have k0 := cell_blk e2 0
      have k1 := cell_blk e2 1
      have k2 := cell_blk e2 2
      unfold actX
      clear h7 h8 hne hV hd e2 hx0 hx1 hx2 hx3 hx4 hx5 G hf hL hi
      go_wp2_with fail
      exact HK.out _ rfl
    · have G := fun j => getD_set (j := j) hL hi
      obtain ⟨x0, hx0⟩ : ∃ x, x = L.getD 0 false := ⟨_, rfl⟩
      obtain ⟨x1, hx1⟩ : ∃ x, x = L.getD 1 false := ⟨_, rfl⟩
      obtain ⟨x2, hx2⟩ : ∃ x, x = L.getD 2 false := ⟨_, rfl⟩
      obtain ⟨x3, hx3⟩ : ∃ x, x = L.getD 3 false := ⟨_, rfl⟩
      obtain ⟨x4, hx4⟩ : ∃ x, x = L.getD 4 false := ⟨_, rfl⟩
      obtain ⟨x5, hx5⟩ : ∃ x, x = L.getD 5 false := ⟨_, rfl⟩
      rw [← hx0, ← hx1, ← hx2, ← hx3, ← hx4, ← hx5]
      have HK : Hid (∀ A', A' = actX a b w.heap.size b7 b8 x0 true x2 x3 x4 x5 → TakeX a b w.heap.size W0 (L.setIfInBounds 1 true) A' ((v.alloc (sptO (T a.x) (T a.y) (T a.z))).alloc (arrO (T a.x) (T a.y) (T a.z)))) := hide (fun A' hA => TakeX.keep hV h7 h8 hne (heap2 v (sptO (T a.x) (T a.y) (T a.z)) (arrO (T a.x) (T a.y) (T a.z))).2.2.2 (by rw [G]; rfl) (by rw [G]; rfl) (by rw [hA, G, G, G, G, hx0, hx2, hx3, hx4, hx5]; rfl))
      have hdep : x0 = true := by rw [hx0]; exact hd 0 (waitsB_iff.1 (by kernel_rfl))
      have HK := hide HK.out
      unfold actX
      clear h7 h8 hne hV hd hx0 hx1 hx2 hx3 hx4 hx5 G hf hL hi
      subst hdep
      simp only [sel_t]
      go_wp2_with fail
      refine (HL1.out _).mono ?_
      rintro e v' ⟨rfl, rfl⟩
      go_wp2_with fail
      exact HK.out _ rfl
    · have G := fun j => getD_set (j := j) hL hi
      obtain ⟨x0, hx0⟩ : ∃ x, x = L.getD 0 false := ⟨_, rfl⟩
      obtain ⟨x1, hx1⟩ : ∃ x, x = L.getD 1 false := ⟨_, rfl⟩
      obtain ⟨x2, hx2⟩ : ∃ x, x = L.getD 2 false := ⟨_, rfl⟩
      obtain ⟨x3, hx3⟩ : ∃ x, x = L.getD 3 false := ⟨_, rfl⟩
      obtain ⟨x4, hx4⟩ : ∃ x, x = L.getD 4 false := ⟨_, rfl⟩
      obtain ⟨x5, hx5⟩ : ∃ x, x = L.getD 5 false := ⟨_, rfl⟩
      rw [← hx0, ← hx1, ← hx2, ← hx3, ← hx4, ← hx5]
      have HK : Hid (∀ A', A' = actX a b w.heap.size b7 b8 x0 x1 true x3 x4 x5 → TakeX a b w.heap.size W0 (L.setIfInBounds 2 true) A' v) := hide (fun A' hA => TakeX.keep hV h7 h8 hne (Below.refl _ v) (by rw [G]; rfl) (by rw [G]; rfl) (by rw [hA, G, G, G, G, hx0, hx1, hx3, hx4, hx5]; rfl))
      have e2 := below_blk hV E3.out (lt_blk E3.out)
      have l2 := lt_blk e2
      have k0 := cell_blk e2 0
      have k1 := cell_blk e2 1
      have k2 := cell_blk e2 2
      unfold actX
      clear h7 h8 hne hV hd e2 hx0 hx1 hx2 hx3 hx4 hx5 G hf hL hi
      go_wp2_with fail
      exact HK.out _ rfl
    · have G := fun j => getD_set (j := j) hL hi
      obtain ⟨x0, hx0⟩ : ∃ x, x = L.getD 0 false := ⟨_, rfl⟩
      obtain ⟨x1, hx1⟩ : ∃ x, x = L.getD 1 false := ⟨_, rfl⟩
      obtain ⟨x2, hx2⟩ : ∃ x, x = L.getD 2 false := ⟨_, rfl⟩
      obtain ⟨x3, hx3⟩ : ∃ x, x = L.getD 3 false := ⟨_, rfl⟩
      obtain ⟨x4, hx4⟩ : ∃ x, x = L.getD 4 false := ⟨_, rfl⟩
      obtain ⟨x5, hx5⟩ : ∃ x, x = L.getD 5 false := ⟨_, rfl⟩
      rw [← hx0, ← hx1, ← hx2, ← hx3, ← hx4, ← hx5]
      have HK : Hid (∀ A', A' = actX a b w.heap.size b7 b8 x0 x1 x2 true x4 x5 → TakeX a b w.heap.size W0 (L.setIfInBounds 3 true) A' ((v.alloc (sptO (T b.x) (T b.y) (T b.z))).alloc (arrO (T b.x) (T b.y) (T b.z)))) := hide (fun A' hA => TakeX.keep hV h7 h8 hne (heap2 v (sptO (T b.x) (T b.y) (T b.z)) (arrO (T b.x) (T b.y) (T b.z))).2.2.2 (by rw [G]; rfl) (by rw [G]; rfl) (by rw [hA, G, G, G, G, hx0, hx1, hx2, hx4, hx5]; rfl))
      have hdep : x2 = true := by rw [hx2]; exact hd 2 (waitsB_iff.1 (by kernel_rfl))
      have HK := hide HK.out
      unfold actX
      clear h7 h8 hne hV hd hx0 hx1 hx2 hx3 hx4 hx5 G hf hL hi
      subst hdep
      simp only [sel_t]
      go_wp2_with fail
      refine (HL2.out _).mono ?_
      rintro e v' ⟨rfl, rfl⟩
      go_wp2_with fail
      exact HK.out _ rfl
    · have G := fun j => getD_set (j := j) hL hi
      obtain ⟨x0, hx0⟩ : ∃ x, x = L.getD 0 false := ⟨_, rfl⟩
      obtain ⟨x1, hx1⟩ : ∃ x, x = L.getD 1 false := ⟨_, rfl⟩
      obtain ⟨x2, hx2⟩ : ∃ x, x = L.getD 2 false := ⟨_, rfl⟩
      obtain ⟨x3, hx3⟩ : ∃ x, x = L.getD 3 false := ⟨_, rfl⟩
      obtain ⟨x4, hx4⟩ : ∃ x, x = L.getD 4 false := ⟨_, rfl⟩
      obtain ⟨x5, hx5⟩ : ∃ x, x = L.getD 5 false := ⟨_, rfl⟩
      rw [← hx0, ← hx1, ← hx2, ← hx3, ← hx4, ← hx5]
      have HK : Hid (∀ A', A' = actX a b w.heap.size v.heap.size b8 x0 x1 x2 x3 true x5 → TakeX a b w.heap.size W0 (L.setIfInBounds 4 true) A' (v.alloc zarr)) := hide (fun A' hA => ⟨v.heap.size, b8, by rw [hA, G, G, G, G, G, G, hx0, hx1, hx2, hx3, hx5]; rfl, hV.trans ((heap1 v zarr).2.2.mono hV.size), (fun _ => ⟨hV.size, heap_alloc_new v _⟩), (fun h => by rw [G] at h; have h2 := h8 h; exact ⟨h2.1, below_blk (heap1 v zarr).2.2 h2.2 (lt_blk h2.2)⟩), (fun _ h => by rw [G] at h; have h2 := lt_blk (h8 h).2; omega)⟩)
      unfold actX
      clear h7 h8 hne hV hd hx0 hx1 hx2 hx3 hx4 hx5 G hf hL hi
      go_wp2_with fail
      exact HK.out _ rfl
    · have G := fun j => getD_set (j := j) hL hi
      obtain ⟨x0, hx0⟩ : ∃ x, x = L.getD 0 false := ⟨_, rfl⟩
      obtain ⟨x1, hx1⟩ : ∃ x, x = L.getD 1 false := ⟨_, rfl⟩
      obtain ⟨x2, hx2⟩ : ∃ x, x = L.getD 2 false := ⟨_, rfl⟩
      obtain ⟨x3, hx3⟩ : ∃ x, x = L.getD 3 false := ⟨_, rfl⟩
      obtain ⟨x4, hx4⟩ : ∃ x, x = L.getD 4 false := ⟨_, rfl⟩
      obtain ⟨x5, hx5⟩ : ∃ x, x = L.getD 5 false := ⟨_, rfl⟩
      rw [← hx0, ← hx1, ← hx2, ← hx3, ← hx4, ← hx5]
      have HK : Hid (∀ A', A' = actX a b w.heap.size b7 v.heap.size x0 x1 x2 x3 x4 true → TakeX a b w.heap.size W0 (L.setIfInBounds 5 true) A' (v.alloc zarr)) := hide (fun A' hA => ⟨b7, v.heap.size, by rw [hA, G, G, G, G, G, G, hx0, hx1, hx2, hx3, hx4]; rfl, hV.trans ((heap1 v zarr).2.2.mono hV.size), (fun h => by rw [G] at h; have h2 := h7 h; exact ⟨h2.1, below_blk (heap1 v zarr).2.2 h2.2 (lt_blk h2.2)⟩), (fun _ => ⟨hV.size, heap_alloc_new v _⟩), (fun h _ => by rw [G] at h; have h2 := lt_blk (h7 h).2; omega)⟩)
      unfold actX
      clear h7 h8 hne hV hd hx0 hx1 hx2 hx3 hx4 hx5 G hf hL hi
      go_wp2_with fail
      exact HK.out _ rfl
  · intro A v hS
    obtain ⟨b7, b8, rfl, hV, h7, h8, hne⟩ := hS
    have hb7 := (h7 rfl).1
    have hb8 := (h8 rfl).1
    have A7 := hide (h7 rfl).2
    have A8 := hide (h8 rfl).2
    have hne78 : b7 ≠ b8 := hne rfl rfl
    have A4 := hide (below_blk hV E4.out (lt_blk E4.out))
    have A6 := hide (below_blk hV E6.out (lt_blk E6.out))
    have HV := hide (HB0.out.trans (hV.mono HB0.out.size))
    have k0 := cell_blk A7.out 0
    have k1 := cell_blk A7.out 1
    have k2 := cell_blk A7.out 2
    have f0 := froz_blk A7.out 0
    have f1 := froz_blk A7.out 1
    have f2 := froz_blk A7.out 2
    have m0 := cell_blk A8.out 0
    have m1 := cell_blk A8.out 1
    have m2 := cell_blk A8.out 2
    have g0 := froz_blk A8.out 0
    have g1 := froz_blk A8.out 1
    have g2 := froz_blk A8.out 2
    have l7 := lt_blk A7.out
    have l8 := lt_blk A8.out
    clear hV h7 h8 hne
    simp only [List.drop_succ_cons, List.drop_zero]
    show wpList _ _ _ _ (actX a b w.heap.size b7 b8 true true true true true true) v
    unfold actX
    simp only [sel_t]
    go_wp2_with fail
    obtain ⟨u0, hu0⟩ : ∃ W, W = ((((((v.setCell ⟨b7, 0, none⟩ (.string (T a.x))).setCell ⟨b7, 1, none⟩ (.string (T a.y))).setCell ⟨b7, 2, none⟩ (.string (T a.z))).setCell ⟨b8, 0, none⟩ (.string (T b.x))).setCell ⟨b8, 1, none⟩ (.string (T b.y))).setCell ⟨b8, 2, none⟩ (.string (T b.z))) := ⟨_, rfl⟩
    rw [← hu0]
    have hs0 := HS0.out
    have X7 : Hid (u0.heap[b7]? = some (arrO (T a.x) (T a.y) (T a.z))) := hide (by rw [hu0]; exact set_other (set_other (set_other (set3c (set3b (set3a A7.out _) _) _) (Ne.symm hne78) _) (Ne.symm hne78) _) (Ne.symm hne78) _)
    have X8 : Hid (u0.heap[b8]? = some (arrO (T b.x) (T b.y) (T b.z))) := hide (by rw [hu0]; exact set3c (set3b (set3a (set_other (set_other (set_other A8.out hne78 _) hne78 _) hne78 _) _) _) _)
    have Y4 : Hid (u0.heap[w.heap.size + 2]? = some (spotO ⟨#[]⟩ ⟨#[]⟩ ⟨#[]⟩)) := hide (by rw [hu0]; exact set_other (set_other (set_other (set_other (set_other (set_other A4.out (by omega) _) (by omega) _) (by omega) _) (by omega) _) (by omega) _) (by omega) _)
    have Y6 : Hid (u0.heap[w.heap.size + 3]? = some (arrO ⟨#[]⟩ ⟨#[]⟩ ⟨#[]⟩)) := hide (by rw [hu0]; exact set_other (set_other (set_other (set_other (set_other (set_other A6.out (by omega) _) (by omega) _) (by omega) _) (by omega) _) (by omega) _) (by omega) _)
    have HB : Hid (Below w.heap.size w u0) := hide (by rw [hu0]; exact below_spot (below_spot HV.out (by omega) _ _ _) (by omega) _ _ _)
    have NE7 := hide (show w.heap.size + 3 ≠ b7 by omega)
    have NE8 := hide (show w.heap.size + 3 ≠ b8 by omega)
    clear hu0 hs0 A4 A6 A7 A8 HV k0 k1 k2 f0 f1 f2 m0 m1 m2 g0 g1 g2 l7 l8 hb7 hb8 hne78
    refine wp_loop_rounds 4 ?_
    rw [rounds_succ]
    have k7 := cell_blk X7.out 1
    have k8 := cell_blk X8.out 2
    have l7 := lt_blk X7.out
    have l8 := lt_blk X8.out
    go_wp2_with fail
    refine region_call 6 _ (by kernel_rfl) (by decide) rfl (by kernel_rfl) (by kernel_rfl) (by kernel_rfl) (by kernel_rfl) (by kernel_rfl) (by kernel_rfl) (C := fun w' => ∃ m, w' = u0.drewN m) ⟨1, rfl⟩ ?_
    simp only [List.take_succ_cons, List.take_zero, List.drop_succ_cons, List.drop_zero]
    repeat (quiet_step (fail))
    refine wpQuiet_nil ?_
    intro _ hw'
    obtain ⟨nq, rfl⟩ := hw'
    go_wp2_with fail
    refine (qmul_O FA.out.2.1 FB.out.2.2 B (u0.drewN nq) (Nat.le_trans hB HB.out.size) (HT.out.on (below_drewN HB.out nq) hB)).mono ?_
    rintro e v1 (⟨p0, hz, rfl, hb⟩ | ⟨hz, rfl, hb⟩)
    all_goals
      have hb2 := (below_drewN (Below.refl u0.heap.size u0) nq).trans hb
      clear k7 k8 l7 l8 hb
      go_wp2_with fail
      refine ⟨fun w'' => ∃ m, w'' = v1.drewN m, ⟨0, rfl⟩, ?_⟩
      repeat (quiet_step (fail))
      refine wpQuiet_nil ?_
      intro _ hw'
      obtain ⟨nq2, rfl⟩ := hw'
      obtain ⟨u1, hu⟩ : ∃ x, x = v1.drewN nq2 := ⟨_, rfl⟩
      have hb3 : Below u0.heap.size u0 u1 := by rw [hu]; exact below_drewN hb2 nq2
      rw [← hu]
      have HZ := hide hz
      have X7 := hide (below_blk hb3 X7.out (lt_blk X7.out))
      have X8 := hide (below_blk hb3 X8.out (lt_blk X8.out))
      have Y4 := hide (below_blk hb3 Y4.out (lt_blk Y4.out))
      have Y6 := hide (below_blk hb3 Y6.out (lt_blk Y6.out))
      have HB := hide (HB.out.trans (hb3.mono HB.out.size))
      clear hu hb2 hb3 hz
    rotate_left
    · have k0 := cell_blk Y4.out 0
      have k1 := cell_blk Y4.out 1
      have k2 := cell_blk Y4.out 2
      have f0 := froz_blk Y4.out 0
      have f1 := froz_blk Y4.out 1
      have f2 := froz_blk Y4.out 2
      have l6 := lt_blk Y4.out
      go_wp2_with fail
      exact exit_spotE rfl (set3c (set3b (set3a Y4.out _) _) _) rfl rfl rfl (.inr ⟨HO.out.trans (all3_n1 (minor_n1 HZ.out)), rfl, below_spot HB.out (show w.heap.size ≤ w.heap.size + 1 + 1 by omega) _ _ _⟩)
    have Hp0 := HZ
    have k7 := cell_blk X7.out 2
    have k8 := cell_blk X8.out 1
    have l7 := lt_blk X7.out
    have l8 := lt_blk X8.out
    go_wp2_with fail
    refine region_call 6 _ (by kernel_rfl) (by decide) rfl (by kernel_rfl) (by kernel_rfl) (by kernel_rfl) (by kernel_rfl) (by kernel_rfl) (by kernel_rfl) (C := fun w' => ∃ m, w' = u1.drewN m) ⟨1, rfl⟩ ?_
    simp only [List.take_succ_cons, List.take_zero, List.drop_succ_cons, List.drop_zero]
    repeat (quiet_step (fail))
    refine wpQuiet_nil ?_
    intro _ hw'
    obtain ⟨nq, rfl⟩ := hw'
    go_wp2_with fail
    refine (qmul_O FA.out.2.2 FB.out.2.1 B (u1.drewN nq) (Nat.le_trans hB HB.out.size) (HT.out.on (below_drewN HB.out nq) hB)).mono ?_
    rintro e v2 (⟨q0, hz, rfl, hb⟩ | ⟨hz, rfl, hb⟩)
    all_goals
      have hb2 := (below_drewN (Below.refl u1.heap.size u1) nq).trans hb
      clear k7 k8 l7 l8 hb
      go_wp2_with fail
      refine ⟨fun w'' => ∃ m, w'' = v2.drewN m, ⟨0, rfl⟩, ?_⟩
      repeat (quiet_step (fail))
      refine wpQuiet_nil ?_
      intro _ hw'
      obtain ⟨nq2, rfl⟩ := hw'
      obtain ⟨u2, hu⟩ : ∃ x, x = v2.drewN nq2 := ⟨_, rfl⟩
      have hb3 : Below u1.heap.size u1 u2 := by rw [hu]; exact below_drewN hb2 nq2
      rw [← hu]
      have HZ := hide hz
      have X7 := hide (below_blk hb3 X7.out (lt_blk X7.out))
      have X8 := hide (below_blk hb3 X8.out (lt_blk X8.out))
      have Y4 := hide (below_blk hb3 Y4.out (lt_blk Y4.out))
      have Y6 := hide (below_blk hb3 Y6.out (lt_blk Y6.out))
      have HB := hide (HB.out.trans (hb3.mono HB.out.size))
      clear hu hb2 hb3 hz
    rotate_left
    · have k0 := cell_blk Y4.out 0
      have k1 := cell_blk Y4.out 1
      have k2 := cell_blk Y4.out 2
      have f0 := froz_blk Y4.out 0
      have f1 := froz_blk Y4.out 1
      have f2 := froz_blk Y4.out 2
      have l6 := lt_blk Y4.out
      go_wp2_with fail
      exact exit_spotE rfl (set3c (set3b (set3a Y4.out _) _) _) rfl rfl rfl (.inr ⟨HO.out.trans (all3_n1 (minor_n2 HZ.out)), rfl, below_spot HB.out (show w.heap.size ≤ w.heap.size + 1 + 1 by omega) _ _ _⟩)
    have Hq0 := HZ
    go_wp2_with fail
    have HD := hide (fun w hB hT => qsub_O (mulO_some Hp0.out).2 (mulO_some Hq0.out).2 B w hB hT)
    refine (HD.out _ (Nat.le_trans hB HB.out.size) (HT.out.on HB.out hB)).mono ?_
    rintro e v3 (⟨z0, hz, rfl, hb⟩ | ⟨hz, rfl, hb⟩)
    all_goals
      have X7 := hide (below_blk hb X7.out (lt_blk X7.out))
      have X8 := hide (below_blk hb X8.out (lt_blk X8.out))
      have Y4 := hide (below_blk hb Y4.out (lt_blk Y4.out))
      have Y6 := hide (below_blk hb Y6.out (lt_blk Y6.out))
      have HB := hide (HB.out.trans (hb.mono HB.out.size))
      have HZ := hide ((minor_ok Hp0.out Hq0.out).trans hz)
      have j0 := cell_blk Y6.out 0
      have j1 := froz_blk Y6.out 0
      have j2 := lt_blk Y6.out
      clear hb hz HD
    rotate_left
    · have S4 := hide (set_other (c := w.heap.size + 3) (o := 0) Y4.out (by omega) (.string ⟨#[]⟩))
      have k0 := cell_blk S4.out 0
      have k1 := cell_blk S4.out 1
      have k2 := cell_blk S4.out 2
      have f0 := froz_blk S4.out 0
      have f1 := froz_blk S4.out 1
      have f2 := froz_blk S4.out 2
      have l6 := lt_blk S4.out
      go_wp2_with fail
      exact exit_spotE rfl (set3c (set3b (set3a S4.out _) _) _) rfl rfl rfl (.inr ⟨HO.out.trans (all3_n1 HZ.out), rfl, below_spot (HB.out.setCell (p := ⟨w.heap.size + 3, 0, none⟩) (Nat.le_add_right _ _) (.string ⟨#[]⟩)) (show w.heap.size ≤ w.heap.size + 1 + 1 by omega) _ _ _⟩)
    have Y4 := hide (set_other (c := w.heap.size + 3) (o := 0) Y4.out (by omega) (.string (T z0)))
    have ne7 : w.heap.size + 3 ≠ b7 := NE7.out
    have ne8 : w.heap.size + 3 ≠ b8 := NE8.out
    have X7 := hide (set_other (c := w.heap.size + 3) (o := 0) X7.out ne7 (.string (T z0)))
    have X8 := hide (set_other (c := w.heap.size + 3) (o := 0) X8.out ne8 (.string (T z0)))
    have Y6 := hide (set3a Y6.out (.string (T z0)))
    have HB := hide (HB.out.setCell (p := ⟨w.heap.size + 3, 0, none⟩) (Nat.le_add_right _ _) (.string (T z0)))
    have HM0 := HZ
    clear ne7 ne8
    go_wp2_with fail
    clear j0 j1 j2
    obtain ⟨u3, hu⟩ : ∃ x, x = v3.setCell ⟨w.heap.size + 3, 0, none⟩ (.string (T z0)) := ⟨_, rfl⟩
    rw [← hu] at X7 X8 Y4 Y6 HB
    show Code.rounds _ _ _ _ _ (v3.setCell ⟨w.heap.size + 3, 0, none⟩ (.string (T z0)))
    rw [← hu, rounds_succ]
    clear hu
    have k7 := cell_blk X7.out 2
    have k8 := cell_blk X8.out 0
    have l7 := lt_blk X7.out
    have l8 := lt_blk X8.out
    go_wp2_with fail
    refine region_call 6 _ (by kernel_rfl) (by decide) rfl (by kernel_rfl) (by kernel_rfl) (by kernel_rfl) (by kernel_rfl) (by kernel_rfl) (by kernel_rfl) (C := fun w' => ∃ m, w' = u3.drewN m) ⟨1, rfl⟩ ?_
    simp only [List.take_succ_cons, List.take_zero, List.drop_succ_cons, List.drop_zero]
    repeat (quiet_step (fail))
    refine wpQuiet_nil ?_
    intro _ hw'
    obtain ⟨nq, rfl⟩ := hw'
    go_wp2_with fail
    refine (qmul_O FA.out.2.2 FB.out.1 B (u3.drewN nq) (Nat.le_trans hB HB.out.size) (HT.out.on (below_drewN HB.out nq) hB)).mono ?_
    rintro e v4 (⟨p1, hz, rfl, hb⟩ | ⟨hz, rfl, hb⟩)
    all_goals
      have hb2 := (below_drewN (Below.refl u3.heap.size u3) nq).trans hb
      clear k7 k8 l7 l8 hb
      go_wp2_with fail
      refine ⟨fun w'' => ∃ m, w'' = v4.drewN m, ⟨0, rfl⟩, ?_⟩
      repeat (quiet_step (fail))
      refine wpQuiet_nil ?_
      intro _ hw'
      obtain ⟨nq2, rfl⟩ := hw'
      obtain ⟨u4, hu⟩ : ∃ x, x = v4.drewN nq2 := ⟨_, rfl⟩
      have hb3 : Below u3.heap.size u3 u4 := by rw [hu]; exact below_drewN hb2 nq2
      rw [← hu]
      have HZ := hide hz
      have X7 := hide (below_blk hb3 X7.out (lt_blk X7.out))
      have X8 := hide (below_blk hb3 X8.out (lt_blk X8.out))
      have Y4 := hide (below_blk hb3 Y4.out (lt_blk Y4.out))
      have Y6 := hide (below_blk hb3 Y6.out (lt_blk Y6.out))
      have HB := hide (HB.out.trans (hb3.mono HB.out.size))
      clear hu hb2 hb3 hz
    rotate_left
    · have k0 := cell_blk Y4.out 0
      have k1 := cell_blk Y4.out 1
      have k2 := cell_blk Y4.out 2
      have f0 := froz_blk Y4.out 0
      have f1 := froz_blk Y4.out 1
      have f2 := froz_blk Y4.out 2
      have l6 := lt_blk Y4.out
      go_wp2_with fail
      exact exit_spotE rfl (set3c (set3b (set3a Y4.out _) _) _) rfl rfl rfl (.inr ⟨HO.out.trans (all3_n2 (minor_n1 HZ.out)), rfl, below_spot HB.out (show w.heap.size ≤ w.heap.size + 1 + 1 by omega) _ _ _⟩)
    have Hp1 := HZ
    have k7 := cell_blk X7.out 0
    have k8 := cell_blk X8.out 2
    have l7 := lt_blk X7.out
    have l8 := lt_blk X8.out
    go_wp2_with fail
    refine region_call 6 _ (by kernel_rfl) (by decide) rfl (by kernel_rfl) (by kernel_rfl) (by kernel_rfl) (by kernel_rfl) (by kernel_rfl) (by kernel_rfl) (C := fun w' => ∃ m, w' = u4.drewN m) ⟨1, rfl⟩ ?_
    simp only [List.take_succ_cons, List.take_zero, List.drop_succ_cons, List.drop_zero]
    repeat (quiet_step (fail))
    refine wpQuiet_nil ?_
    intro _ hw'
    obtain ⟨nq, rfl⟩ := hw'
    go_wp2_with fail
    refine (qmul_O FA.out.1 FB.out.2.2 B (u4.drewN nq) (Nat.le_trans hB HB.out.size) (HT.out.on (below_drewN HB.out nq) hB)).mono ?_
    rintro e v5 (⟨q1, hz, rfl, hb⟩ | ⟨hz, rfl, hb⟩)
    all_goals
      have hb2 := (below_drewN (Below.refl u4.heap.size u4) nq).trans hb
      clear k7 k8 l7 l8 hb
      go_wp2_with fail
      refine ⟨fun w'' => ∃ m, w'' = v5.drewN m, ⟨0, rfl⟩, ?_⟩
      repeat (quiet_step (fail))
      refine wpQuiet_nil ?_
      intro _ hw'
      obtain ⟨nq2, rfl⟩ := hw'
      obtain ⟨u5, hu⟩ : ∃ x, x = v5.drewN nq2 := ⟨_, rfl⟩
      have hb3 : Below u4.heap.size u4 u5 := by rw [hu]; exact below_drewN hb2 nq2
      rw [← hu]
      have HZ := hide hz
      have X7 := hide (below_blk hb3 X7.out (lt_blk X7.out))
      have X8 := hide (below_blk hb3 X8.out (lt_blk X8.out))
      have Y4 := hide (below_blk hb3 Y4.out (lt_blk Y4.out))
      have Y6 := hide (below_blk hb3 Y6.out (lt_blk Y6.out))
      have HB := hide (HB.out.trans (hb3.mono HB.out.size))
      clear hu hb2 hb3 hz
    rotate_left
    · have k0 := cell_blk Y4.out 0
      have k1 := cell_blk Y4.out 1
      have k2 := cell_blk Y4.out 2
      have f0 := froz_blk Y4.out 0
      have f1 := froz_blk Y4.out 1
      have f2 := froz_blk Y4.out 2
      have l6 := lt_blk Y4.out
      go_wp2_with fail
      exact exit_spotE rfl (set3c (set3b (set3a Y4.out _) _) _) rfl rfl rfl (.inr ⟨HO.out.trans (all3_n2 (minor_n2 HZ.out)), rfl, below_spot HB.out (show w.heap.size ≤ w.heap.size + 1 + 1 by omega) _ _ _⟩)
    have Hq1 := HZ
    go_wp2_with fail
    have HD := hide (fun w hB hT => qsub_O (mulO_some Hp1.out).2 (mulO_some Hq1.out).2 B w hB hT)
    refine (HD.out _ (Nat.le_trans hB HB.out.size) (HT.out.on HB.out hB)).mono ?_
    rintro e v6 (⟨z1, hz, rfl, hb⟩ | ⟨hz, rfl, hb⟩)
    all_goals
      have X7 := hide (below_blk hb X7.out (lt_blk X7.out))
      have X8 := hide (below_blk hb X8.out (lt_blk X8.out))
      have Y4 := hide (below_blk hb Y4.out (lt_blk Y4.out))
      have Y6 := hide (below_blk hb Y6.out (lt_blk Y6.out))
      have HB := hide (HB.out.trans (hb.mono HB.out.size))
      have HZ := hide ((minor_ok Hp1.out Hq1.out).trans hz)
      have j0 := cell_blk Y6.out 1
      have j1 := froz_blk Y6.out 1
      have j2 := lt_blk Y6.out
      clear hb hz HD
    rotate_left
    · have S4 := hide (set_other (c := w.heap.size + 3) (o := 1) Y4.out (by omega) (.string ⟨#[]⟩))
      have k0 := cell_blk S4.out 0
      have k1 := cell_blk S4.out 1
      have k2 := cell_blk S4.out 2
      have f0 := froz_blk S4.out 0
      have f1 := froz_blk S4.out 1
      have f2 := froz_blk S4.out 2
      have l6 := lt_blk S4.out
      go_wp2_with fail
      exact exit_spotE rfl (set3c (set3b (set3a S4.out _) _) _) rfl rfl rfl (.inr ⟨HO.out.trans (all3_n2 HZ.out), rfl, below_spot (HB.out.setCell (p := ⟨w.heap.size + 3, 1, none⟩) (Nat.le_add_right _ _) (.string ⟨#[]⟩)) (show w.heap.size ≤ w.heap.size + 1 + 1 by omega) _ _ _⟩)
    have Y4 := hide (set_other (c := w.heap.size + 3) (o := 1) Y4.out (by omega) (.string (T z1)))
    have ne7 : w.heap.size + 3 ≠ b7 := NE7.out
    have ne8 : w.heap.size + 3 ≠ b8 := NE8.out
    have X7 := hide (set_other (c := w.heap.size + 3) (o := 1) X7.out ne7 (.string (T z1)))
    have X8 := hide (set_other (c := w.heap.size + 3) (o := 1) X8.out ne8 (.string (T z1)))
    have Y6 := hide (set3b Y6.out (.string (T z1)))
    have HB := hide (HB.out.setCell (p := ⟨w.heap.size + 3, 1, none⟩) (Nat.le_add_right _ _) (.string (T z1)))
    have HM1 := HZ
    clear ne7 ne8
    go_wp2_with fail
    clear j0 j1 j2
    obtain ⟨u6, hu⟩ : ∃ x, x = v6.setCell ⟨w.heap.size + 3, 1, none⟩ (.string (T z1)) := ⟨_, rfl⟩
    rw [← hu] at X7 X8 Y4 Y6 HB
    show Code.rounds _ _ _ _ _ (v6.setCell ⟨w.heap.size + 3, 1, none⟩ (.string (T z1)))
    rw [← hu, rounds_succ]
    clear hu
    have k7 := cell_blk X7.out 0
    have k8 := cell_blk X8.out 1
    have l7 := lt_blk X7.out
    have l8 := lt_blk X8.out
    go_wp2_with fail
    refine region_call 6 _ (by kernel_rfl) (by decide) rfl (by kernel_rfl) (by kernel_rfl) (by kernel_rfl) (by kernel_rfl) (by kernel_rfl) (by kernel_rfl) (C := fun w' => ∃ m, w' = u6.drewN m) ⟨1, rfl⟩ ?_
    simp only [List.take_succ_cons, List.take_zero, List.drop_succ_cons, List.drop_zero]
    repeat (quiet_step (fail))
    refine wpQuiet_nil ?_
    intro _ hw'
    obtain ⟨nq, rfl⟩ := hw'
    go_wp2_with fail
    refine (qmul_O FA.out.1 FB.out.2.1 B (u6.drewN nq) (Nat.le_trans hB HB.out.size) (HT.out.on (below_drewN HB.out nq) hB)).mono ?_
    rintro e v7 (⟨p2, hz, rfl, hb⟩ | ⟨hz, rfl, hb⟩)
    all_goals
      have hb2 := (below_drewN (Below.refl u6.heap.size u6) nq).trans hb
      clear k7 k8 l7 l8 hb
      go_wp2_with fail
      refine ⟨fun w'' => ∃ m, w'' = v7.drewN m, ⟨0, rfl⟩, ?_⟩
      repeat (quiet_step (fail))
      refine wpQuiet_nil ?_
      intro _ hw'
      obtain ⟨nq2, rfl⟩ := hw'
      obtain ⟨u7, hu⟩ : ∃ x, x = v7.drewN nq2 := ⟨_, rfl⟩
      have hb3 : Below u6.heap.size u6 u7 := by rw [hu]; exact below_drewN hb2 nq2
      rw [← hu]
      have HZ := hide hz
      have X7 := hide (below_blk hb3 X7.out (lt_blk X7.out))
      have X8 := hide (below_blk hb3 X8.out (lt_blk X8.out))
      have Y4 := hide (below_blk hb3 Y4.out (lt_blk Y4.out))
      have Y6 := hide (below_blk hb3 Y6.out (lt_blk Y6.out))
      have HB := hide (HB.out.trans (hb3.mono HB.out.size))
      clear hu hb2 hb3 hz
    rotate_left
    · have k0 := cell_blk Y4.out 0
      have k1 := cell_blk Y4.out 1
      have k2 := cell_blk Y4.out 2
      have f0 := froz_blk Y4.out 0
      have f1 := froz_blk Y4.out 1
      have f2 := froz_blk Y4.out 2
      have l6 := lt_blk Y4.out
      go_wp2_with fail
      exact exit_spotE rfl (set3c (set3b (set3a Y4.out _) _) _) rfl rfl rfl (.inr ⟨HO.out.trans (all3_n3 (minor_n1 HZ.out)), rfl, below_spot HB.out (show w.heap.size ≤ w.heap.size + 1 + 1 by omega) _ _ _⟩)
    have Hp2 := HZ
    have k7 := cell_blk X7.out 1
    have k8 := cell_blk X8.out 0
    have l7 := lt_blk X7.out
    have l8 := lt_blk X8.out
    go_wp2_with fail
    refine region_call 6 _ (by kernel_rfl) (by decide) rfl (by kernel_rfl) (by kernel_rfl) (by kernel_rfl) (by kernel_rfl) (by kernel_rfl) (by kernel_rfl) (C := fun w' => ∃ m, w' = u7.drewN m) ⟨1, rfl⟩ ?_
    simp only [List.take_succ_cons, List.take_zero, List.drop_succ_cons, List.drop_zero]
    repeat (quiet_step (fail))
    refine wpQuiet_nil ?_
    intro _ hw'
    obtain ⟨nq, rfl⟩ := hw'
    go_wp2_with fail
    refine (qmul_O FA.out.2.1 FB.out.1 B (u7.drewN nq) (Nat.le_trans hB HB.out.size) (HT.out.on (below_drewN HB.out nq) hB)).mono ?_
    rintro e v8 (⟨q2, hz, rfl, hb⟩ | ⟨hz, rfl, hb⟩)
    all_goals
      have hb2 := (below_drewN (Below.refl u7.heap.size u7) nq).trans hb
      clear k7 k8 l7 l8 hb
      go_wp2_with fail
      refine ⟨fun w'' => ∃ m, w'' = v8.drewN m, ⟨0, rfl⟩, ?_⟩
      repeat (quiet_step (fail))
      refine wpQuiet_nil ?_
      intro _ hw'
      obtain ⟨nq2, rfl⟩ := hw'
      obtain ⟨u8, hu⟩ : ∃ x, x = v8.drewN nq2 := ⟨_, rfl⟩
      have hb3 : Below u7.heap.size u7 u8 := by rw [hu]; exact below_drewN hb2 nq2
      rw [← hu]
      have HZ := hide hz
      have X7 := hide (below_blk hb3 X7.out (lt_blk X7.out))
      have X8 := hide (below_blk hb3 X8.out (lt_blk X8.out))
      have Y4 := hide (below_blk hb3 Y4.out (lt_blk Y4.out))
      have Y6 := hide (below_blk hb3 Y6.out (lt_blk Y6.out))
      have HB := hide (HB.out.trans (hb3.mono HB.out.size))
      clear hu hb2 hb3 hz
    rotate_left
    · have k0 := cell_blk Y4.out 0
      have k1 := cell_blk Y4.out 1
      have k2 := cell_blk Y4.out 2
      have f0 := froz_blk Y4.out 0
      have f1 := froz_blk Y4.out 1
      have f2 := froz_blk Y4.out 2
      have l6 := lt_blk Y4.out
      go_wp2_with fail
      exact exit_spotE rfl (set3c (set3b (set3a Y4.out _) _) _) rfl rfl rfl (.inr ⟨HO.out.trans (all3_n3 (minor_n2 HZ.out)), rfl, below_spot HB.out (show w.heap.size ≤ w.heap.size + 1 + 1 by omega) _ _ _⟩)
    have Hq2 := HZ
    go_wp2_with fail
    have HD := hide (fun w hB hT => qsub_O (mulO_some Hp2.out).2 (mulO_some Hq2.out).2 B w hB hT)
    refine (HD.out _ (Nat.le_trans hB HB.out.size) (HT.out.on HB.out hB)).mono ?_
    rintro e v9 (⟨z2, hz, rfl, hb⟩ | ⟨hz, rfl, hb⟩)
    all_goals
      have X7 := hide (below_blk hb X7.out (lt_blk X7.out))
      have X8 := hide (below_blk hb X8.out (lt_blk X8.out))
      have Y4 := hide (below_blk hb Y4.out (lt_blk Y4.out))
      have Y6 := hide (below_blk hb Y6.out (lt_blk Y6.out))
      have HB := hide (HB.out.trans (hb.mono HB.out.size))
      have HZ := hide ((minor_ok Hp2.out Hq2.out).trans hz)
      have j0 := cell_blk Y6.out 2
      have j1 := froz_blk Y6.out 2
      have j2 := lt_blk Y6.out
      clear hb hz HD
    rotate_left
    · have S4 := hide (set_other (c := w.heap.size + 3) (o := 2) Y4.out (by omega) (.string ⟨#[]⟩))
      have k0 := cell_blk S4.out 0
      have k1 := cell_blk S4.out 1
      have k2 := cell_blk S4.out 2
      have f0 := froz_blk S4.out 0
      have f1 := froz_blk S4.out 1
      have f2 := froz_blk S4.out 2
      have l6 := lt_blk S4.out
      go_wp2_with fail
      exact exit_spotE rfl (set3c (set3b (set3a S4.out _) _) _) rfl rfl rfl (.inr ⟨HO.out.trans (all3_n3 HZ.out), rfl, below_spot (HB.out.setCell (p := ⟨w.heap.size + 3, 2, none⟩) (Nat.le_add_right _ _) (.string ⟨#[]⟩)) (show w.heap.size ≤ w.heap.size + 1 + 1 by omega) _ _ _⟩)
    have Y4 := hide (set_other (c := w.heap.size + 3) (o := 2) Y4.out (by omega) (.string (T z2)))
    have ne7 : w.heap.size + 3 ≠ b7 := NE7.out
    have ne8 : w.heap.size + 3 ≠ b8 := NE8.out
    have X7 := hide (set_other (c := w.heap.size + 3) (o := 2) X7.out ne7 (.string (T z2)))
    have X8 := hide (set_other (c := w.heap.size + 3) (o := 2) X8.out ne8 (.string (T z2)))
    have Y6 := hide (set3c Y6.out (.string (T z2)))
    have HB := hide (HB.out.setCell (p := ⟨w.heap.size + 3, 2, none⟩) (Nat.le_add_right _ _) (.string (T z2)))
    have HM2 := HZ
    clear ne7 ne8
    go_wp2_with fail
    clear j0 j1 j2
    obtain ⟨u9, hu⟩ : ∃ x, x = v9.setCell ⟨w.heap.size + 3, 2, none⟩ (.string (T z2)) := ⟨_, rfl⟩
    rw [← hu] at X7 X8 Y4 Y6 HB
    show Code.rounds _ _ _ _ _ (v9.setCell ⟨w.heap.size + 3, 2, none⟩ (.string (T z2)))
    rw [← hu, rounds_succ]
    clear hu
    have k0 := cell_blk Y6.out 0
    have k1 := cell_blk Y6.out 1
    have k2 := cell_blk Y6.out 2
    have l6 := lt_blk Y6.out
    go_wp2_with fail
    refine (HOF.out _ _ _ _).mono ?_
    rintro e w4 ⟨rfl, rfl⟩
    clear k0 k1 k2 l6
    have X5 := hide (heap2 u9 (arrO (T z0) (T z1) (T z2)) (spotO (T z0) (T z1) (T z2)))
    have R6 := hide (below_blk X5.out.2.2.2 Y4.out (lt_blk Y4.out))
    have RB := hide (HB.out.trans (X5.out.2.2.2.mono HB.out.size))
    have k0 := cell_blk R6.out 0
    have k1 := cell_blk R6.out 1
    have k2 := cell_blk R6.out 2
    have f0 := froz_blk R6.out 0
    have f1 := froz_blk R6.out 1
    have f2 := froz_blk R6.out 2
    have l6 := lt_blk R6.out
    go_wp2_with fail
    exact exit_spotE rfl (set3c (set3b (set3a R6.out _) _) _) rfl rfl rfl (.inl ⟨⟨z0, z1, z2⟩, HO.out.trans (by rw [HM0.out, HM1.out, HM2.out]; rfl), rfl, below_spot RB.out (show w.heap.size ≤ w.heap.size + 1 + 1 by omega) _ _ _⟩)
end Go.Proofs.YtbfojhneajedmaaGreatDoor
namespace Go.Proofs.YtbfojhneajedmaaGreatDoor
open Go.RowKit Go.KP Go.KI Go.Shelf
attribute [local go_sem] Oper.semAt_some vidx0 vidx1 vidx2

set_option maxRecDepth 100000 in
set_option maxHeartbeats 4000000 in
theorem vCross_O {a b : V3} (fa : fitsV a) (fb : fitsV b) (B : Nat) (w : World) (hB : B ≤ w.heap.size) (hT : PQ B w) :
    Calls Tryz.prog 44 #[vecV a, vecV b] w (ResV w (crossO a b)) := by
  have HT := hide hT
  have HC := hide (fun w hB hT => vboth_T fa fb B w hB hT)
  have HD := hide (fun w hB hT => vcross_in fa fb B w hB hT)
  have X0 := hide (heap3 w (vecO a) (vecO b) (spotO ⟨#[]⟩ ⟨#[]⟩ ⟨#[]⟩))
  obtain ⟨O, hO⟩ : ∃ O, O = crossO a b := ⟨_, rfl⟩
  rw [← hO] at HD ⊢
  clear hO hT fa fb
  go_enter Tryz.func44, Tryz.ntmps44
  go_wp2_with fail
  refine (HC.out _ (Nat.le_trans hB X0.out.2.2.2.2.size) (HT.out.on X0.out.2.2.2.2 hB)).mono ?_
  rintro e w1 ⟨rfl, hb1⟩
  have HB1 := hide (X0.out.2.2.2.2.trans (hb1.mono X0.out.2.2.2.2.size))
  have G1 := hide (below_blk hb1 X0.out.1 (lt_blk X0.out.1))
  have G2 := hide (below_blk hb1 X0.out.2.1 (lt_blk X0.out.2.1))
  have G4 := hide (below_blk hb1 X0.out.2.2.1 (lt_blk X0.out.2.2.1))
  have k0 := cell_blk G1.out 0
  have k1 := cell_blk G1.out 1
  have k2 := cell_blk G1.out 2
  have m0 := cell_blk G2.out 0
  have m1 := cell_blk G2.out 1
  have m2 := cell_blk G2.out 2
  clear hb1
  go_wp2_with fail
  refine (HD.out _ (Nat.le_trans hB HB1.out.size) (HT.out.on HB1.out hB)).mono ?_
  rintro e w3 (⟨z, hz, rfl, hb3⟩ | ⟨hz, rfl, hb3⟩)
  all_goals
    have HZ := hide hz
    have HB3 := hide (HB1.out.trans (hb3.mono HB1.out.size))
    have G5 := hide (below_blk hb3 G4.out (lt_blk G4.out))
    clear hb3 hz k0 k1 k2 m0 m1 m2
    have k0 := cell_blk G5.out 0
    have k1 := cell_blk G5.out 1
    have k2 := cell_blk G5.out 2
    have f0 := froz_blk G5.out 0
    have f1 := froz_blk G5.out 1
    have f2 := froz_blk G5.out 2
    have l6 := lt_blk G5.out
    go_wp2_with fail
    first
      | exact exit_spotE rfl (set3c (set3b (set3a G5.out _) _) _) rfl rfl rfl (.inl ⟨_, HZ.out, rfl, below_spot HB3.out (show w.heap.size ≤ w.heap.size + 1 + 1 by omega) _ _ _⟩)
      | exact exit_spotE rfl (set3c (set3b (set3a G5.out _) _) _) rfl rfl rfl (.inr ⟨HZ.out, rfl, below_spot HB3.out (show w.heap.size ≤ w.heap.size + 1 + 1 by omega) _ _ _⟩)
set_option maxRecDepth 100000 in
theorem eqZero (c : V3) (w : World) : (Op.equalIn 10000 24 (vecV c) (.agg #[.string ⟨#[48]⟩, .string ⟨#[48]⟩, .string ⟨#[48]⟩])).run Tryz.prog w = .ok (decide (c = vzero)) w := by
  have h := eqSpot_T c vzero w
  unfold vecV at h
  rw [show vzero.x = 0 from rfl, show vzero.y = 0 from rfl, show vzero.z = 0 from rfl, T0] at h
  exact h
/-- Parallel, where the products fit. -/
theorem vParallel_T {a b c : V3} (fa : fitsV a) (fb : fitsV b) (hc : crossO a b = some c) {is : Bool} (his : is = decide (c = vzero)) (B : Nat) (w : World) (hB : B ≤ w.heap.size) (hT : PQ B w) :
    Calls Tryz.prog 42 #[vecV a, vecV b] w (Ret w (.tuple #[.bool is, .int .i64 0])) := by
  have HT := hide hT
  have HD := hide (fun w hB hT => (vCross_O fa fb B w hB hT).mono fun _ _ h => ResV.of hc h)
  have X0 := hide (heap2 w (vecO a) (vecO b))
  have he := eqZero c
  rw [← his] at he
  clear hc his hT fa fb
  go_enter Tryz.func42, Tryz.ntmps42
  go_wp2_with fail
  refine (HD.out _ (Nat.le_trans hB X0.out.2.2.2.size) (HT.out.on X0.out.2.2.2 hB)).mono ?_
  rintro e w1 ⟨rfl, hb1⟩
  have HB1 := hide ((X0.out.2.2.2.trans (hb1.mono X0.out.2.2.2.size)).trans ((heap1 w1 (vecO c)).2.2.mono (X0.out.2.2.2.trans (hb1.mono X0.out.2.2.2.size)).size))
  clear hb1
  go_wp2_with fail
  refine bodyPost_ret (results_tmp2 rfl _ _ _) rfl ?_
  exact ⟨rfl, HB1.out⟩
end Go.Proofs.YtbfojhneajedmaaGreatDoor
namespace Go.Proofs.YtbfojhneajedmaaGreatDoor
open Go.RowKit Go.KP Go.KI Go.Shelf
attribute [local go_sem] Oper.semAt_some

set_option maxRecDepth 100000 in
set_option maxHeartbeats 16000000 in
theorem hMeets_to {k f o : Int} {a b : V3} {wd dp : Int} (h : Mem k f o a b wd dp) {q : V3} (hq : szV 36 q) {r : Bool} (hr : r = decide (meetsP a b q)) (B : Nat) (w : World) (hB : B ≤ w.heap.size) (hT : PQ B w) :
    Calls Tryz.prog 25 #[memV k f o a b wd dp, vecV q] w (Ret w (.tuple #[.bool r, .int .i64 0])) := by
  have HT := hide hT
  have fq : fitsV q := szV_fits hq (by rw [most_eq]; omega)
  have HC := hide (fun w hB hT => hCheck_ok h B w hB hT)
  have HQ := hide (fun w hB hT => vchk_T fq B w hB hT)
  have HL := hide (fun w hB hT => hlong_no hq B w hB hT)
  have HS1 := hide (fun w hB hT => h.sub B w hB hT)
  have st : szV 73 (vsub q a) := szV_sub hq h.ha
  have ft : fitsV (vsub q a) := szV_fits st (by rw [most_eq]; omega)
  have HS2 := hide (fun w hB hT => (vSub_O fq h.fa B w hB hT).mono fun _ _ hr => ResV.of (sub2_sz hq h.ha (by rw [most_eq]; omega)) hr)
  have HP := hide (fun w hB hT => vParallel_T h.fd ft (cross_sz h.szd st (by rw [most_eq]; omega)).1 rfl B w hB hT)
  have HC1 := hide (fun w hB hT => vCompare_T h.fa fq (cmpsV_of h.ha hq (by rw [most_eq]; omega)) B w hB hT)
  have HC2 := hide (fun w hB hT => vCompare_T fq h.fb (cmpsV_of hq h.hb (by rw [most_eq]; omega)) B w hB hT)
  have hm : meetsP a b q ↔ (decide (vcross (vsub b a) (vsub q a) = vzero) = true ∧ (vcmp a q = 0 ∨ vcmp q b = 0 ∨ vcmp a q = vcmp q b)) := by
    unfold meetsP
    rw [decide_eq_true_iff]
  obtain ⟨P, hP⟩ : ∃ P, P = decide (vcross (vsub b a) (vsub q a) = vzero) := ⟨_, rfl⟩
  obtain ⟨x, hx⟩ : ∃ x, x = vcmp a q := ⟨_, rfl⟩
  obtain ⟨y, hy⟩ : ∃ x, x = vcmp q b := ⟨_, rfl⟩
  rw [← hP] at HP hm
  rw [← hx, ← hy] at hm
  rw [← hx] at HC1
  rw [← hy] at HC2
  obtain ⟨d, hd⟩ : ∃ d, d = vsub b a := ⟨_, rfl⟩
  obtain ⟨t, ht⟩ : ∃ d, d = vsub q a := ⟨_, rfl⟩
  rw [← hd] at HS1 HP
  rw [← ht] at HS2 HP
  have X0 := hide (heap2 w (memO k f o a b wd dp) (vecO q))
  have hway : (P = false ∧ r = false) ∨ (P = true ∧ x = 0 ∧ r = true) ∨ (P = true ∧ (x == 0) = false ∧ y = 0 ∧ r = true) ∨ (P = true ∧ (x == 0) = false ∧ (y == 0) = false ∧ (x == y) = r) := by
    cases P
    · exact .inl ⟨rfl, by rw [hr, decide_eq_false_iff_not, hm]; rintro ⟨e, _⟩; cases e⟩
    · by_cases x0 : x = 0
      · exact .inr (.inl ⟨rfl, x0, by rw [hr, decide_eq_true_iff, hm]; exact ⟨rfl, .inl x0⟩⟩)
      · by_cases y0 : y = 0
        · exact .inr (.inr (.inl ⟨rfl, by simpa using x0, y0, by rw [hr, decide_eq_true_iff, hm]; exact ⟨rfl, .inr (.inl y0)⟩⟩))
        · refine .inr (.inr (.inr ⟨rfl, by simpa using x0, by simpa using y0, ?_⟩))
          rw [hr]
          by_cases e : x = y
          · rw [decide_eq_true (hm.2 ⟨rfl, .inr (.inr e)⟩), e]
            simp
          · rw [decide_eq_false (fun z => by rcases (hm.1 z).2 with u | u | u <;> contradiction)]
            simpa using e
  clear h hq fq st ft hr hm hP hx hy hd ht hT
  rcases hway with ⟨rfl, rfl⟩ | hway
  · skip
    go_enter Tryz.func25, Tryz.ntmps25
    go_wp2_with fail
    refine (HC.out _ (Nat.le_trans hB X0.out.2.2.2.size) (HT.out.on X0.out.2.2.2 hB)).mono ?_
    rintro e w1 ⟨rfl, hb1⟩
    have G1 := hide (below_blk hb1 X0.out.1 (lt_blk X0.out.1))
    have G2 := hide (below_blk hb1 X0.out.2.1 (lt_blk X0.out.2.1))
    have HB1 := hide (X0.out.2.2.2.trans (hb1.mono X0.out.2.2.2.size))
    clear hb1
    have c0 := cell_blk G2.out 0
    have c1 := cell_blk G2.out 1
    have c2 := cell_blk G2.out 2
    have l2 := lt_blk G2.out
    go_wp2_with fail
    refine (HQ.out _ (Nat.le_trans hB HB1.out.size) (HT.out.on HB1.out hB)).mono ?_
    rintro e w2 ⟨rfl, hb2⟩
    have G1 := hide (below_blk hb2 G1.out (lt_blk G1.out))
    have G2 := hide (below_blk hb2 G2.out (lt_blk G2.out))
    have HB2 := hide (HB1.out.trans (hb2.mono HB1.out.size))
    clear hb2 c0 c1 c2 l2
    have c0 := cell_blk G2.out 0
    have c1 := cell_blk G2.out 1
    have c2 := cell_blk G2.out 2
    have l2 := lt_blk G2.out
    go_wp2_with fail
    refine (HL.out _ (Nat.le_trans hB HB2.out.size) (HT.out.on HB2.out hB)).mono ?_
    rintro e w3 ⟨rfl, hb3⟩
    have G1 := hide (below_blk hb3 G1.out (lt_blk G1.out))
    have G2 := hide (below_blk hb3 G2.out (lt_blk G2.out))
    have HB3 := hide (HB2.out.trans (hb3.mono HB2.out.size))
    clear hb3 c0 c1 c2 l2
    have k3 := cell_blk G1.out 3
    have k4 := cell_blk G1.out 4
    have k5 := cell_blk G1.out 5
    have k6 := cell_blk G1.out 6
    have k7 := cell_blk G1.out 7
    have k8 := cell_blk G1.out 8
    have l1 := lt_blk G1.out
    go_wp2_with fail
    refine (HS1.out _ (Nat.le_trans hB HB3.out.size) (HT.out.on HB3.out hB)).mono ?_
    rintro e w4 ⟨rfl, hb4⟩
    have X4 := hide (heap1 w4 (vecO d))
    have G1 := hide (below_blk (hb4.trans (X4.out.2.2.mono hb4.size)) G1.out (lt_blk G1.out))
    have G2 := hide (below_blk (hb4.trans (X4.out.2.2.mono hb4.size)) G2.out (lt_blk G2.out))
    have G3 := hide X4.out.1
    have HB4 := hide (HB3.out.trans ((hb4.trans (X4.out.2.2.mono hb4.size)).mono HB3.out.size))
    clear hb4 k3 k4 k5 k6 k7 k8 l1
    have k3 := cell_blk G1.out 3
    have k4 := cell_blk G1.out 4
    have k5 := cell_blk G1.out 5
    have c0 := cell_blk G2.out 0
    have c1 := cell_blk G2.out 1
    have c2 := cell_blk G2.out 2
    have l1 := lt_blk G1.out
    have l2 := lt_blk G2.out
    go_wp2_with fail
    refine (HS2.out _ (Nat.le_trans hB HB4.out.size) (HT.out.on HB4.out hB)).mono ?_
    rintro e w5 ⟨rfl, hb5⟩
    have X5 := hide (heap1 w5 (vecO t))
    have G1 := hide (below_blk (hb5.trans (X5.out.2.2.mono hb5.size)) G1.out (lt_blk G1.out))
    have G2 := hide (below_blk (hb5.trans (X5.out.2.2.mono hb5.size)) G2.out (lt_blk G2.out))
    have G3 := hide (below_blk (hb5.trans (X5.out.2.2.mono hb5.size)) G3.out (lt_blk G3.out))
    have HB5 := hide (HB4.out.trans ((hb5.trans (X5.out.2.2.mono hb5.size)).mono HB4.out.size))
    clear hb5 k3 k4 k5 c0 c1 c2 l1 l2
    have c0 := cell_blk G3.out 0
    have c1 := cell_blk G3.out 1
    have c2 := cell_blk G3.out 2
    have l2 := lt_blk G3.out
    go_wp2_with fail
    refine (HP.out _ (Nat.le_trans hB HB5.out.size) (HT.out.on HB5.out hB)).mono ?_
    rintro e w6 ⟨rfl, hb6⟩
    have G1 := hide (below_blk hb6 G1.out (lt_blk G1.out))
    have G2 := hide (below_blk hb6 G2.out (lt_blk G2.out))
    have HB6 := hide (HB5.out.trans (hb6.mono HB5.out.size))
    clear hb6 c0 c1 c2 l2 G3
    go_wp2_with fail
    refine bodyPost_ret (results_tmp2 rfl _ _ _) rfl ?_
    exact ⟨rfl, HB6.out⟩
  rcases hway with ⟨rfl, rfl, rfl⟩ | ⟨rfl, hx, rfl, rfl⟩ | ⟨rfl, hx, hy, hxy⟩
  all_goals
    go_enter Tryz.func25, Tryz.ntmps25
    go_wp2_with fail
    refine (HC.out _ (Nat.le_trans hB X0.out.2.2.2.size) (HT.out.on X0.out.2.2.2 hB)).mono ?_
    rintro e w1 ⟨rfl, hb1⟩
    have G1 := hide (below_blk hb1 X0.out.1 (lt_blk X0.out.1))
    have G2 := hide (below_blk hb1 X0.out.2.1 (lt_blk X0.out.2.1))
    have HB1 := hide (X0.out.2.2.2.trans (hb1.mono X0.out.2.2.2.size))
    clear hb1
    have c0 := cell_blk G2.out 0
    have c1 := cell_blk G2.out 1
    have c2 := cell_blk G2.out 2
    have l2 := lt_blk G2.out
    go_wp2_with fail
    refine (HQ.out _ (Nat.le_trans hB HB1.out.size) (HT.out.on HB1.out hB)).mono ?_
    rintro e w2 ⟨rfl, hb2⟩
    have G1 := hide (below_blk hb2 G1.out (lt_blk G1.out))
    have G2 := hide (below_blk hb2 G2.out (lt_blk G2.out))
    have HB2 := hide (HB1.out.trans (hb2.mono HB1.out.size))
    clear hb2 c0 c1 c2 l2
    have c0 := cell_blk G2.out 0
    have c1 := cell_blk G2.out 1
    have c2 := cell_blk G2.out 2
    have l2 := lt_blk G2.out
    go_wp2_with fail
    refine (HL.out _ (Nat.le_trans hB HB2.out.size) (HT.out.on HB2.out hB)).mono ?_
    rintro e w3 ⟨rfl, hb3⟩
    have G1 := hide (below_blk hb3 G1.out (lt_blk G1.out))
    have G2 := hide (below_blk hb3 G2.out (lt_blk G2.out))
    have HB3 := hide (HB2.out.trans (hb3.mono HB2.out.size))
    clear hb3 c0 c1 c2 l2
    have k3 := cell_blk G1.out 3
    have k4 := cell_blk G1.out 4
    have k5 := cell_blk G1.out 5
    have k6 := cell_blk G1.out 6
    have k7 := cell_blk G1.out 7
    have k8 := cell_blk G1.out 8
    have l1 := lt_blk G1.out
    go_wp2_with fail
    refine (HS1.out _ (Nat.le_trans hB HB3.out.size) (HT.out.on HB3.out hB)).mono ?_
    rintro e w4 ⟨rfl, hb4⟩
    have X4 := hide (heap1 w4 (vecO d))
    have G1 := hide (below_blk (hb4.trans (X4.out.2.2.mono hb4.size)) G1.out (lt_blk G1.out))
    have G2 := hide (below_blk (hb4.trans (X4.out.2.2.mono hb4.size)) G2.out (lt_blk G2.out))
    have G3 := hide X4.out.1
    have HB4 := hide (HB3.out.trans ((hb4.trans (X4.out.2.2.mono hb4.size)).mono HB3.out.size))
    clear hb4 k3 k4 k5 k6 k7 k8 l1
    have k3 := cell_blk G1.out 3
    have k4 := cell_blk G1.out 4
    have k5 := cell_blk G1.out 5
    have c0 := cell_blk G2.out 0
    have c1 := cell_blk G2.out 1
    have c2 := cell_blk G2.out 2
    have l1 := lt_blk G1.out
    have l2 := lt_blk G2.out
    go_wp2_with fail
    refine (HS2.out _ (Nat.le_trans hB HB4.out.size) (HT.out.on HB4.out hB)).mono ?_
    rintro e w5 ⟨rfl, hb5⟩
    have X5 := hide (heap1 w5 (vecO t))
    have G1 := hide (below_blk (hb5.trans (X5.out.2.2.mono hb5.size)) G1.out (lt_blk G1.out))
    have G2 := hide (below_blk (hb5.trans (X5.out.2.2.mono hb5.size)) G2.out (lt_blk G2.out))
    have G3 := hide (below_blk (hb5.trans (X5.out.2.2.mono hb5.size)) G3.out (lt_blk G3.out))
    have HB5 := hide (HB4.out.trans ((hb5.trans (X5.out.2.2.mono hb5.size)).mono HB4.out.size))
    clear hb5 k3 k4 k5 c0 c1 c2 l1 l2
    have c0 := cell_blk G3.out 0
    have c1 := cell_blk G3.out 1
    have c2 := cell_blk G3.out 2
    have l2 := lt_blk G3.out
    go_wp2_with fail
    refine (HP.out _ (Nat.le_trans hB HB5.out.size) (HT.out.on HB5.out hB)).mono ?_
    rintro e w6 ⟨rfl, hb6⟩
    have G1 := hide (below_blk hb6 G1.out (lt_blk G1.out))
    have G2 := hide (below_blk hb6 G2.out (lt_blk G2.out))
    have HB6 := hide (HB5.out.trans (hb6.mono HB5.out.size))
    clear hb6 c0 c1 c2 l2 G3
    have k3 := cell_blk G1.out 3
    have k4 := cell_blk G1.out 4
    have k5 := cell_blk G1.out 5
    have c0 := cell_blk G2.out 0
    have c1 := cell_blk G2.out 1
    have c2 := cell_blk G2.out 2
    have l1 := lt_blk G1.out
    have l2 := lt_blk G2.out
    go_wp2_with fail
    refine (HC1.out _ (Nat.le_trans hB HB6.out.size) (HT.out.on HB6.out hB)).mono ?_
    rintro e w7 ⟨rfl, hb7⟩
    have G1 := hide (below_blk hb7 G1.out (lt_blk G1.out))
    have G2 := hide (below_blk hb7 G2.out (lt_blk G2.out))
    have HB7 := hide (HB6.out.trans (hb7.mono HB6.out.size))
    clear hb7 k3 k4 k5 c0 c1 c2 l1 l2
    have k6 := cell_blk G1.out 6
    have k7 := cell_blk G1.out 7
    have k8 := cell_blk G1.out 8
    have c0 := cell_blk G2.out 0
    have c1 := cell_blk G2.out 1
    have c2 := cell_blk G2.out 2
    have l1 := lt_blk G1.out
    have l2 := lt_blk G2.out
    go_wp2_with fail
    refine (HC2.out _ (Nat.le_trans hB HB7.out.size) (HT.out.on HB7.out hB)).mono ?_
    rintro e w8 ⟨rfl, hb8⟩
    have HB8 := hide (HB7.out.trans (hb8.mono HB7.out.size))
    clear hb8 k6 k7 k8 c0 c1 c2 l1 l2
    go_wp2_with fail
    refine bodyPost_ret (results_tmp2 rfl _ _ _) rfl ?_
    exact ⟨rfl, HB8.out⟩
end Go.Proofs.YtbfojhneajedmaaGreatDoor
namespace Go.KP
open Go
/-- **A region that draws its order: quiet in the class C.** -/
theorem region_class {P : Program} {C : World → Prop} {id : Nat} {Q : Exit → Act → World → Prop} {a : Act} {w : World} {l : List Oper} (hm : P.follows .mixedOrders = true) (hno : Region.noSelect l.toArray = true)
    (hlex : Region.lexFrom .any l.toArray l.length 0 (Array.replicate l.length false) = true) (hC : C { w with drawn := w.drawn + 1 })
    (h : wpQuiet P l.toArray C (fun a' => ∀ w', C w' → Q .normal a' w') l a) : (Code.region id l.toArray true).wp P Q a w := by
  refine wp_region_any hm ?_
  have h1 := wpAnyQ_lex (P := P) (C := C) (md := .any) hno l 0 (Array.replicate l.length false) a (by simp) hlex h
  have e : l.toArray.size = l.length := by simp
  rw [e]
  exact wpAny_of_quiet (C := C) (Q := fun a' => ∀ w', C w' → Q .normal a' w') (fun _ w' hw h => h w' hw) _ _ _ _ hC h1
end Go.KP
namespace Go.Proofs.YtbfojhneajedmaaGreatDoor
open Go.RowKit Go.KP Go.KI Go.Shelf
attribute [local go_sem] Oper.semAt_some

theorem T_dig (u : Nat) (h : u < 10) : T ((u : Nat) : Rat) = ⟨#[UInt8.ofNat (48 + u)]⟩ := by
  apply bytes_eq
  rw [T_list, show ((u : Nat) : Rat) = (((u : Nat) : Int) : Rat) from rfl, ratS_int, Lib.itoa_nonneg, Lib.decDigits_one h]
theorem T4 : T 4 = ⟨#[52]⟩ := T_dig 4 (by omega)
theorem T3 : T 3 = ⟨#[51]⟩ := T_dig 3 (by omega)
theorem T2 : T 2 = ⟨#[50]⟩ := T_dig 2 (by omega)
theorem T1 : T 1 = ⟨#[49]⟩ := T_dig 1 (by omega)
theorem Tm4 : T (-4) = ⟨#[45, 52]⟩ := by
  apply bytes_eq
  rw [T_list, show (-4 : Rat) = (((-((4 : Nat) : Int)) : Int) : Rat) by decide +kernel, ratS_int, Lib.itoa_neg 4 (by omega), Lib.decDigits_one (by omega)]
  rfl
abbrev q32 : Rat := ⟨3, 2, by decide, by decide⟩
theorem T32 : T q32 = ⟨#[51, 47, 50]⟩ := by
  apply bytes_eq
  rw [T_list]
  unfold ratS
  rw [if_neg (by decide), show q32.num = ((3 : Nat) : Int) from rfl, Lib.itoa_nonneg, Lib.decDigits_one (by omega), show q32.den = 2 from rfl, Lib.decDigits_one (by omega)]
  rfl
abbrev pEx : V3 := ⟨4, 4, 3⟩
theorem pSz : szV 1 pEx := ⟨⟨by decide, by decide⟩, ⟨by decide, by decide⟩, ⟨by decide, by decide⟩⟩
theorem zSz : szV 1 vzero := ⟨⟨by decide, by decide⟩, ⟨by decide, by decide⟩, ⟨by decide, by decide⟩⟩
theorem exMem : Mem 6 3 0 vzero pEx 80 220 := ⟨by omega, by omega, by omega, by omega, by omega, by omega, by omega, by omega, szV_mono zSz (by omega), szV_mono pSz (by omega), by decide +kernel⟩
theorem ex_sub : vsub pEx vzero = pEx := by decide +kernel
theorem ex_side : vside pEx = ⟨-4, 4, 0⟩ := by decide +kernel
theorem ex_yes : meetsP vzero pEx ⟨2, 2, q32⟩ := by decide +kernel
theorem ex_no : ¬ meetsP vzero pEx ⟨2, 2, 1⟩ := by decide +kernel
abbrev b0 : ByteArray := ⟨#[48]⟩
abbrev b1 : ByteArray := ⟨#[49]⟩
abbrev b2 : ByteArray := ⟨#[50]⟩
abbrev b3 : ByteArray := ⟨#[51]⟩
abbrev b4 : ByteArray := ⟨#[52]⟩
abbrev bm4 : ByteArray := ⟨#[45, 52]⟩
abbrev b32 : ByteArray := ⟨#[51, 47, 50]⟩
abbrev exV : Value := .agg #[.int .i64 6, .int .i64 3, .int .i64 0, .string b0, .string b0, .string b0, .string b4, .string b4, .string b3, .int .i64 80, .int .i64 220]
abbrev exO : Obj := .cells #[.int .i64 6, .int .i64 3, .int .i64 0, .string b0, .string b0, .string b0, .string b4, .string b4, .string b3, .int .i64 80, .int .i64 220] 26
theorem exV_eq : memV 6 3 0 vzero pEx 80 220 = exV := by
  show Value.agg #[.int .i64 6, .int .i64 3, .int .i64 0, .string (T 0), .string (T 0), .string (T 0), .string (T 4), .string (T 4), .string (T 3), .int .i64 80, .int .i64 220] = _
  rw [T0, T4, T3]
theorem vp_eq : vecV pEx = spotV b4 b4 b3 := by
  show Value.agg #[.string (T 4), .string (T 4), .string (T 3)] = _
  rw [T4, T3]
theorem vs_eq : vecV ⟨-4, 4, 0⟩ = spotV bm4 b4 b0 := by
  show Value.agg #[.string (T (-4)), .string (T 4), .string (T 0)] = _
  rw [T4, T0, Tm4]
theorem vy_eq : vecV ⟨2, 2, q32⟩ = spotV b2 b2 b32 := by
  show Value.agg #[.string (T 2), .string (T 2), .string (T q32)] = _
  rw [T2, T32]
theorem vn_eq : vecV ⟨2, 2, 1⟩ = spotV b2 b2 b1 := by
  show Value.agg #[.string (T 2), .string (T 2), .string (T 1)] = _
  rw [T2, T1]
theorem lx_eq : lineV 2 vzero pEx 3 0 = .agg #[.int .i64 2, .string b0, .string b0, .string b0, .string b4, .string b4, .string b3, .int .i64 3, .int .i64 0] := by
  show Value.agg #[.int .i64 2, .string (T 0), .string (T 0), .string (T 0), .string (T 4), .string (T 4), .string (T 3), .int .i64 3, .int .i64 0] = _
  rw [T0, T4, T3]
theorem mx6 (w : World) : (Builtin.max_ #[31, 31, 31, 31, 31, 31] 31 #[.int .i64 0, .int .i64 0, .int .i64 0, .int .i64 0, .int .i64 0, .int .i64 0]).run Tryz.prog w = .ok (.int .i64 0) w := by kernel_rfl
set_option maxRecDepth 100000 in
set_option maxHeartbeats 16000000 in
theorem hawake_any (B : Nat) (w : World) (hB : B ≤ w.heap.size) (hT : PQ B w) :
    Calls Tryz.prog 18 #[] w (Ret w (.bool true)) := by
  have HT := hide hT
  have HOf := hide (fun w hB hT => hOf_to (n := 2) (by decide) exMem B w hB hT)
  rw [show kindP 2 = 6 from rfl, lx_eq, exV_eq] at HOf
  have HD := hide (fun w hB hT => hDirection_to exMem B w hB hT)
  rw [ex_sub, exV_eq, vp_eq] at HD
  have HS := hide (fun w hB hT => hSide_to exMem B w hB hT)
  rw [ex_sub, exV_eq, ex_side, vs_eq] at HS
  have HR := hide (fun w hB hT => hRise_to exMem B w hB hT)
  rw [ex_sub, exV_eq, show T pEx.z = b3 from T3] at HR
  have HM1 := hide (fun w hB hT => hMeets_to exMem (q := ⟨2, 2, q32⟩) ⟨⟨by decide +kernel, by decide +kernel⟩, ⟨by decide +kernel, by decide +kernel⟩, ⟨by decide +kernel, by decide +kernel⟩⟩ (r := true) (decide_eq_true ex_yes).symm B w hB hT)
  rw [exV_eq, vy_eq] at HM1
  have HM2 := hide (fun w hB hT => hMeets_to exMem (q := ⟨2, 2, 1⟩) ⟨⟨by decide +kernel, by decide +kernel⟩, ⟨by decide +kernel, by decide +kernel⟩, ⟨by decide +kernel, by decide +kernel⟩⟩ (r := false) (decide_eq_false ex_no).symm B w hB hT)
  rw [exV_eq, vn_eq] at HM2
  have HSP := hide (fun x y z w => lspot_at x y z w)
  have X0 := hide (heap2 w (spotO b0 b0 b0) (spotO b4 b4 b3))
  clear hT
  go_enter Tryz.func18, Tryz.ntmps18
  go_wp2_with fail
  refine (HSP.out _ _ _ _).mono ?_
  rintro e w' ⟨rfl, rfl⟩
  go_wp2_with fail
  refine (HSP.out _ _ _ _).mono ?_
  rintro e w' ⟨rfl, rfl⟩
  go_wp2_with fail
  refine (HOf.out _ (Nat.le_trans hB X0.out.2.2.2.size) (HT.out.on X0.out.2.2.2 hB)).mono ?_
  rintro e w1 ⟨rfl, hb1⟩
  have X1 := hide (heap1 w1 exO)
  have G1 := hide X1.out.1
  have HB1 := hide (X0.out.2.2.2.trans ((hb1.trans (X1.out.2.2.mono hb1.size)).mono X0.out.2.2.2.size))
  clear hb1
  go_wp2_with fail
  refine (HD.out _ (Nat.le_trans hB HB1.out.size) (HT.out.on HB1.out hB)).mono ?_
  rintro e w2 ⟨rfl, hb2⟩
  have X2 := hide (heap1 w2 (spotO b4 b4 b3))
  have hb2' := hb2.trans (X2.out.2.2.mono hb2.size)
  have G1 := hide (below_blk hb2' G1.out (lt_blk G1.out))
  have G3 := hide X2.out.1
  have HB2 := hide (HB1.out.trans (hb2'.mono HB1.out.size))
  clear hb2 hb2'
  have c := fun o => cell_blk G1.out o
  have l1 := lt_blk G1.out
  go_wp2_with fail
  refine (HS.out _ (Nat.le_trans hB HB2.out.size) (HT.out.on HB2.out hB)).mono ?_
  rintro e w3 ⟨rfl, hb3⟩
  have X3 := hide (heap1 w3 (spotO bm4 b4 b0))
  have hb3' := hb3.trans (X3.out.2.2.mono hb3.size)
  have G1 := hide (below_blk hb3' G1.out (lt_blk G1.out))
  have G3 := hide (below_blk hb3' G3.out (lt_blk G3.out))
  have G5 := hide X3.out.1
  have HB3 := hide (HB2.out.trans (hb3'.mono HB2.out.size))
  clear hb3 hb3' c l1
  have c := fun o => cell_blk G1.out o
  have l1 := lt_blk G1.out
  go_wp2_with fail
  refine (HR.out _ (Nat.le_trans hB HB3.out.size) (HT.out.on HB3.out hB)).mono ?_
  rintro e w4 ⟨rfl, hb4⟩
  have G1 := hide (below_blk hb4 G1.out (lt_blk G1.out))
  have G3 := hide (below_blk hb4 G3.out (lt_blk G3.out))
  have G5 := hide (below_blk hb4 G5.out (lt_blk G5.out))
  have HB4 := hide (HB3.out.trans (hb4.mono HB3.out.size))
  clear hb4 c l1
  have c := fun o => cell_blk G1.out o
  have l1 := lt_blk G1.out
  have HC4 := hide (fun (x : Of (Below w4.heap.size w4)) => show Calls Tryz.prog 25 #[exV, spotV b2 b2 b32] x.w fun e w' => e = .returned (.tuple #[.bool true, .int .i64 0]) ∧ Cls (Below w4.heap.size w4) w' from (HM1.out x.w (Nat.le_trans hB (Nat.le_trans HB4.out.size x.h.size)) ((HT.out.on HB4.out hB).on x.h (Nat.le_trans hB HB4.out.size))).mono fun _ _ ⟨h, hb⟩ => ⟨h, Cls.mk (x.h.trans (hb.mono (by have := x.h.size; omega)))⟩)
  have HSC := hide (fun (a b c : ByteArray) (x : Of (Below w4.heap.size w4)) => lspot_cls a b c w4.heap.size w4 (Nat.le_refl _) x)
  go_wp2_with fail
  have hx1 : ∀ x : Of (Below w4.heap.size w4), ∀ o, x.w.cell? ⟨w1.heap.size, o, none⟩ = w4.cell? ⟨w1.heap.size, o, none⟩ := fun x o => x.h.cell (p := ⟨w1.heap.size, o, none⟩) (lt_blk G1.out)
  refine region_prefix (C := Cls (Below w4.heap.size w4)) 8 (by kernel_rfl) (by decide) (by kernel_rfl) (by kernel_rfl) (by kernel_rfl) (by kernel_rfl) (Cls.mk (Below.refl _ _).drew) ?_
  simp only [List.take_succ_cons, List.take_zero, List.drop_succ_cons, List.drop_zero]
  repeat (go_big_quiet_step (first | with_reducible exact HSC.out _ _ _ _ | with_reducible exact HC4.out _))
  refine wpQuiet_nil ?_
  intro w5 hcl
  have hb := hcl.out
  have G1 := hide (below_blk hb G1.out (lt_blk G1.out))
  have G3 := hide (below_blk hb G3.out (lt_blk G3.out))
  have G5 := hide (below_blk hb G5.out (lt_blk G5.out))
  have HB5 := hide (HB4.out.trans (hb.mono HB4.out.size))
  clear hcl hb hx1 c l1 HC4 HSC
  have c := fun o => cell_blk G1.out o
  have l1 := lt_blk G1.out
  have HC5 := hide (fun (x : Of (Below w5.heap.size w5)) => show Calls Tryz.prog 25 #[exV, spotV b2 b2 b1] x.w fun e w' => e = .returned (.tuple #[.bool false, .int .i64 0]) ∧ Cls (Below w5.heap.size w5) w' from (HM2.out x.w (Nat.le_trans hB (Nat.le_trans HB5.out.size x.h.size)) ((HT.out.on HB5.out hB).on x.h (Nat.le_trans hB HB5.out.size))).mono fun _ _ ⟨h, hb⟩ => ⟨h, Cls.mk (x.h.trans (hb.mono (by have := x.h.size; omega)))⟩)
  have HSC := hide (fun (a b c : ByteArray) (x : Of (Below w5.heap.size w5)) => lspot_cls a b c w5.heap.size w5 (Nat.le_refl _) x)
  go_wp2_with fail
  have hx1 : ∀ x : Of (Below w5.heap.size w5), ∀ o, x.w.cell? ⟨w1.heap.size, o, none⟩ = w5.cell? ⟨w1.heap.size, o, none⟩ := fun x o => x.h.cell (p := ⟨w1.heap.size, o, none⟩) (lt_blk G1.out)
  refine region_prefix (C := Cls (Below w5.heap.size w5)) 8 (by kernel_rfl) (by decide) (by kernel_rfl) (by kernel_rfl) (by kernel_rfl) (by kernel_rfl) (Cls.mk (Below.refl _ _).drew) ?_
  simp only [List.take_succ_cons, List.take_zero, List.drop_succ_cons, List.drop_zero]
  repeat (go_big_quiet_step (first | with_reducible exact HSC.out _ _ _ _ | with_reducible exact HC5.out _))
  refine wpQuiet_nil ?_
  intro w6 hcl
  have hb := hcl.out
  have G1 := hide (below_blk hb G1.out (lt_blk G1.out))
  have G3 := hide (below_blk hb G3.out (lt_blk G3.out))
  have G5 := hide (below_blk hb G5.out (lt_blk G5.out))
  have HB6 := hide (HB5.out.trans (hb.mono HB5.out.size))
  clear hcl hb hx1 c l1 HC5 HSC
  have c := fun o => cell_blk G1.out o
  have l1 := lt_blk G1.out
  have HSC := hide (fun (a b c : ByteArray) (x : Of (Below w6.heap.size w6)) => lspot_cls a b c w6.heap.size w6 (Nat.le_refl _) x)
  have hmx := mx6
  have he1 : ∀ w, (Op.equalIn 10000 24 (spotV b4 b4 b3) (spotV b4 b4 b3)).run Tryz.prog w = .ok true w := fun w => by rw [eqSpot]; simp
  have he2 : ∀ w, (Op.equalIn 10000 24 (spotV bm4 b4 b0) (spotV bm4 b4 b0)).run Tryz.prog w = .ok true w := fun w => by rw [eqSpot]; simp
  go_wp2_with fail
  have hx1 : ∀ x : Of (Below w6.heap.size w6), ∀ o, x.w.cell? ⟨w1.heap.size, o, none⟩ = w6.cell? ⟨w1.heap.size, o, none⟩ := fun x o => x.h.cell (p := ⟨w1.heap.size, o, none⟩) (lt_blk G1.out)
  have hx3 : ∀ x : Of (Below w6.heap.size w6), ∀ o, x.w.cell? ⟨w2.heap.size, o, none⟩ = w6.cell? ⟨w2.heap.size, o, none⟩ := fun x o => x.h.cell (p := ⟨w2.heap.size, o, none⟩) (lt_blk G3.out)
  have hx5 : ∀ x : Of (Below w6.heap.size w6), ∀ o, x.w.cell? ⟨w3.heap.size, o, none⟩ = w6.cell? ⟨w3.heap.size, o, none⟩ := fun x o => x.h.cell (p := ⟨w3.heap.size, o, none⟩) (lt_blk G5.out)
  have c3 := fun o => cell_blk G3.out o
  have c5 := fun o => cell_blk G5.out o
  refine region_class (C := Cls (Below w6.heap.size w6)) (by kernel_rfl) (by kernel_rfl) (by kernel_rfl) (Cls.mk (Below.refl _ _).drew) ?_
  repeat (go_big_quiet_step (first | with_reducible exact HSC.out _ _ _ _))
  refine wpQuiet_nil ?_
  intro w7 hcl
  have HB7 := hide (HB6.out.trans (hcl.out.mono HB6.out.size))
  clear hcl hx1 hx3 hx5 c3 c5 c l1 HSC he1 he2 hmx
  go_wp2_with fail
  go_ret
  exact ⟨rfl, HB7.out⟩
end Go.Proofs.YtbfojhneajedmaaGreatDoor
namespace Go.Proofs.YtbfojhneajedmaaGreatDoor
open Go.RowKit Go.KP Go.KI Go.Shelf
attribute [local go_sem] Oper.semAt_some

set_option maxRecDepth 100000 in
set_option maxHeartbeats 8000000 in
theorem hOf_none {n l r : Int} {a b : V3} {wd dp : Int} (hk : kindP n = 0) (w : World) :
    Calls Tryz.prog 30 #[lineV n a b l r, .int .i64 wd, .int .i64 dp] w (Ret w (.tuple #[mem0V, .int .i64 8])) := by
  have HK := hide (fun w => hkindOf_any n w)
  rw [decide_eq_false (by simp [hk]), hk] at HK
  have X0 := hide (heap2 w (lineO n a b l r) mem0)
  clear hk
  go_enter Tryz.func30, Tryz.ntmps30
  go_wp2_with fail
  refine (HK.out _).mono ?_
  rintro e w1 ⟨rfl, hb1⟩
  have G2 := hide (below_blk hb1 X0.out.2.1 (lt_blk X0.out.2.1))
  have HB1 := hide (X0.out.2.2.2.trans (hb1.mono X0.out.2.2.2.size))
  clear hb1
  have d := fun o => cell_blk G2.out o
  have f := fun o => froz_blk G2.out o
  have l4 := lt_blk G2.out
  go_wp2_with fail
  exact exit_memE rfl (put11_at G2.out _ _ _ _ _ _ _ _ _ _ _) rfl rfl rfl ⟨rfl, put11_below HB1.out (show w.heap.size ≤ w.heap.size + 1 by omega) _ _ _ _ _ _ _ _ _ _ _⟩
set_option maxRecDepth 100000 in
theorem eqSpotF (m : Nat) (a b c d e f : ByteArray) (w : World) : (Op.equalIn (m + 2) 24 (.agg #[.string a, .string b, .string c]) (.agg #[.string d, .string e, .string f])).run Tryz.prog w = .ok (a.toList == d.toList && b.toList == e.toList && c.toList == f.toList) w := by
  have hS : Tryz.prog.underlying 24 = some (.struct (Tryz.prog.fieldsOf 24)) := by kernel_rfl
  have hp : Tryz.prog.stoodInHeld 24 = false := by kernel_rfl
  rw [show m + 2 = (m + 1) + 1 from rfl, run_equalIn_agg w (m + 1) 24 _ _ hS hp]
  simp only [Program.fieldsOf, Tryz.underlying24]
  go_simp
  by_cases h1 : a.toList = d.toList <;> by_cases h2 : b.toList = e.toList <;> by_cases h3 : c.toList = f.toList <;> simp [*]
set_option maxRecDepth 100000 in
theorem eqMem_same (k f o wd dp : Int) (a b c d e g : ByteArray) (w : World) : (Op.equalIn 10000 26 (.agg #[.int .i64 k, .int .i64 f, .int .i64 o, .string a, .string b, .string c, .string d, .string e, .string g, .int .i64 wd, .int .i64 dp]) (.agg #[.int .i64 k, .int .i64 f, .int .i64 o, .string a, .string b, .string c, .string d, .string e, .string g, .int .i64 wd, .int .i64 dp])).run Tryz.prog w = .ok true w := by
  have hS : Tryz.prog.underlying 26 = some (.struct (Tryz.prog.fieldsOf 26)) := by kernel_rfl
  have hp : Tryz.prog.stoodInHeld 26 = false := by kernel_rfl
  have he := fun w => eqSpotF 9997 a b c a b c w
  have he2 := fun w => eqSpotF 9997 d e g d e g w
  rw [show (10000 : Nat) = 9999 + 1 from rfl, run_equalIn_agg w 9999 26 _ _ hS hp]
  simp only [Program.fieldsOf, Tryz.underlying26]
  go_simp
set_option maxRecDepth 100000 in
theorem eqMem0 (w : World) : (Op.equalIn 10000 26 mem0V mem0V).run Tryz.prog w = .ok true w := eqMem_same 0 0 0 0 0 _ _ _ _ _ _ w
set_option maxRecDepth 100000 in
theorem map_get1 {w : World} {clock : Nat} {es : Array MapEntry} {k : Int} (v : Value) (hne : es.isEmpty = false) (hf : ∃ o, Instr.findNow (.int .i64) (.int .i64 k) es.toList 0 = some o ∧ (match o with | some (_, x) => v = x | none => v = .int .i64 0)) :
    (Instr.lookup 50 (.map (some w.heap.size)) (.int .i64 k) false).run Tryz.prog (w.alloc (.map es clock)) = .ok v (w.alloc (.map es clock)) := by
  have hm := Tryz.underlying50
  have hk := Tryz.underlying3
  have hb : (w.alloc (.map es clock)).heap[w.heap.size]? = some (.map es clock) := heap_alloc_new w _
  have hc : (Instr.checkKey false 10000 3 (.int .i64 k)).run Tryz.prog (w.alloc (.map es clock)) = .ok () (w.alloc (.map es clock)) := MapKept.run_checkKey (k := .int .i64 k) hk (by simp [MapKept.IsKey]) false 9999
  obtain ⟨o, h1, h2⟩ := hf
  cases o with
  | none =>
    obtain rfl := h2
    simp [Instr.lookup, run_underlying hm, MapKept.run_getObj_map hb, hne, hc, MapKept.run_findKey hk h1, Result.andThen]
  | some p =>
    obtain ⟨i, x⟩ := p
    obtain rfl := h2
    simp [Instr.lookup, run_underlying hm, MapKept.run_getObj_map hb, hne, hc, MapKept.run_findKey hk h1, Result.andThen]
theorem find_kind (n : Int) : ∃ o, Instr.findNow (.int .i64) (.int .i64 n) kinds3.toList 0 = some o ∧ (match o with | some (_, x) => Value.int .i64 (kindP n) = x | none => Value.int .i64 (kindP n) = .int .i64 0) := by
  unfold kindP
  by_cases h1 : n = 1
  · subst h1
    exact ⟨some (0, .int .i64 8), by simp [Instr.findNow, same_i64], rfl⟩
  rw [if_neg h1]
  by_cases h2 : n = 2
  · subst h2
    exact ⟨some (1, .int .i64 6), by simp [Instr.findNow, same_i64], rfl⟩
  rw [if_neg h2]
  by_cases h3 : n = 3
  · subst h3
    exact ⟨some (2, .int .i64 7), by simp [Instr.findNow, same_i64], rfl⟩
  rw [if_neg h3]
  have e1 : (n == 1) = false := by simpa using h1
  have e2 : (n == 2) = false := by simpa using h2
  have e3 : (n == 3) = false := by simpa using h3
  exact ⟨none, by simp [Instr.findNow, same_i64, e1, e2, e3], rfl⟩
/-- A map laid out behind a world's last block. -/
theorem kinds_at (W : World) (s : Nat) (hs : W.heap.size = s) (n : Int) :
    (Instr.makeMap 50 none).run Tryz.prog W = .ok (.map (some s)) (W.alloc (.map #[] 0)) ∧
    (Instr.mapUpdate 50 (.map (some s)) (.int .i64 1) (.int .i64 8)).run Tryz.prog (W.alloc (.map #[] 0)) = .ok () (W.alloc (.map #[ent 1 8 0] 1)) ∧
    (Instr.mapUpdate 50 (.map (some s)) (.int .i64 2) (.int .i64 6)).run Tryz.prog (W.alloc (.map #[ent 1 8 0] 1)) = .ok () (W.alloc (.map #[ent 1 8 0, ent 2 6 1] 2)) ∧
    (Instr.mapUpdate 50 (.map (some s)) (.int .i64 3) (.int .i64 7)).run Tryz.prog (W.alloc (.map #[ent 1 8 0, ent 2 6 1] 2)) = .ok () (W.alloc (.map kinds3 3)) ∧
    (Instr.lookup 50 (.map (some s)) (.int .i64 n) false).run Tryz.prog (W.alloc (.map kinds3 3)) = .ok (.int .i64 (kindP n)) (W.alloc (.map kinds3 3)) := by
  subst hs
  exact ⟨rfl, map_push (by simp [Instr.findNow]), map_push (by simp [Instr.findNow, same_i64]), map_push (by simp [Instr.findNow, same_i64]), map_get1 _ rfl (find_kind n)⟩
theorem kindP_cases (n : Int) : kindP n = 0 ∨ (kindP n ≠ 0 ∧ 1 ≤ kindP n ∧ kindP n ≤ 12) := by
  unfold kindP
  split
  · exact .inr (by omega)
  · split
    · exact .inr (by omega)
    · split
      · exact .inr (by omega)
      · exact .inl rfl
set_option maxRecDepth 100000 in
set_option maxHeartbeats 16000000 in
theorem lawKeeps_any {a b : I3} (ha : small3 a) (hb : small3 b) (k l r wd dp : Nat) (hk : k < 256) (hl : l < 256) (hr : r < 256) (hw : wd < 65536) (hd : dp < 65536) (B : Nat) (w : World) (hB : B ≤ w.heap.size) (hT : PQ B w) :
    Calls Tryz.prog 4 #[smallV a b, .int .u8 k, .int .u8 l, .int .u8 r, .int .u16 wd, .int .u16 dp] w (Ret w (.bool true)) := by
  have HT := hide hT
  have HOF := hide (lof_to ha hb B)
  have HAW := hide (fun w hB hT => hawake_any B w hB hT)
  have hsm := small_mem ha hb
  obtain ⟨K, hK⟩ : ∃ x, x = k % 10 := ⟨_, rfl⟩
  obtain ⟨L, hL⟩ : ∃ x, x = l % 24 := ⟨_, rfl⟩
  obtain ⟨R, hR⟩ : ∃ x, x = r % 25 := ⟨_, rfl⟩
  obtain ⟨P, hP⟩ : ∃ x, x = wd % 1000 := ⟨_, rfl⟩
  obtain ⟨Q, hQ⟩ : ∃ x, x = dp % 1000 := ⟨_, rfl⟩
  have eK : (k : Int) % 10 = (K : Int) := by omega
  have eL : (l : Int) % 24 = (L : Int) := by omega
  have eR : (r : Int) % 25 = (R : Int) := by omega
  have eP : (wd : Int) % 1000 = (P : Int) := by omega
  have eQ : (dp : Int) % 1000 = (Q : Int) := by omega
  have i1 : (K : Int) ≤ 9 := by omega
  have i2 : (L : Int) ≤ 23 := by omega
  have i3 : (R : Int) ≤ 24 := by omega
  have i4 : (P : Int) ≤ 999 := by omega
  have i5 : (Q : Int) ≤ 999 := by omega
  have j1 : (0 : Int) ≤ (K : Int) := by omega
  have j2 : (0 : Int) ≤ (L : Int) := by omega
  have j3 : (0 : Int) ≤ (R : Int) := by omega
  have j4 : (0 : Int) ≤ (P : Int) := by omega
  have j5 : (0 : Int) ≤ (Q : Int) := by omega
  have q1 : (k : Int) ≤ 255 := by omega
  have q2 : (l : Int) ≤ 255 := by omega
  have q3 : (r : Int) ≤ 255 := by omega
  have q4 : (wd : Int) ≤ 65535 := by omega
  have q5 : (dp : Int) ≤ 65535 := by omega
  have q6 : (0 : Int) ≤ (k : Int) := by omega
  have q7 : (0 : Int) ≤ (l : Int) := by omega
  have q8 : (0 : Int) ≤ (r : Int) := by omega
  have q9 : (0 : Int) ≤ (wd : Int) := by omega
  have q0 : (0 : Int) ≤ (dp : Int) := by omega
  obtain ⟨A, hA⟩ : ∃ A, A = v3 a := ⟨_, rfl⟩
  obtain ⟨C, hC⟩ : ∃ A, A = v3 (moved a b) := ⟨_, rfl⟩
  rw [← hA, ← hC] at HOF hsm
  have X0 := hide (heap1 w (.cells #[.int .i8 a.x, .int .i8 a.y, .int .i8 a.z, .int .i8 b.x, .int .i8 b.y, .int .i8 b.z] 43))
  clear hK hL hR hP hQ hA hC ha hb hk hl hr hw hd hT
  rcases kindP_cases ((K : Int) - 1) with hk0 | ⟨hk0, hk1, hk2⟩
  · have HN := hide (fun w => hOf_none (n := (K : Int) - 1) (l := (L : Int)) (r := (R : Int) - 1) (a := A) (b := C) (wd := (P : Int) + 1) (dp := (Q : Int) + 1) hk0 w)
    have HKA := hide (kinds_at)
    have HE := eqMem0
    have HK0 := hide hk0
    clear hk0 hsm
    go_enter Tryz.func4, Tryz.ntmps4
    go_wp2_with fail
    refine (HOF.out _ (Nat.le_trans hB X0.out.2.2.size) (HT.out.on X0.out.2.2 hB)).mono ?_
    rintro e w1 ⟨rfl, hb1⟩
    have Z := hide (heap2 w1 (memO 6 1 0 A C 80 220) (lineO ((K : Int) - 1) A C (L : Int) ((R : Int) - 1)))
    have ZB := hide (X0.out.2.2.trans ((hb1.trans (Z.out.2.2.2.mono hb1.size)).mono X0.out.2.2.size))
    clear hb1
    go_wp2_with fail
    refine (HN.out _).mono ?_
    rintro e w2 ⟨rfl, hb2⟩
    have G14 := hide (below_blk hb2 Z.out.2.1 (lt_blk Z.out.2.1))
    have HB2 := hide (ZB.out.trans (hb2.mono ZB.out.size))
    clear hb2
    have Y := hide (heap2 w2 (mem0) (.map kinds3 3))
    have Y17 := hide Y.out.1
    have Y14 := hide (below_blk Y.out.2.2.2 G14.out (lt_blk G14.out))
    have RB := hide (HB2.out.trans (Y.out.2.2.2.mono HB2.out.size))
    obtain ⟨u1, u2, u3, u4, u5⟩ := HKA.out (w2.alloc (mem0)) (w2.heap.size + 1) (by simp) ((K : Int) - 1)
    obtain ⟨M, hM⟩ : ∃ M, M = (w2.alloc (mem0)).alloc (.map kinds3 3) := ⟨_, rfl⟩
    rw [← hM] at u4 u5 Y17 Y14 RB
    clear hM Y G14
    have c17 := fun o => cell_blk Y17.out o
    have l17 := lt_blk Y17.out
    have c14 := fun o => cell_blk Y14.out o
    have l14 := lt_blk Y14.out
    rw [HK0.out] at u5
    go_wp2_with fail
    refine (HAW.out _ (Nat.le_trans hB RB.out.size) (HT.out.on RB.out hB)).mono ?_
    rintro e w5 ⟨rfl, hb5⟩
    have HB5 := hide (RB.out.trans (hb5.mono RB.out.size))
    clear hb5
    go_wp2_with fail
    go_ret
    exact ⟨rfl, HB5.out⟩
  · have hm : Mem (kindP ((K : Int) - 1)) (L : Int) ((R : Int) - 1) A C ((P : Int) + 1) ((Q : Int) + 1) := ⟨hk1, hk2, by omega, by omega, by omega, by omega, by omega, by omega, hsm.ha, hsm.hb, hsm.ne⟩
    have HN := hide (fun w hB hT => hOf_to (n := (K : Int) - 1) (l := (L : Int)) (r := (R : Int) - 1) (a := A) (b := C) (wd := (P : Int) + 1) (dp := (Q : Int) + 1) hk0 hm B w hB hT)
    have HCK := hide (fun w hB hT => hCheck_ok hm B w hB hT)
    have HKA := hide (kinds_at)
    obtain ⟨kk, hkk⟩ : ∃ x, x = kindP ((K : Int) - 1) := ⟨_, rfl⟩
    rw [← hkk] at HN HCK hk0
    have HKK := hide hkk
    have hkb : (kk == 0) = false := by simpa using hk0
    have HE := fun w => eqMem_same kk (L : Int) ((R : Int) - 1) ((P : Int) + 1) ((Q : Int) + 1) (T A.x) (T A.y) (T A.z) (T C.x) (T C.y) (T C.z) w
    clear hk0 hk1 hk2 hkk hm hsm
    go_enter Tryz.func4, Tryz.ntmps4
    go_wp2_with fail
    refine (HOF.out _ (Nat.le_trans hB X0.out.2.2.size) (HT.out.on X0.out.2.2 hB)).mono ?_
    rintro e w1 ⟨rfl, hb1⟩
    have Z := hide (heap2 w1 (memO 6 1 0 A C 80 220) (lineO ((K : Int) - 1) A C (L : Int) ((R : Int) - 1)))
    have ZB := hide (X0.out.2.2.trans ((hb1.trans (Z.out.2.2.2.mono hb1.size)).mono X0.out.2.2.size))
    clear hb1
    go_wp2_with fail
    refine (HN.out _ (Nat.le_trans hB ZB.out.size) (HT.out.on ZB.out hB)).mono ?_
    rintro e w2 ⟨rfl, hb2⟩
    have G14 := hide (below_blk hb2 Z.out.2.1 (lt_blk Z.out.2.1))
    have HB2 := hide (ZB.out.trans (hb2.mono ZB.out.size))
    clear hb2
    have Y := hide (heap2 w2 (memO kk (L : Int) ((R : Int) - 1) A C ((P : Int) + 1) ((Q : Int) + 1)) (.map kinds3 3))
    have Y17 := hide Y.out.1
    have Y14 := hide (below_blk Y.out.2.2.2 G14.out (lt_blk G14.out))
    have RB := hide (HB2.out.trans (Y.out.2.2.2.mono HB2.out.size))
    obtain ⟨u1, u2, u3, u4, u5⟩ := HKA.out (w2.alloc (memO kk (L : Int) ((R : Int) - 1) A C ((P : Int) + 1) ((Q : Int) + 1))) (w2.heap.size + 1) (by simp) ((K : Int) - 1)
    obtain ⟨M, hM⟩ : ∃ M, M = (w2.alloc (memO kk (L : Int) ((R : Int) - 1) A C ((P : Int) + 1) ((Q : Int) + 1))).alloc (.map kinds3 3) := ⟨_, rfl⟩
    rw [← hM] at u4 u5 Y17 Y14 RB
    clear hM Y G14
    have c17 := fun o => cell_blk Y17.out o
    have l17 := lt_blk Y17.out
    have c14 := fun o => cell_blk Y14.out o
    have l14 := lt_blk Y14.out
    rw [← HKK.out] at u5
    go_wp2_with fail
    refine (HCK.out _ (Nat.le_trans hB RB.out.size) (HT.out.on RB.out hB)).mono ?_
    rintro e w5 ⟨rfl, hb5⟩
    have HB5 := hide (RB.out.trans (hb5.mono RB.out.size))
    clear hb5 c17 l17 c14 l14
    go_wp2_with fail
    refine (HAW.out _ (Nat.le_trans hB HB5.out.size) (HT.out.on HB5.out hB)).mono ?_
    rintro e w6 ⟨rfl, hb6⟩
    have HB6 := hide (HB5.out.trans (hb6.mono HB5.out.size))
    clear hb6
    go_wp2_with fail
    go_ret
    exact ⟨rfl, HB6.out⟩
end Go.Proofs.YtbfojhneajedmaaGreatDoor
namespace Go.Proofs.YtbfojhneajedmaaGreatDoor
open Go.ChangeShapes Go.WideShapes Go.RowKit Go.KP Go.KI

set_option maxRecDepth 100000 in
theorem cell_i8 {W : World} {base : Nat} {v : Value} (h : Cell.okWide Tryz.prog W .any base 40 v) : ∃ n : Int, v = .int .i8 n ∧ -128 ≤ n ∧ n ≤ 127 := by
  have u := Tryz.underlying40
  simp only [Cell.okWide, u, Cell.ok] at h
  cases v <;> simp_all [IntKind.has, IntKind.min, IntKind.max, IntKind.signed, IntKind.bits]
set_option maxRecDepth 100000 in
theorem open_small {W : World} {base : Nat} {v : Value} (h : Value.okWide Tryz.prog W .any base 43 v) : ∃ a b : I3, v = .agg #[.int .i8 a.x, .int .i8 a.y, .int .i8 a.z, .int .i8 b.x, .int .i8 b.y, .int .i8 b.z] ∧ small3 a ∧ small3 b := by
  have u := Tryz.underlying43
  simp only [Value.okWide, u] at h
  obtain ⟨cs, rfl, hsz, ts, hts, _, hi⟩ := h
  have hts2 : Tryz.prog.cellTypes Tryz.prog.depth 43 = some [40, 40, 40, 40, 40, 40] := by kernel_rfl
  rw [hts2] at hts
  obtain rfl := Option.some.inj hts
  have hC : Tryz.prog.cellsOf 43 = 6 := by kernel_rfl
  rw [hC] at hsz
  obtain ⟨l⟩ := cs
  match l, hsz with
  | [c0, c1, c2, c3, c4, c5], _ =>
    have key : ∀ (i : Nat) (v : Value), i < 6 → (#[c0, c1, c2, c3, c4, c5] : Array Value)[i]? = some v → ∃ n : Int, v = .int .i8 n ∧ -128 ≤ n ∧ n ≤ 127 := by
      intro i v hlt hv
      obtain ⟨t, ht, hc⟩ := hi i v hv
      have e : t = 40 := by
        rw [show i % [40, 40, 40, 40, 40, 40].length = i from Nat.mod_eq_of_lt hlt] at ht
        have : i = 0 ∨ i = 1 ∨ i = 2 ∨ i = 3 ∨ i = 4 ∨ i = 5 := by omega
        rcases this with rfl | rfl | rfl | rfl | rfl | rfl <;> simpa using ht.symm
      rw [e] at hc
      exact cell_i8 hc
    obtain ⟨n0, rfl, a0⟩ := key 0 _ (by omega) rfl
    obtain ⟨n1, rfl, a1⟩ := key 1 _ (by omega) rfl
    obtain ⟨n2, rfl, a2⟩ := key 2 _ (by omega) rfl
    obtain ⟨n3, rfl, a3⟩ := key 3 _ (by omega) rfl
    obtain ⟨n4, rfl, a4⟩ := key 4 _ (by omega) rfl
    obtain ⟨n5, rfl, a5⟩ := key 5 _ (by omega) rfl
    exact ⟨⟨n0, n1, n2⟩, ⟨n3, n4, n5⟩, rfl, ⟨a0, a1, a2⟩, ⟨a3, a4, a5⟩⟩
theorem bounds_u16' {n : Int} (h : (Lit.int .u16 n).wf = true) : 0 ≤ n ∧ n ≤ 65535 := by
  simp [Lit.wf, IntKind.min, IntKind.max, IntKind.signed, IntKind.bits] at h
  omega
theorem bounds_i8' {n : Int} (h : (Lit.int .i8 n).wf = true) : -128 ≤ n ∧ n ≤ 127 := by
  simp [Lit.wf, IntKind.min, IntKind.max, IntKind.signed, IntKind.bits] at h
  omega
end Go.Proofs.YtbfojhneajedmaaGreatDoor
