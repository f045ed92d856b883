/-
  Texts laid together.
-/
import Derived.Test.YtklgpilgalfckaaGreatDoorMN11
import Derived.Test.YtklgpilgalfckaaGreatDoorMN12
import Derived.Test.YtklgpilgalfckaaGreatDoorMN5
import Derived.Test.YtklgpilgalfckaaGreatDoorMN9
import Derived.Test.YtklgpilgalfckaaGreatDoorMN1
import Derived.BigQuiet
import Derived.WideMake
import Derived.Shelf.Abstract
set_option maxRecDepth 100000
set_option maxHeartbeats 16000000
namespace Go.Proofs.YtklgpilgalfckaaGreatDoor
open Go.RowKit Go.KP Go.KI Go.Shelf
attribute [local go_sem] Oper.semAt_some vidx0 vidx1 vidx2

theorem minor_n1 {a b c d : Rat} (h : mulO a d = none) : minorO a b c d = none := by unfold minorO; rw [h, Option.bind_none]
theorem minor_n2 {a b c d : Rat} (h : mulO b c = none) : minorO a b c d = none := by
  unfold minorO
  rw [h]
  cases mulO a d <;> rfl
theorem minor_ok {a b c d p q : Rat} (h1 : mulO a d = some p) (h2 : mulO b c = some q) : minorO a b c d = subO p q := by unfold minorO; rw [h1, Option.bind_some, h2, Option.bind_some]
theorem all3_n1 {x y z : Option Rat} (h : x = none) : all3 x y z = none := by rw [h]; rfl
theorem all3_n2 {x y z : Option Rat} (h : y = none) : all3 x y z = none := by rw [h]; cases x <;> rfl
theorem all3_n3 {x y z : Option Rat} (h : z = none) : all3 x y z = none := by rw [h]; cases x <;> cases y <;> rfl
def sel (b : Bool) (v : Value) : Value := if b then v else undef
theorem sel_t (v : Value) : sel true v = v := rfl
abbrev zarr : Obj := arrO ⟨#[]⟩ ⟨#[]⟩ ⟨#[]⟩
def actX (a b : V3) (n : Nat) (b7 b8 : Nat) (x0 x1 x2 x3 x4 x5 : Bool) : Act :=
  { tmps := #[vecV a, vecV b, .pointer (some ⟨n, 0, none⟩), .pointer (some ⟨n + 1, 0, none⟩), .pointer (some ⟨n + 1 + 1, 0, none⟩), .int .i64 0, .pointer (some ⟨n + 1 + 1 + 1, 0, none⟩), sel x4 (.pointer (some ⟨b7, 0, none⟩)), sel x5 (.pointer (some ⟨b8, 0, none⟩)), undef, undef, undef, undef, undef, undef, sel x0 (vecV a), sel x1 (vecV a), sel x2 (vecV b), sel x3 (vecV b), undef, undef, undef, undef, undef, undef, undef, undef, undef, undef, undef, undef, undef, undef, undef, undef, undef, undef, undef, undef, undef, undef, undef, undef, undef, undef, undef, undef, undef, undef, undef, undef, undef, undef, undef, undef, undef, undef, undef, undef, undef, undef, undef, undef, undef, undef, undef, undef, undef, undef, undef, undef], defers := [] }
def TakeX (a b : V3) (n : Nat) (W0 : World) (L : Array Bool) (A : Act) (w : World) : Prop :=
  ∃ b7 b8, A = actX a b n b7 b8 (L.getD 0 false) (L.getD 1 false) (L.getD 2 false) (L.getD 3 false) (L.getD 4 false) (L.getD 5 false) ∧ Below W0.heap.size W0 w ∧
    (L.getD 4 false = true → W0.heap.size ≤ b7 ∧ w.heap[b7]? = some zarr) ∧ (L.getD 5 false = true → W0.heap.size ≤ b8 ∧ w.heap[b8]? = some zarr) ∧ (L.getD 4 false = true → L.getD 5 false = true → b7 ≠ b8)
theorem TakeX.keep {a b : V3} {n : Nat} {W0 w w' : World} {L L' : Array Bool} {A' : Act} {b7 b8 : Nat} (hB : Below W0.heap.size W0 w) (h7 : L.getD 4 false = true → W0.heap.size ≤ b7 ∧ w.heap[b7]? = some zarr) (h8 : L.getD 5 false = true → W0.heap.size ≤ b8 ∧ w.heap[b8]? = some zarr) (hne : L.getD 4 false = true → L.getD 5 false = true → b7 ≠ b8)
    (hb : Below w.heap.size w w') (h4 : L'.getD 4 false = L.getD 4 false) (h5 : L'.getD 5 false = L.getD 5 false) (hA : A' = actX a b n b7 b8 (L'.getD 0 false) (L'.getD 1 false) (L'.getD 2 false) (L'.getD 3 false) (L.getD 4 false) (L.getD 5 false)) : TakeX a b n W0 L' A' w' := by
  refine ⟨b7, b8, by rw [hA, h4, h5], hB.trans (hb.mono hB.size), ?_, ?_, ?_⟩
  · rw [h4]
    intro h
    exact ⟨(h7 h).1, below_blk hb (h7 h).2 (lt_blk (h7 h).2)⟩
  · rw [h5]
    intro h
    exact ⟨(h8 h).1, below_blk hb (h8 h).2 (lt_blk (h8 h).2)⟩
  · rw [h4, h5]
    exact hne
theorem vcross_in {a b : V3} (fa : fitsV a) (fb : fitsV b) (B : Nat) (w : World) (hB : B ≤ w.heap.size) (hT : PQ B w) :
    Calls Tryz.prog 51 #[vecV a, vecV b] w (ResV w (crossO a b)) := by
  have HT := hide hT
  have FA := hide fa
  have FB := hide fb
  have HO := hide (show crossO a b = all3 (minorO a.y a.z b.y b.z) (minorO a.z a.x b.z b.x) (minorO a.x a.y b.x b.y) from rfl)
  obtain ⟨O, hO⟩ : ∃ O, O = crossO a b := ⟨_, rfl⟩
  rw [← hO] at HO ⊢
  have HOF := hide (fun a b c w => vof_any a b c w)
  obtain ⟨W0, hW0⟩ : ∃ W, W = (((w.alloc (sptO (T a.x) (T a.y) (T a.z))).alloc (sptO (T b.x) (T b.y) (T b.z))).alloc (spotO ⟨#[]⟩ ⟨#[]⟩ ⟨#[]⟩)).alloc (arrO ⟨#[]⟩ ⟨#[]⟩ ⟨#[]⟩) := ⟨_, rfl⟩
  have hX := heap3 w (sptO (T a.x) (T a.y) (T a.z)) (sptO (T b.x) (T b.y) (T b.z)) (spotO ⟨#[]⟩ ⟨#[]⟩ ⟨#[]⟩)
  have hY := heap1 (((w.alloc (sptO (T a.x) (T a.y) (T a.z))).alloc (sptO (T b.x) (T b.y) (T b.z))).alloc (spotO ⟨#[]⟩ ⟨#[]⟩ ⟨#[]⟩)) (arrO ⟨#[]⟩ ⟨#[]⟩ ⟨#[]⟩)
  rw [← hW0, hX.2.2.2.1] at hY
  have hs0 : W0.heap.size = w.heap.size + 4 := hY.2.1
  have E2 := hide (below_blk hY.2.2 hX.1 (by omega))
  have E3 := hide (below_blk hY.2.2 hX.2.1 (by omega))
  have E4 := hide (below_blk hY.2.2 hX.2.2.1 (by omega))
  have E6 := hide hY.1
  have HB0 := hide (hX.2.2.2.2.trans (hY.2.2.mono (by omega)))
  have HS0 := hide hs0
  clear hX hY hO hT fa fb hs0
  go_enter Tryz.func51, Tryz.ntmps51
  go_wp2_with fail
  rw [← hW0]
  have HW0 := hide hW0
  clear hW0
  have HL1 := hide (fun w => vlist_at (T a.x) (T a.y) (T a.z) w)
  have HL2 := hide (fun w => vlist_at (T b.x) (T b.y) (T b.z) w)
  refine region_steps 6 (TakeX a b w.heap.size W0) (by kernel_rfl) (by decide) (by kernel_rfl) (by kernel_rfl) ⟨0, 0, rfl, (Below.refl _ _).drew, (fun h => by cases h), (fun h => by cases h), (fun h => by cases h)⟩ ?_ ?_
  · intro i o L A v hi ho hL hf hd hS
    obtain ⟨b7, b8, rfl, hV, h7, h8, hne⟩ := hS
    have hi6 : i = 0 ∨ i = 1 ∨ i = 2 ∨ i = 3 ∨ i = 4 ∨ i = 5 := by omega
    rcases hi6 with rfl | rfl | rfl | rfl | rfl | rfl
    all_goals
      simp only [List.getElem?_cons_zero, List.getElem?_cons_succ, Option.some.injEq] at ho
      subst ho
    · have G := fun j => getD_set (j := j) hL hi
      obtain ⟨x0, hx0⟩ : ∃ x, x = L.getD 0 false := ⟨_, rfl⟩
      obtain ⟨x1, hx1⟩ : ∃ x, x = L.getD 1 false := ⟨_, rfl⟩
      obtain ⟨x2, hx2⟩ : ∃ x, x = L.getD 2 false := ⟨_, rfl⟩
      obtain ⟨x3, hx3⟩ : ∃ x, x = L.getD 3 false := ⟨_, rfl⟩
      obtain ⟨x4, hx4⟩ : ∃ x, x = L.getD 4 false := ⟨_, rfl⟩
      obtain ⟨x5, hx5⟩ : ∃ x, x = L.getD 5 false := ⟨_, rfl⟩
      rw [← hx0, ← hx1, ← hx2, ← hx3, ← hx4, ← hx5]
      have HK : Hid (∀ A', A' = actX a b w.heap.size b7 b8 true x1 x2 x3 x4 x5 → TakeX a b w.heap.size W0 (L.setIfInBounds 0 true) A' v) := hide (fun A' hA => TakeX.keep hV h7 h8 hne (Below.refl _ v) (by rw [G]; rfl) (by rw [G]; rfl) (by rw [hA, G, G, G, G, hx1, hx2, hx3, hx4, hx5]; rfl))
      have e2 := below_blk hV E2.out (lt_blk E2.out)
      have l2 := lt_blk e2
      have k0 := cell_blk e2 0
      have k1 := cell_blk e2 1
      have k2 := cell_blk e2 2
      unfold actX
      clear h7 h8 hne hV hd e2 hx0 hx1 hx2 hx3 hx4 hx5 G hf hL hi
      go_wp2_with fail
      exact HK.out _ rfl
    · have G := fun j => getD_set (j := j) hL hi
      obtain ⟨x0, hx0⟩ : ∃ x, x = L.getD 0 false := ⟨_, rfl⟩
      obtain ⟨x1, hx1⟩ : ∃ x, x = L.getD 1 false := ⟨_, rfl⟩
      obtain ⟨x2, hx2⟩ : ∃ x, x = L.getD 2 false := ⟨_, rfl⟩
      obtain ⟨x3, hx3⟩ : ∃ x, x = L.getD 3 false := ⟨_, rfl⟩
      obtain ⟨x4, hx4⟩ : ∃ x, x = L.getD 4 false := ⟨_, rfl⟩
      obtain ⟨x5, hx5⟩ : ∃ x, x = L.getD 5 false := ⟨_, rfl⟩
      rw [← hx0, ← hx1, ← hx2, ← hx3, ← hx4, ← hx5]
      have HK : Hid (∀ A', A' = actX a b w.heap.size b7 b8 x0 true x2 x3 x4 x5 → TakeX a b w.heap.size W0 (L.setIfInBounds 1 true) A' ((v.alloc (sptO (T a.x) (T a.y) (T a.z))).alloc (arrO (T a.x) (T a.y) (T a.z)))) := hide (fun A' hA => TakeX.keep hV h7 h8 hne (heap2 v (sptO (T a.x) (T a.y) (T a.z)) (arrO (T a.x) (T a.y) (T a.z))).2.2.2 (by rw [G]; rfl) (by rw [G]; rfl) (by rw [hA, G, G, G, G, hx0, hx2, hx3, hx4, hx5]; rfl))
      have hdep : x0 = true := by rw [hx0]; exact hd 0 (waitsB_iff.1 (by kernel_rfl))
      have HK := hide HK.out
      unfold actX
      clear h7 h8 hne hV hd hx0 hx1 hx2 hx3 hx4 hx5 G hf hL hi
      subst hdep
      simp only [sel_t]
      go_wp2_with fail
      refine (HL1.out _).mono ?_
      rintro e v' ⟨rfl, rfl⟩
      go_wp2_with fail
      exact HK.out _ rfl
    · have G := fun j => getD_set (j := j) hL hi
      obtain ⟨x0, hx0⟩ : ∃ x, x = L.getD 0 false := ⟨_, rfl⟩
      obtain ⟨x1, hx1⟩ : ∃ x, x = L.getD 1 false := ⟨_, rfl⟩
      obtain ⟨x2, hx2⟩ : ∃ x, x = L.getD 2 false := ⟨_, rfl⟩
      obtain ⟨x3, hx3⟩ : ∃ x, x = L.getD 3 false := ⟨_, rfl⟩
      obtain ⟨x4, hx4⟩ : ∃ x, x = L.getD 4 false := ⟨_, rfl⟩
      obtain ⟨x5, hx5⟩ : ∃ x, x = L.getD 5 false := ⟨_, rfl⟩
      rw [← hx0, ← hx1, ← hx2, ← hx3, ← hx4, ← hx5]
      have HK : Hid (∀ A', A' = actX a b w.heap.size b7 b8 x0 x1 true x3 x4 x5 → TakeX a b w.heap.size W0 (L.setIfInBounds 2 true) A' v) := hide (fun A' hA => TakeX.keep hV h7 h8 hne (Below.refl _ v) (by rw [G]; rfl) (by rw [G]; rfl) (by rw [hA, G, G, G, G, hx0, hx1, hx3, hx4, hx5]; rfl))
      have e2 := below_blk hV E3.out (lt_blk E3.out)
      have l2 := lt_blk e2
      have k0 := cell_blk e2 0
      have k1 := cell_blk e2 1
      have k2 := cell_blk e2 2
      unfold actX
      clear h7 h8 hne hV hd e2 hx0 hx1 hx2 hx3 hx4 hx5 G hf hL hi
      go_wp2_with fail
      exact HK.out _ rfl
    · have G := fun j => getD_set (j := j) hL hi
      obtain ⟨x0, hx0⟩ : ∃ x, x = L.getD 0 false := ⟨_, rfl⟩
      obtain ⟨x1, hx1⟩ : ∃ x, x = L.getD 1 false := ⟨_, rfl⟩
      obtain ⟨x2, hx2⟩ : ∃ x, x = L.getD 2 false := ⟨_, rfl⟩
      obtain ⟨x3, hx3⟩ : ∃ x, x = L.getD 3 false := ⟨_, rfl⟩
      obtain ⟨x4, hx4⟩ : ∃ x, x = L.getD 4 false := ⟨_, rfl⟩
      obtain ⟨x5, hx5⟩ : ∃ x, x = L.getD 5 false := ⟨_, rfl⟩
      rw [← hx0, ← hx1, ← hx2, ← hx3, ← hx4, ← hx5]
      have HK : Hid (∀ A', A' = actX a b w.heap.size b7 b8 x0 x1 x2 true x4 x5 → TakeX a b w.heap.size W0 (L.setIfInBounds 3 true) A' ((v.alloc (sptO (T b.x) (T b.y) (T b.z))).alloc (arrO (T b.x) (T b.y) (T b.z)))) := hide (fun A' hA => TakeX.keep hV h7 h8 hne (heap2 v (sptO (T b.x) (T b.y) (T b.z)) (arrO (T b.x) (T b.y) (T b.z))).2.2.2 (by rw [G]; rfl) (by rw [G]; rfl) (by rw [hA, G, G, G, G, hx0, hx1, hx2, hx4, hx5]; rfl))
      have hdep : x2 = true := by rw [hx2]; exact hd 2 (waitsB_iff.1 (by kernel_rfl))
      have HK := hide HK.out
      unfold actX
      clear h7 h8 hne hV hd hx0 hx1 hx2 hx3 hx4 hx5 G hf hL hi
      subst hdep
      simp only [sel_t]
      go_wp2_with fail
      refine (HL2.out _).mono ?_
      rintro e v' ⟨rfl, rfl⟩
      go_wp2_with fail
      exact HK.out _ rfl
    · have G := fun j => getD_set (j := j) hL hi
      obtain ⟨x0, hx0⟩ : ∃ x, x = L.getD 0 false := ⟨_, rfl⟩
      obtain ⟨x1, hx1⟩ : ∃ x, x = L.getD 1 false := ⟨_, rfl⟩
      obtain ⟨x2, hx2⟩ : ∃ x, x = L.getD 2 false := ⟨_, rfl⟩
      obtain ⟨x3, hx3⟩ : ∃ x, x = L.getD 3 false := ⟨_, rfl⟩
      obtain ⟨x4, hx4⟩ : ∃ x, x = L.getD 4 false := ⟨_, rfl⟩
      obtain ⟨x5, hx5⟩ : ∃ x, x = L.getD 5 false := ⟨_, rfl⟩
      rw [← hx0, ← hx1, ← hx2, ← hx3, ← hx4, ← hx5]
      have HK : Hid (∀ A', A' = actX a b w.heap.size v.heap.size b8 x0 x1 x2 x3 true x5 → TakeX a b w.heap.size W0 (L.setIfInBounds 4 true) A' (v.alloc zarr)) := hide (fun A' hA => ⟨v.heap.size, b8, by rw [hA, G, G, G, G, G, G, hx0, hx1, hx2, hx3, hx5]; rfl, hV.trans ((heap1 v zarr).2.2.mono hV.size), (fun _ => ⟨hV.size, heap_alloc_new v _⟩), (fun h => by rw [G] at h; have h2 := h8 h; exact ⟨h2.1, below_blk (heap1 v zarr).2.2 h2.2 (lt_blk h2.2)⟩), (fun _ h => by rw [G] at h; have h2 := lt_blk (h8 h).2; omega)⟩)
      unfold actX
      clear h7 h8 hne hV hd hx0 hx1 hx2 hx3 hx4 hx5 G hf hL hi
      go_wp2_with fail
      exact HK.out _ rfl
    · have G := fun j => getD_set (j := j) hL hi
      obtain ⟨x0, hx0⟩ : ∃ x, x = L.getD 0 false := ⟨_, rfl⟩
      obtain ⟨x1, hx1⟩ : ∃ x, x = L.getD 1 false := ⟨_, rfl⟩
      obtain ⟨x2, hx2⟩ : ∃ x, x = L.getD 2 false := ⟨_, rfl⟩
      obtain ⟨x3, hx3⟩ : ∃ x, x = L.getD 3 false := ⟨_, rfl⟩
      obtain ⟨x4, hx4⟩ : ∃ x, x = L.getD 4 false := ⟨_, rfl⟩
      obtain ⟨x5, hx5⟩ : ∃ x, x = L.getD 5 false := ⟨_, rfl⟩
      rw [← hx0, ← hx1, ← hx2, ← hx3, ← hx4, ← hx5]
      have HK : Hid (∀ A', A' = actX a b w.heap.size b7 v.heap.size x0 x1 x2 x3 x4 true → TakeX a b w.heap.size W0 (L.setIfInBounds 5 true) A' (v.alloc zarr)) := hide (fun A' hA => ⟨b7, v.heap.size, by rw [hA, G, G, G, G, G, G, hx0, hx1, hx2, hx3, hx4]; rfl, hV.trans ((heap1 v zarr).2.2.mono hV.size), (fun h => by rw [G] at h; have h2 := h7 h; exact ⟨h2.1, below_blk (heap1 v zarr).2.2 h2.2 (lt_blk h2.2)⟩), (fun _ => ⟨hV.size, heap_alloc_new v _⟩), (fun h _ => by rw [G] at h; have h2 := lt_blk (h7 h).2; omega)⟩)
      unfold actX
      clear h7 h8 hne hV hd hx0 hx1 hx2 hx3 hx4 hx5 G hf hL hi
      go_wp2_with fail
      exact HK.out _ rfl
  · intro A v hS
    obtain ⟨b7, b8, rfl, hV, h7, h8, hne⟩ := hS
    have hb7 := (h7 rfl).1
    have hb8 := (h8 rfl).1
    have A7 := hide (h7 rfl).2
    have A8 := hide (h8 rfl).2
    have hne78 : b7 ≠ b8 := hne rfl rfl
    have A4 := hide (below_blk hV E4.out (lt_blk E4.out))
    have A6 := hide (below_blk hV E6.out (lt_blk E6.out))
    have HV := hide (HB0.out.trans (hV.mono HB0.out.size))
    have k0 := cell_blk A7.out 0
    have k1 := cell_blk A7.out 1
    have k2 := cell_blk A7.out 2
    have f0 := froz_blk A7.out 0
    have f1 := froz_blk A7.out 1
    have f2 := froz_blk A7.out 2
    have m0 := cell_blk A8.out 0
    have m1 := cell_blk A8.out 1
    have m2 := cell_blk A8.out 2
    have g0 := froz_blk A8.out 0
    have g1 := froz_blk A8.out 1
    have g2 := froz_blk A8.out 2
    have l7 := lt_blk A7.out
    have l8 := lt_blk A8.out
    clear hV h7 h8 hne
    simp only [List.drop_succ_cons, List.drop_zero]
    show wpList _ _ _ _ (actX a b w.heap.size b7 b8 true true true true true true) v
    unfold actX
    simp only [sel_t]
    go_wp2_with fail
    obtain ⟨u0, hu0⟩ : ∃ W, W = ((((((v.setCell ⟨b7, 0, none⟩ (.string (T a.x))).setCell ⟨b7, 1, none⟩ (.string (T a.y))).setCell ⟨b7, 2, none⟩ (.string (T a.z))).setCell ⟨b8, 0, none⟩ (.string (T b.x))).setCell ⟨b8, 1, none⟩ (.string (T b.y))).setCell ⟨b8, 2, none⟩ (.string (T b.z))) := ⟨_, rfl⟩
    rw [← hu0]
    have hs0 := HS0.out
    have X7 : Hid (u0.heap[b7]? = some (arrO (T a.x) (T a.y) (T a.z))) := hide (by rw [hu0]; exact set_other (set_other (set_other (set3c (set3b (set3a A7.out _) _) _) (Ne.symm hne78) _) (Ne.symm hne78) _) (Ne.symm hne78) _)
    have X8 : Hid (u0.heap[b8]? = some (arrO (T b.x) (T b.y) (T b.z))) := hide (by rw [hu0]; exact set3c (set3b (set3a (set_other (set_other (set_other A8.out hne78 _) hne78 _) hne78 _) _) _) _)
    have Y4 : Hid (u0.heap[w.heap.size + 2]? = some (spotO ⟨#[]⟩ ⟨#[]⟩ ⟨#[]⟩)) := hide (by rw [hu0]; exact set_other (set_other (set_other (set_other (set_other (set_other A4.out (by omega) _) (by omega) _) (by omega) _) (by omega) _) (by omega) _) (by omega) _)
    have Y6 : Hid (u0.heap[w.heap.size + 3]? = some (arrO ⟨#[]⟩ ⟨#[]⟩ ⟨#[]⟩)) := hide (by rw [hu0]; exact set_other (set_other (set_other (set_other (set_other (set_other A6.out (by omega) _) (by omega) _) (by omega) _) (by omega) _) (by omega) _) (by omega) _)
    have HB : Hid (Below w.heap.size w u0) := hide (by rw [hu0]; exact below_spot (below_spot HV.out (by omega) _ _ _) (by omega) _ _ _)
    have NE7 := hide (show w.heap.size + 3 ≠ b7 by omega)
    have NE8 := hide (show w.heap.size + 3 ≠ b8 by omega)
    clear hu0 hs0 A4 A6 A7 A8 HV k0 k1 k2 f0 f1 f2 m0 m1 m2 g0 g1 g2 l7 l8 hb7 hb8 hne78
    refine wp_loop_rounds 4 ?_
    rw [rounds_succ]
    have k7 := cell_blk X7.out 1
    have k8 := cell_blk X8.out 2
    have l7 := lt_blk X7.out
    have l8 := lt_blk X8.out
    go_wp2_with fail
    refine region_call 6 _ (by kernel_rfl) (by decide) rfl (by kernel_rfl) (by kernel_rfl) (by kernel_rfl) (by kernel_rfl) (by kernel_rfl) (by kernel_rfl) (C := fun w' => ∃ m, w' = u0.drewN m) ⟨1, rfl⟩ ?_
    simp only [List.take_succ_cons, List.take_zero, List.drop_succ_cons, List.drop_zero]
    repeat (quiet_step (fail))
    refine wpQuiet_nil ?_
    intro _ hw'
    obtain ⟨nq, rfl⟩ := hw'
    go_wp2_with fail
    refine (qmul_O FA.out.2.1 FB.out.2.2 B (u0.drewN nq) (Nat.le_trans hB HB.out.size) (HT.out.on (below_drewN HB.out nq) hB)).mono ?_
    rintro e v1 (⟨p0, hz, rfl, hb⟩ | ⟨hz, rfl, hb⟩)
    all_goals
      have hb2 := (below_drewN (Below.refl u0.heap.size u0) nq).trans hb
      clear k7 k8 l7 l8 hb
      go_wp2_with fail
      refine ⟨fun w'' => ∃ m, w'' = v1.drewN m, ⟨0, rfl⟩, ?_⟩
      repeat (quiet_step (fail))
      refine wpQuiet_nil ?_
      intro _ hw'
      obtain ⟨nq2, rfl⟩ := hw'
      obtain ⟨u1, hu⟩ : ∃ x, x = v1.drewN nq2 := ⟨_, rfl⟩
      have hb3 : Below u0.heap.size u0 u1 := by rw [hu]; exact below_drewN hb2 nq2
      rw [← hu]
      have HZ := hide hz
      have X7 := hide (below_blk hb3 X7.out (lt_blk X7.out))
      have X8 := hide (below_blk hb3 X8.out (lt_blk X8.out))
      have Y4 := hide (below_blk hb3 Y4.out (lt_blk Y4.out))
      have Y6 := hide (below_blk hb3 Y6.out (lt_blk Y6.out))
      have HB := hide (HB.out.trans (hb3.mono HB.out.size))
      clear hu hb2 hb3 hz
    rotate_left
    · have k0 := cell_blk Y4.out 0
      have k1 := cell_blk Y4.out 1
      have k2 := cell_blk Y4.out 2
      have f0 := froz_blk Y4.out 0
      have f1 := froz_blk Y4.out 1
      have f2 := froz_blk Y4.out 2
      have l6 := lt_blk Y4.out
      go_wp2_with fail
      exact exit_spotE rfl (set3c (set3b (set3a Y4.out _) _) _) rfl rfl rfl (.inr ⟨HO.out.trans (all3_n1 (minor_n1 HZ.out)), rfl, below_spot HB.out (show w.heap.size ≤ w.heap.size + 1 + 1 by omega) _ _ _⟩)
    have Hp0 := HZ
    have k7 := cell_blk X7.out 2
    have k8 := cell_blk X8.out 1
    have l7 := lt_blk X7.out
    have l8 := lt_blk X8.out
    go_wp2_with fail
    refine region_call 6 _ (by kernel_rfl) (by decide) rfl (by kernel_rfl) (by kernel_rfl) (by kernel_rfl) (by kernel_rfl) (by kernel_rfl) (by kernel_rfl) (C := fun w' => ∃ m, w' = u1.drewN m) ⟨1, rfl⟩ ?_
    simp only [List.take_succ_cons, List.take_zero, List.drop_succ_cons, List.drop_zero]
    repeat (quiet_step (fail))
    refine wpQuiet_nil ?_
    intro _ hw'
    obtain ⟨nq, rfl⟩ := hw'
    go_wp2_with fail
    refine (qmul_O FA.out.2.2 FB.out.2.1 B (u1.drewN nq) (Nat.le_trans hB HB.out.size) (HT.out.on (below_drewN HB.out nq) hB)).mono ?_
    rintro e v2 (⟨q0, hz, rfl, hb⟩ | ⟨hz, rfl, hb⟩)
    all_goals
      have hb2 := (below_drewN (Below.refl u1.heap.size u1) nq).trans hb
      clear k7 k8 l7 l8 hb
      go_wp2_with fail
      refine ⟨fun w'' => ∃ m, w'' = v2.drewN m, ⟨0, rfl⟩, ?_⟩
      repeat (quiet_step (fail))
      refine wpQuiet_nil ?_
      intro _ hw'
      obtain ⟨nq2, rfl⟩ := hw'
      obtain ⟨u2, hu⟩ : ∃ x, x = v2.drewN nq2 := ⟨_, rfl⟩
      have hb3 : Below u1.heap.size u1 u2 := by rw [hu]; exact below_drewN hb2 nq2
      rw [← hu]
      have HZ := hide hz
      have X7 := hide (below_blk hb3 X7.out (lt_blk X7.out))
      have X8 := hide (below_blk hb3 X8.out (lt_blk X8.out))
      have Y4 := hide (below_blk hb3 Y4.out (lt_blk Y4.out))
      have Y6 := hide (below_blk hb3 Y6.out (lt_blk Y6.out))
      have HB := hide (HB.out.trans (hb3.mono HB.out.size))
      clear hu hb2 hb3 hz
    rotate_left
    · have k0 := cell_blk Y4.out 0
      have k1 := cell_blk Y4.out 1
      have k2 := cell_blk Y4.out 2
      have f0 := froz_blk Y4.out 0
      have f1 := froz_blk Y4.out 1
      have f2 := froz_blk Y4.out 2
      have l6 := lt_blk Y4.out
      go_wp2_with fail
      exact exit_spotE rfl (set3c (set3b (set3a Y4.out _) _) _) rfl rfl rfl (.inr ⟨HO.out.trans (all3_n1 (minor_n2 HZ.out)), rfl, below_spot HB.out (show w.heap.size ≤ w.heap.size + 1 + 1 by omega) _ _ _⟩)
    have Hq0 := HZ
    go_wp2_with fail
    have HD := hide (fun w hB hT => qsub_O (mulO_some Hp0.out).2 (mulO_some Hq0.out).2 B w hB hT)
    refine (HD.out _ (Nat.le_trans hB HB.out.size) (HT.out.on HB.out hB)).mono ?_
    rintro e v3 (⟨z0, hz, rfl, hb⟩ | ⟨hz, rfl, hb⟩)
    all_goals
      have X7 := hide (below_blk hb X7.out (lt_blk X7.out))
      have X8 := hide (below_blk hb X8.out (lt_blk X8.out))
      have Y4 := hide (below_blk hb Y4.out (lt_blk Y4.out))
      have Y6 := hide (below_blk hb Y6.out (lt_blk Y6.out))
      have HB := hide (HB.out.trans (hb.mono HB.out.size))
      have HZ := hide ((minor_ok Hp0.out Hq0.out).trans hz)
      have j0 := cell_blk Y6.out 0
      have j1 := froz_blk Y6.out 0
      have j2 := lt_blk Y6.out
      clear hb hz HD
    rotate_left
    · have S4 := hide (set_other (c := w.heap.size + 3) (o := 0) Y4.out (by omega) (.string ⟨#[]⟩))
      have k0 := cell_blk S4.out 0
      have k1 := cell_blk S4.out 1
      have k2 := cell_blk S4.out 2
      have f0 := froz_blk S4.out 0
      have f1 := froz_blk S4.out 1
      have f2 := froz_blk S4.out 2
      have l6 := lt_blk S4.out
      go_wp2_with fail
      exact exit_spotE rfl (set3c (set3b (set3a S4.out _) _) _) rfl rfl rfl (.inr ⟨HO.out.trans (all3_n1 HZ.out), rfl, below_spot (HB.out.setCell (p := ⟨w.heap.size + 3, 0, none⟩) (Nat.le_add_right _ _) (.string ⟨#[]⟩)) (show w.heap.size ≤ w.heap.size + 1 + 1 by omega) _ _ _⟩)
    have Y4 := hide (set_other (c := w.heap.size + 3) (o := 0) Y4.out (by omega) (.string (T z0)))
    have ne7 : w.heap.size + 3 ≠ b7 := NE7.out
    have ne8 : w.heap.size + 3 ≠ b8 := NE8.out
    have X7 := hide (set_other (c := w.heap.size + 3) (o := 0) X7.out ne7 (.string (T z0)))
    have X8 := hide (set_other (c := w.heap.size + 3) (o := 0) X8.out ne8 (.string (T z0)))
    have Y6 := hide (set3a Y6.out (.string (T z0)))
    have HB := hide (HB.out.setCell (p := ⟨w.heap.size + 3, 0, none⟩) (Nat.le_add_right _ _) (.string (T z0)))
    have HM0 := HZ
    clear ne7 ne8
    go_wp2_with fail
    clear j0 j1 j2
    obtain ⟨u3, hu⟩ : ∃ x, x = v3.setCell ⟨w.heap.size + 3, 0, none⟩ (.string (T z0)) := ⟨_, rfl⟩
    rw [← hu] at X7 X8 Y4 Y6 HB
    show Code.rounds _ _ _ _ _ (v3.setCell ⟨w.heap.size + 3, 0, none⟩ (.string (T z0)))
    rw [← hu, rounds_succ]
    clear hu
    have k7 := cell_blk X7.out 2
    have k8 := cell_blk X8.out 0
    have l7 := lt_blk X7.out
    have l8 := lt_blk X8.out
    go_wp2_with fail
    refine region_call 6 _ (by kernel_rfl) (by decide) rfl (by kernel_rfl) (by kernel_rfl) (by kernel_rfl) (by kernel_rfl) (by kernel_rfl) (by kernel_rfl) (C := fun w' => ∃ m, w' = u3.drewN m) ⟨1, rfl⟩ ?_
    simp only [List.take_succ_cons, List.take_zero, List.drop_succ_cons, List.drop_zero]
    repeat (quiet_step (fail))
    refine wpQuiet_nil ?_
    intro _ hw'
    obtain ⟨nq, rfl⟩ := hw'
    go_wp2_with fail
    refine (qmul_O FA.out.2.2 FB.out.1 B (u3.drewN nq) (Nat.le_trans hB HB.out.size) (HT.out.on (below_drewN HB.out nq) hB)).mono ?_
    rintro e v4 (⟨p1, hz, rfl, hb⟩ | ⟨hz, rfl, hb⟩)
    all_goals
      have hb2 := (below_drewN (Below.refl u3.heap.size u3) nq).trans hb
      clear k7 k8 l7 l8 hb
      go_wp2_with fail
      refine ⟨fun w'' => ∃ m, w'' = v4.drewN m, ⟨0, rfl⟩, ?_⟩
      repeat (quiet_step (fail))
      refine wpQuiet_nil ?_
      intro _ hw'
      obtain ⟨nq2, rfl⟩ := hw'
      obtain ⟨u4, hu⟩ : ∃ x, x = v4.drewN nq2 := ⟨_, rfl⟩
      have hb3 : Below u3.heap.size u3 u4 := by rw [hu]; exact below_drewN hb2 nq2
      rw [← hu]
      have HZ := hide hz
      have X7 := hide (below_blk hb3 X7.out (lt_blk X7.out))
      have X8 := hide (below_blk hb3 X8.out (lt_blk X8.out))
      have Y4 := hide (below_blk hb3 Y4.out (lt_blk Y4.out))
      have Y6 := hide (below_blk hb3 Y6.out (lt_blk Y6.out))
      have HB := hide (HB.out.trans (hb3.mono HB.out.size))
      clear hu hb2 hb3 hz
    rotate_left
    · have k0 := cell_blk Y4.out 0
      have k1 := cell_blk Y4.out 1
      have k2 := cell_blk Y4.out 2
      have f0 := froz_blk Y4.out 0
      have f1 := froz_blk Y4.out 1
      have f2 := froz_blk Y4.out 2
      have l6 := lt_blk Y4.out
      go_wp2_with fail
      exact exit_spotE rfl (set3c (set3b (set3a Y4.out _) _) _) rfl rfl rfl (.inr ⟨HO.out.trans (all3_n2 (minor_n1 HZ.out)), rfl, below_spot HB.out (show w.heap.size ≤ w.heap.size + 1 + 1 by omega) _ _ _⟩)
    have Hp1 := HZ
    have k7 := cell_blk X7.out 0
    have k8 := cell_blk X8.out 2
    have l7 := lt_blk X7.out
    have l8 := lt_blk X8.out
    go_wp2_with fail
    refine region_call 6 _ (by kernel_rfl) (by decide) rfl (by kernel_rfl) (by kernel_rfl) (by kernel_rfl) (by kernel_rfl) (by kernel_rfl) (by kernel_rfl) (C := fun w' => ∃ m, w' = u4.drewN m) ⟨1, rfl⟩ ?_
    simp only [List.take_succ_cons, List.take_zero, List.drop_succ_cons, List.drop_zero]
    repeat (quiet_step (fail))
    refine wpQuiet_nil ?_
    intro _ hw'
    obtain ⟨nq, rfl⟩ := hw'
    go_wp2_with fail
    refine (qmul_O FA.out.1 FB.out.2.2 B (u4.drewN nq) (Nat.le_trans hB HB.out.size) (HT.out.on (below_drewN HB.out nq) hB)).mono ?_
    rintro e v5 (⟨q1, hz, rfl, hb⟩ | ⟨hz, rfl, hb⟩)
    all_goals
      have hb2 := (below_drewN (Below.refl u4.heap.size u4) nq).trans hb
      clear k7 k8 l7 l8 hb
      go_wp2_with fail
      refine ⟨fun w'' => ∃ m, w'' = v5.drewN m, ⟨0, rfl⟩, ?_⟩
      repeat (quiet_step (fail))
      refine wpQuiet_nil ?_
      intro _ hw'
      obtain ⟨nq2, rfl⟩ := hw'
      obtain ⟨u5, hu⟩ : ∃ x, x = v5.drewN nq2 := ⟨_, rfl⟩
      have hb3 : Below u4.heap.size u4 u5 := by rw [hu]; exact below_drewN hb2 nq2
      rw [← hu]
      have HZ := hide hz
      have X7 := hide (below_blk hb3 X7.out (lt_blk X7.out))
      have X8 := hide (below_blk hb3 X8.out (lt_blk X8.out))
      have Y4 := hide (below_blk hb3 Y4.out (lt_blk Y4.out))
      have Y6 := hide (below_blk hb3 Y6.out (lt_blk Y6.out))
      have HB := hide (HB.out.trans (hb3.mono HB.out.size))
      clear hu hb2 hb3 hz
    rotate_left
    · have k0 := cell_blk Y4.out 0
      have k1 := cell_blk Y4.out 1
      have k2 := cell_blk Y4.out 2
      have f0 := froz_blk Y4.out 0
      have f1 := froz_blk Y4.out 1
      have f2 := froz_blk Y4.out 2
      have l6 := lt_blk Y4.out
      go_wp2_with fail
      exact exit_spotE rfl (set3c (set3b (set3a Y4.out _) _) _) rfl rfl rfl (.inr ⟨HO.out.trans (all3_n2 (minor_n2 HZ.out)), rfl, below_spot HB.out (show w.heap.size ≤ w.heap.size + 1 + 1 by omega) _ _ _⟩)
    have Hq1 := HZ
    go_wp2_with fail
    have HD := hide (fun w hB hT => qsub_O (mulO_some Hp1.out).2 (mulO_some Hq1.out).2 B w hB hT)
    refine (HD.out _ (Nat.le_trans hB HB.out.size) (HT.out.on HB.out hB)).mono ?_
    rintro e v6 (⟨z1, hz, rfl, hb⟩ | ⟨hz, rfl, hb⟩)
    all_goals
      have X7 := hide (below_blk hb X7.out (lt_blk X7.out))
      have X8 := hide (below_blk hb X8.out (lt_blk X8.out))
      have Y4 := hide (below_blk hb Y4.out (lt_blk Y4.out))
      have Y6 := hide (below_blk hb Y6.out (lt_blk Y6.out))
      have HB := hide (HB.out.trans (hb.mono HB.out.size))
      have HZ := hide ((minor_ok Hp1.out Hq1.out).trans hz)
      have j0 := cell_blk Y6.out 1
      have j1 := froz_blk Y6.out 1
      have j2 := lt_blk Y6.out
      clear hb hz HD
    rotate_left
    · have S4 := hide (set_other (c := w.heap.size + 3) (o := 1) Y4.out (by omega) (.string ⟨#[]⟩))
      have k0 := cell_blk S4.out 0
      have k1 := cell_blk S4.out 1
      have k2 := cell_blk S4.out 2
      have f0 := froz_blk S4.out 0
      have f1 := froz_blk S4.out 1
      have f2 := froz_blk S4.out 2
      have l6 := lt_blk S4.out
      go_wp2_with fail
      exact exit_spotE rfl (set3c (set3b (set3a S4.out _) _) _) rfl rfl rfl (.inr ⟨HO.out.trans (all3_n2 HZ.out), rfl, below_spot (HB.out.setCell (p := ⟨w.heap.size + 3, 1, none⟩) (Nat.le_add_right _ _) (.string ⟨#[]⟩)) (show w.heap.size ≤ w.heap.size + 1 + 1 by omega) _ _ _⟩)
    have Y4 := hide (set_other (c := w.heap.size + 3) (o := 1) Y4.out (by omega) (.string (T z1)))
    have ne7 : w.heap.size + 3 ≠ b7 := NE7.out
    have ne8 : w.heap.size + 3 ≠ b8 := NE8.out
    have X7 := hide (set_other (c := w.heap.size + 3) (o := 1) X7.out ne7 (.string (T z1)))
    have X8 := hide (set_other (c := w.heap.size + 3) (o := 1) X8.out ne8 (.string (T z1)))
    have Y6 := hide (set3b Y6.out (.string (T z1)))
    have HB := hide (HB.out.setCell (p := ⟨w.heap.size + 3, 1, none⟩) (Nat.le_add_right _ _) (.string (T z1)))
    have HM1 := HZ
    clear ne7 ne8
    go_wp2_with fail
    clear j0 j1 j2
    obtain ⟨u6, hu⟩ : ∃ x, x = v6.setCell ⟨w.heap.size + 3, 1, none⟩ (.string (T z1)) := ⟨_, rfl⟩
    rw [← hu] at X7 X8 Y4 Y6 HB
    show Code.rounds _ _ _ _ _ (v6.setCell ⟨w.heap.size + 3, 1, none⟩ (.string (T z1)))
    rw [← hu, rounds_succ]
    clear hu
    have k7 := cell_blk X7.out 0
    have k8 := cell_blk X8.out 1
    have l7 := lt_blk X7.out
    have l8 := lt_blk X8.out
    go_wp2_with fail
    refine region_call 6 _ (by kernel_rfl) (by decide) rfl (by kernel_rfl) (by kernel_rfl) (by kernel_rfl) (by kernel_rfl) (by kernel_rfl) (by kernel_rfl) (C := fun w' => ∃ m, w' = u6.drewN m) ⟨1, rfl⟩ ?_
    simp only [List.take_succ_cons, List.take_zero, List.drop_succ_cons, List.drop_zero]
    repeat (quiet_step (fail))
    refine wpQuiet_nil ?_
    intro _ hw'
    obtain ⟨nq, rfl⟩ := hw'
    go_wp2_with fail
    refine (qmul_O FA.out.1 FB.out.2.1 B (u6.drewN nq) (Nat.le_trans hB HB.out.size) (HT.out.on (below_drewN HB.out nq) hB)).mono ?_
    rintro e v7 (⟨p2, hz, rfl, hb⟩ | ⟨hz, rfl, hb⟩)
    all_goals
      have hb2 := (below_drewN (Below.refl u6.heap.size u6) nq).trans hb
      clear k7 k8 l7 l8 hb
      go_wp2_with fail
      refine ⟨fun w'' => ∃ m, w'' = v7.drewN m, ⟨0, rfl⟩, ?_⟩
      repeat (quiet_step (fail))
      refine wpQuiet_nil ?_
      intro _ hw'
      obtain ⟨nq2, rfl⟩ := hw'
      obtain ⟨u7, hu⟩ : ∃ x, x = v7.drewN nq2 := ⟨_, rfl⟩
      have hb3 : Below u6.heap.size u6 u7 := by rw [hu]; exact below_drewN hb2 nq2
      rw [← hu]
      have HZ := hide hz
      have X7 := hide (below_blk hb3 X7.out (lt_blk X7.out))
      have X8 := hide (below_blk hb3 X8.out (lt_blk X8.out))
      have Y4 := hide (below_blk hb3 Y4.out (lt_blk Y4.out))
      have Y6 := hide (below_blk hb3 Y6.out (lt_blk Y6.out))
      have HB := hide (HB.out.trans (hb3.mono HB.out.size))
      clear hu hb2 hb3 hz
    rotate_left
    · have k0 := cell_blk Y4.out 0
      have k1 := cell_blk Y4.out 1
      have k2 := cell_blk Y4.out 2
      have f0 := froz_blk Y4.out 0
      have f1 := froz_blk Y4.out 1
      have f2 := froz_blk Y4.out 2
      have l6 := lt_blk Y4.out
      go_wp2_with fail
      exact exit_spotE rfl (set3c (set3b (set3a Y4.out _) _) _) rfl rfl rfl (.inr ⟨HO.out.trans (all3_n3 (minor_n1 HZ.out)), rfl, below_spot HB.out (show w.heap.size ≤ w.heap.size + 1 + 1 by omega) _ _ _⟩)
    have Hp2 := HZ
    have k7 := cell_blk X7.out 1
    have k8 := cell_blk X8.out 0
    have l7 := lt_blk X7.out
    have l8 := lt_blk X8.out
    go_wp2_with fail
    refine region_call 6 _ (by kernel_rfl) (by decide) rfl (by kernel_rfl) (by kernel_rfl) (by kernel_rfl) (by kernel_rfl) (by kernel_rfl) (by kernel_rfl) (C := fun w' => ∃ m, w' = u7.drewN m) ⟨1, rfl⟩ ?_
    simp only [List.take_succ_cons, List.take_zero, List.drop_succ_cons, List.drop_zero]
    repeat (quiet_step (fail))
    refine wpQuiet_nil ?_
    intro _ hw'
    obtain ⟨nq, rfl⟩ := hw'
    go_wp2_with fail
    refine (qmul_O FA.out.2.1 FB.out.1 B (u7.drewN nq) (Nat.le_trans hB HB.out.size) (HT.out.on (below_drewN HB.out nq) hB)).mono ?_
    rintro e v8 (⟨q2, hz, rfl, hb⟩ | ⟨hz, rfl, hb⟩)
    all_goals
      have hb2 := (below_drewN (Below.refl u7.heap.size u7) nq).trans hb
      clear k7 k8 l7 l8 hb
      go_wp2_with fail
      refine ⟨fun w'' => ∃ m, w'' = v8.drewN m, ⟨0, rfl⟩, ?_⟩
      repeat (quiet_step (fail))
      refine wpQuiet_nil ?_
      intro _ hw'
      obtain ⟨nq2, rfl⟩ := hw'
      obtain ⟨u8, hu⟩ : ∃ x, x = v8.drewN nq2 := ⟨_, rfl⟩
      have hb3 : Below u7.heap.size u7 u8 := by rw [hu]; exact below_drewN hb2 nq2
      rw [← hu]
      have HZ := hide hz
      have X7 := hide (below_blk hb3 X7.out (lt_blk X7.out))
      have X8 := hide (below_blk hb3 X8.out (lt_blk X8.out))
      have Y4 := hide (below_blk hb3 Y4.out (lt_blk Y4.out))
      have Y6 := hide (below_blk hb3 Y6.out (lt_blk Y6.out))
      have HB := hide (HB.out.trans (hb3.mono HB.out.size))
      clear hu hb2 hb3 hz
    rotate_left
    · have k0 := cell_blk Y4.out 0
      have k1 := cell_blk Y4.out 1
      have k2 := cell_blk Y4.out 2
      have f0 := froz_blk Y4.out 0
      have f1 := froz_blk Y4.out 1
      have f2 := froz_blk Y4.out 2
      have l6 := lt_blk Y4.out
      go_wp2_with fail
      exact exit_spotE rfl (set3c (set3b (set3a Y4.out _) _) _) rfl rfl rfl (.inr ⟨HO.out.trans (all3_n3 (minor_n2 HZ.out)), rfl, below_spot HB.out (show w.heap.size ≤ w.heap.size + 1 + 1 by omega) _ _ _⟩)
    have Hq2 := HZ
    go_wp2_with fail
    have HD := hide (fun w hB hT => qsub_O (mulO_some Hp2.out).2 (mulO_some Hq2.out).2 B w hB hT)
    refine (HD.out _ (Nat.le_trans hB HB.out.size) (HT.out.on HB.out hB)).mono ?_
    rintro e v9 (⟨z2, hz, rfl, hb⟩ | ⟨hz, rfl, hb⟩)
    all_goals
      have X7 := hide (below_blk hb X7.out (lt_blk X7.out))
      have X8 := hide (below_blk hb X8.out (lt_blk X8.out))
      have Y4 := hide (below_blk hb Y4.out (lt_blk Y4.out))
      have Y6 := hide (below_blk hb Y6.out (lt_blk Y6.out))
      have HB := hide (HB.out.trans (hb.mono HB.out.size))
      have HZ := hide ((minor_ok Hp2.out Hq2.out).trans hz)
      have j0 := cell_blk Y6.out 2
      have j1 := froz_blk Y6.out 2
      have j2 := lt_blk Y6.out
      clear hb hz HD
    rotate_left
    · have S4 := hide (set_other (c := w.heap.size + 3) (o := 2) Y4.out (by omega) (.string ⟨#[]⟩))
      have k0 := cell_blk S4.out 0
      have k1 := cell_blk S4.out 1
      have k2 := cell_blk S4.out 2
      have f0 := froz_blk S4.out 0
      have f1 := froz_blk S4.out 1
      have f2 := froz_blk S4.out 2
      have l6 := lt_blk S4.out
      go_wp2_with fail
      exact exit_spotE rfl (set3c (set3b (set3a S4.out _) _) _) rfl rfl rfl (.inr ⟨HO.out.trans (all3_n3 HZ.out), rfl, below_spot (HB.out.setCell (p := ⟨w.heap.size + 3, 2, none⟩) (Nat.le_add_right _ _) (.string ⟨#[]⟩)) (show w.heap.size ≤ w.heap.size + 1 + 1 by omega) _ _ _⟩)
    have Y4 := hide (set_other (c := w.heap.size + 3) (o := 2) Y4.out (by omega) (.string (T z2)))
    have ne7 : w.heap.size + 3 ≠ b7 := NE7.out
    have ne8 : w.heap.size + 3 ≠ b8 := NE8.out
    have X7 := hide (set_other (c := w.heap.size + 3) (o := 2) X7.out ne7 (.string (T z2)))
    have X8 := hide (set_other (c := w.heap.size + 3) (o := 2) X8.out ne8 (.string (T z2)))
    have Y6 := hide (set3c Y6.out (.string (T z2)))
    have HB := hide (HB.out.setCell (p := ⟨w.heap.size + 3, 2, none⟩) (Nat.le_add_right _ _) (.string (T z2)))
    have HM2 := HZ
    clear ne7 ne8
    go_wp2_with fail
    clear j0 j1 j2
    obtain ⟨u9, hu⟩ : ∃ x, x = v9.setCell ⟨w.heap.size + 3, 2, none⟩ (.string (T z2)) := ⟨_, rfl⟩
    rw [← hu] at X7 X8 Y4 Y6 HB
    show Code.rounds _ _ _ _ _ (v9.setCell ⟨w.heap.size + 3, 2, none⟩ (.string (T z2)))
    rw [← hu, rounds_succ]
    clear hu
    have k0 := cell_blk Y6.out 0
    have k1 := cell_blk Y6.out 1
    have k2 := cell_blk Y6.out 2
    have l6 := lt_blk Y6.out
    go_wp2_with fail
    refine (HOF.out _ _ _ _).mono ?_
    rintro e w4 ⟨rfl, rfl⟩
    clear k0 k1 k2 l6
    have X5 := hide (heap2 u9 (arrO (T z0) (T z1) (T z2)) (spotO (T z0) (T z1) (T z2)))
    have R6 := hide (below_blk X5.out.2.2.2 Y4.out (lt_blk Y4.out))
    have RB := hide (HB.out.trans (X5.out.2.2.2.mono HB.out.size))
    have k0 := cell_blk R6.out 0
    have k1 := cell_blk R6.out 1
    have k2 := cell_blk R6.out 2
    have f0 := froz_blk R6.out 0
    have f1 := froz_blk R6.out 1
    have f2 := froz_blk R6.out 2
    have l6 := lt_blk R6.out
    go_wp2_with fail
    exact exit_spotE rfl (set3c (set3b (set3a R6.out _) _) _) rfl rfl rfl (.inl ⟨⟨z0, z1, z2⟩, HO.out.trans (by rw [HM0.out, HM1.out, HM2.out]; rfl), rfl, below_spot RB.out (show w.heap.size ≤ w.heap.size + 1 + 1 by omega) _ _ _⟩)
open Go.RowKit Go.KP Go.KI Go.Shelf
attribute [local go_sem] Oper.semAt_some vidx0 vidx1 vidx2

theorem vCross_O {a b : V3} (fa : fitsV a) (fb : fitsV b) (B : Nat) (w : World) (hB : B ≤ w.heap.size) (hT : PQ B w) :
    Calls Tryz.prog 19 #[vecV a, vecV b] w (ResV w (crossO a b)) := by
  have HT := hide hT
  have HC := hide (fun w hB hT => vboth_T fa fb B w hB hT)
  have HD := hide (fun w hB hT => vcross_in fa fb B w hB hT)
  have X0 := hide (heap3 w (vecO a) (vecO b) (spotO ⟨#[]⟩ ⟨#[]⟩ ⟨#[]⟩))
  obtain ⟨O, hO⟩ : ∃ O, O = crossO a b := ⟨_, rfl⟩
  rw [← hO] at HD ⊢
  clear hO hT fa fb
  go_enter Tryz.func19, Tryz.ntmps19
  go_wp2_with fail
  refine (HC.out _ (Nat.le_trans hB X0.out.2.2.2.2.size) (HT.out.on X0.out.2.2.2.2 hB)).mono ?_
  rintro e w1 ⟨rfl, hb1⟩
  have HB1 := hide (X0.out.2.2.2.2.trans (hb1.mono X0.out.2.2.2.2.size))
  have G1 := hide (below_blk hb1 X0.out.1 (lt_blk X0.out.1))
  have G2 := hide (below_blk hb1 X0.out.2.1 (lt_blk X0.out.2.1))
  have G4 := hide (below_blk hb1 X0.out.2.2.1 (lt_blk X0.out.2.2.1))
  have k0 := cell_blk G1.out 0
  have k1 := cell_blk G1.out 1
  have k2 := cell_blk G1.out 2
  have m0 := cell_blk G2.out 0
  have m1 := cell_blk G2.out 1
  have m2 := cell_blk G2.out 2
  clear hb1
  go_wp2_with fail
  refine (HD.out _ (Nat.le_trans hB HB1.out.size) (HT.out.on HB1.out hB)).mono ?_
  rintro e w3 (⟨z, hz, rfl, hb3⟩ | ⟨hz, rfl, hb3⟩)
  all_goals
    have HZ := hide hz
    have HB3 := hide (HB1.out.trans (hb3.mono HB1.out.size))
    have G5 := hide (below_blk hb3 G4.out (lt_blk G4.out))
    clear hb3 hz k0 k1 k2 m0 m1 m2
    have k0 := cell_blk G5.out 0
    have k1 := cell_blk G5.out 1
    have k2 := cell_blk G5.out 2
    have f0 := froz_blk G5.out 0
    have f1 := froz_blk G5.out 1
    have f2 := froz_blk G5.out 2
    have l6 := lt_blk G5.out
    go_wp2_with fail
    first
      | exact exit_spotE rfl (set3c (set3b (set3a G5.out _) _) _) rfl rfl rfl (.inl ⟨_, HZ.out, rfl, below_spot HB3.out (show w.heap.size ≤ w.heap.size + 1 + 1 by omega) _ _ _⟩)
      | exact exit_spotE rfl (set3c (set3b (set3a G5.out _) _) _) rfl rfl rfl (.inr ⟨HZ.out, rfl, below_spot HB3.out (show w.heap.size ≤ w.heap.size + 1 + 1 by omega) _ _ _⟩)
theorem eqZero (c : V3) (w : World) : (Op.equalIn 10000 28 (vecV c) (.agg #[.string ⟨#[48]⟩, .string ⟨#[48]⟩, .string ⟨#[48]⟩])).run Tryz.prog w = .ok (decide (c = vzero)) w := by
  have h := eqSpot_T c vzero w
  unfold vecV at h
  rw [show vzero.x = 0 from rfl, show vzero.y = 0 from rfl, show vzero.z = 0 from rfl, T0] at h
  exact h
theorem vParallel_T {a b c : V3} (fa : fitsV a) (fb : fitsV b) (hc : crossO a b = some c) {is : Bool} (his : is = decide (c = vzero)) (B : Nat) (w : World) (hB : B ≤ w.heap.size) (hT : PQ B w) :
    Calls Tryz.prog 23 #[vecV a, vecV b] w (Ret w (.tuple #[.bool is, .int .i64 0])) := by
  have HT := hide hT
  have HD := hide (fun w hB hT => (vCross_O fa fb B w hB hT).mono fun _ _ h => ResV.of hc h)
  have X0 := hide (heap2 w (vecO a) (vecO b))
  have he := eqZero c
  rw [← his] at he
  clear hc his hT fa fb
  go_enter Tryz.func23, Tryz.ntmps23
  go_wp2_with fail
  refine (HD.out _ (Nat.le_trans hB X0.out.2.2.2.size) (HT.out.on X0.out.2.2.2 hB)).mono ?_
  rintro e w1 ⟨rfl, hb1⟩
  have HB1 := hide ((X0.out.2.2.2.trans (hb1.mono X0.out.2.2.2.size)).trans ((heap1 w1 (vecO c)).2.2.mono (X0.out.2.2.2.trans (hb1.mono X0.out.2.2.2.size)).size))
  clear hb1
  go_wp2_with fail
  refine bodyPost_ret (results_tmp2 rfl _ _ _) rfl ?_
  exact ⟨rfl, HB1.out⟩
open Go.RowKit Go.KP Go.KI Go.Shelf
attribute [local go_sem] Oper.semAt_some

theorem hMeets_to {k f o : Int} {a b : V3} {wd dp : Int} (h : Mem k f o a b wd dp) {q : V3} (hq : szV 36 q) {r : Bool} (hr : r = decide (meetsP a b q)) (B : Nat) (w : World) (hB : B ≤ w.heap.size) (hT : PQ B w) :
    Calls Tryz.prog 31 #[memV k f o a b wd dp, vecV q] w (Ret w (.tuple #[.bool r, .int .i64 0])) := by
  have HT := hide hT
  have fq : fitsV q := szV_fits hq (by rw [most_eq]; omega)
  have HC := hide (fun w hB hT => hCheck_ok h B w hB hT)
  have HQ := hide (fun w hB hT => vchk_T fq B w hB hT)
  have HL := hide (fun w hB hT => hlong_no hq B w hB hT)
  have HS1 := hide (fun w hB hT => h.sub B w hB hT)
  have st : szV 73 (vsub q a) := szV_sub hq h.ha
  have ft : fitsV (vsub q a) := szV_fits st (by rw [most_eq]; omega)
  have HS2 := hide (fun w hB hT => (vSub_O fq h.fa B w hB hT).mono fun _ _ hr => ResV.of (sub2_sz hq h.ha (by rw [most_eq]; omega)) hr)
  have HP := hide (fun w hB hT => vParallel_T h.fd ft (cross_sz h.szd st (by rw [most_eq]; omega)).1 rfl B w hB hT)
  have HC1 := hide (fun w hB hT => vCompare_T h.fa fq (cmpsV_of h.ha hq (by rw [most_eq]; omega)) B w hB hT)
  have HC2 := hide (fun w hB hT => vCompare_T fq h.fb (cmpsV_of hq h.hb (by rw [most_eq]; omega)) B w hB hT)
  have hm : meetsP a b q ↔ (decide (vcross (vsub b a) (vsub q a) = vzero) = true ∧ (vcmp a q = 0 ∨ vcmp q b = 0 ∨ vcmp a q = vcmp q b)) := by
    unfold meetsP
    rw [decide_eq_true_iff]
  obtain ⟨P, hP⟩ : ∃ P, P = decide (vcross (vsub b a) (vsub q a) = vzero) := ⟨_, rfl⟩
  obtain ⟨x, hx⟩ : ∃ x, x = vcmp a q := ⟨_, rfl⟩
  obtain ⟨y, hy⟩ : ∃ x, x = vcmp q b := ⟨_, rfl⟩
  rw [← hP] at HP hm
  rw [← hx, ← hy] at hm
  rw [← hx] at HC1
  rw [← hy] at HC2
  obtain ⟨d, hd⟩ : ∃ d, d = vsub b a := ⟨_, rfl⟩
  obtain ⟨t, ht⟩ : ∃ d, d = vsub q a := ⟨_, rfl⟩
  rw [← hd] at HS1 HP
  rw [← ht] at HS2 HP
  have X0 := hide (heap2 w (memO k f o a b wd dp) (vecO q))
  have hway : (P = false ∧ r = false) ∨ (P = true ∧ x = 0 ∧ r = true) ∨ (P = true ∧ (x == 0) = false ∧ y = 0 ∧ r = true) ∨ (P = true ∧ (x == 0) = false ∧ (y == 0) = false ∧ (x == y) = r) := by
    cases P
    · exact .inl ⟨rfl, by rw [hr, decide_eq_false_iff_not, hm]; rintro ⟨e, _⟩; cases e⟩
    · by_cases x0 : x = 0
      · exact .inr (.inl ⟨rfl, x0, by rw [hr, decide_eq_true_iff, hm]; exact ⟨rfl, .inl x0⟩⟩)
      · by_cases y0 : y = 0
        · exact .inr (.inr (.inl ⟨rfl, by simpa using x0, y0, by rw [hr, decide_eq_true_iff, hm]; exact ⟨rfl, .inr (.inl y0)⟩⟩))
        · refine .inr (.inr (.inr ⟨rfl, by simpa using x0, by simpa using y0, ?_⟩))
          rw [hr]
          by_cases e : x = y
          · rw [decide_eq_true (hm.2 ⟨rfl, .inr (.inr e)⟩), e]
            simp
          · rw [decide_eq_false (fun z => by rcases (hm.1 z).2 with u | u | u <;> contradiction)]
            simpa using e
  clear h hq fq st ft hr hm hP hx hy hd ht hT
  rcases hway with ⟨rfl, rfl⟩ | hway
  · skip
    go_enter Tryz.func31, Tryz.ntmps31
    go_wp2_with fail
    refine (HC.out _ (Nat.le_trans hB X0.out.2.2.2.size) (HT.out.on X0.out.2.2.2 hB)).mono ?_
    rintro e w1 ⟨rfl, hb1⟩
    have G1 := hide (below_blk hb1 X0.out.1 (lt_blk X0.out.1))
    have G2 := hide (below_blk hb1 X0.out.2.1 (lt_blk X0.out.2.1))
    have HB1 := hide (X0.out.2.2.2.trans (hb1.mono X0.out.2.2.2.size))
    clear hb1
    have c0 := cell_blk G2.out 0
    have c1 := cell_blk G2.out 1
    have c2 := cell_blk G2.out 2
    have l2 := lt_blk G2.out
    go_wp2_with fail
    refine (HQ.out _ (Nat.le_trans hB HB1.out.size) (HT.out.on HB1.out hB)).mono ?_
    rintro e w2 ⟨rfl, hb2⟩
    have G1 := hide (below_blk hb2 G1.out (lt_blk G1.out))
    have G2 := hide (below_blk hb2 G2.out (lt_blk G2.out))
    have HB2 := hide (HB1.out.trans (hb2.mono HB1.out.size))
    clear hb2 c0 c1 c2 l2
    have c0 := cell_blk G2.out 0
    have c1 := cell_blk G2.out 1
    have c2 := cell_blk G2.out 2
    have l2 := lt_blk G2.out
    go_wp2_with fail
    refine (HL.out _ (Nat.le_trans hB HB2.out.size) (HT.out.on HB2.out hB)).mono ?_
    rintro e w3 ⟨rfl, hb3⟩
    have G1 := hide (below_blk hb3 G1.out (lt_blk G1.out))
    have G2 := hide (below_blk hb3 G2.out (lt_blk G2.out))
    have HB3 := hide (HB2.out.trans (hb3.mono HB2.out.size))
    clear hb3 c0 c1 c2 l2
    have k3 := cell_blk G1.out 3
    have k4 := cell_blk G1.out 4
    have k5 := cell_blk G1.out 5
    have k6 := cell_blk G1.out 6
    have k7 := cell_blk G1.out 7
    have k8 := cell_blk G1.out 8
    have l1 := lt_blk G1.out
    go_wp2_with fail
    refine (HS1.out _ (Nat.le_trans hB HB3.out.size) (HT.out.on HB3.out hB)).mono ?_
    rintro e w4 ⟨rfl, hb4⟩
    have X4 := hide (heap1 w4 (vecO d))
    have G1 := hide (below_blk (hb4.trans (X4.out.2.2.mono hb4.size)) G1.out (lt_blk G1.out))
    have G2 := hide (below_blk (hb4.trans (X4.out.2.2.mono hb4.size)) G2.out (lt_blk G2.out))
    have G3 := hide X4.out.1
    have HB4 := hide (HB3.out.trans ((hb4.trans (X4.out.2.2.mono hb4.size)).mono HB3.out.size))
    clear hb4 k3 k4 k5 k6 k7 k8 l1
    have k3 := cell_blk G1.out 3
    have k4 := cell_blk G1.out 4
    have k5 := cell_blk G1.out 5
    have c0 := cell_blk G2.out 0
    have c1 := cell_blk G2.out 1
    have c2 := cell_blk G2.out 2
    have l1 := lt_blk G1.out
    have l2 := lt_blk G2.out
    go_wp2_with fail
    refine (HS2.out _ (Nat.le_trans hB HB4.out.size) (HT.out.on HB4.out hB)).mono ?_
    rintro e w5 ⟨rfl, hb5⟩
    have X5 := hide (heap1 w5 (vecO t))
    have G1 := hide (below_blk (hb5.trans (X5.out.2.2.mono hb5.size)) G1.out (lt_blk G1.out))
    have G2 := hide (below_blk (hb5.trans (X5.out.2.2.mono hb5.size)) G2.out (lt_blk G2.out))
    have G3 := hide (below_blk (hb5.trans (X5.out.2.2.mono hb5.size)) G3.out (lt_blk G3.out))
    have HB5 := hide (HB4.out.trans ((hb5.trans (X5.out.2.2.mono hb5.size)).mono HB4.out.size))
    clear hb5 k3 k4 k5 c0 c1 c2 l1 l2
    have c0 := cell_blk G3.out 0
    have c1 := cell_blk G3.out 1
    have c2 := cell_blk G3.out 2
    have l2 := lt_blk G3.out
    go_wp2_with fail
    refine (HP.out _ (Nat.le_trans hB HB5.out.size) (HT.out.on HB5.out hB)).mono ?_
    rintro e w6 ⟨rfl, hb6⟩
    have G1 := hide (below_blk hb6 G1.out (lt_blk G1.out))
    have G2 := hide (below_blk hb6 G2.out (lt_blk G2.out))
    have HB6 := hide (HB5.out.trans (hb6.mono HB5.out.size))
    clear hb6 c0 c1 c2 l2 G3
    go_wp2_with fail
    refine bodyPost_ret (results_tmp2 rfl _ _ _) rfl ?_
    exact ⟨rfl, HB6.out⟩
  rcases hway with ⟨rfl, rfl, rfl⟩ | ⟨rfl, hx, rfl, rfl⟩ | ⟨rfl, hx, hy, hxy⟩
  all_goals
    go_enter Tryz.func31, Tryz.ntmps31
    go_wp2_with fail
    refine (HC.out _ (Nat.le_trans hB X0.out.2.2.2.size) (HT.out.on X0.out.2.2.2 hB)).mono ?_
    rintro e w1 ⟨rfl, hb1⟩
    have G1 := hide (below_blk hb1 X0.out.1 (lt_blk X0.out.1))
    have G2 := hide (below_blk hb1 X0.out.2.1 (lt_blk X0.out.2.1))
    have HB1 := hide (X0.out.2.2.2.trans (hb1.mono X0.out.2.2.2.size))
    clear hb1
    have c0 := cell_blk G2.out 0
    have c1 := cell_blk G2.out 1
    have c2 := cell_blk G2.out 2
    have l2 := lt_blk G2.out
    go_wp2_with fail
    refine (HQ.out _ (Nat.le_trans hB HB1.out.size) (HT.out.on HB1.out hB)).mono ?_
    rintro e w2 ⟨rfl, hb2⟩
    have G1 := hide (below_blk hb2 G1.out (lt_blk G1.out))
    have G2 := hide (below_blk hb2 G2.out (lt_blk G2.out))
    have HB2 := hide (HB1.out.trans (hb2.mono HB1.out.size))
    clear hb2 c0 c1 c2 l2
    have c0 := cell_blk G2.out 0
    have c1 := cell_blk G2.out 1
    have c2 := cell_blk G2.out 2
    have l2 := lt_blk G2.out
    go_wp2_with fail
    refine (HL.out _ (Nat.le_trans hB HB2.out.size) (HT.out.on HB2.out hB)).mono ?_
    rintro e w3 ⟨rfl, hb3⟩
    have G1 := hide (below_blk hb3 G1.out (lt_blk G1.out))
    have G2 := hide (below_blk hb3 G2.out (lt_blk G2.out))
    have HB3 := hide (HB2.out.trans (hb3.mono HB2.out.size))
    clear hb3 c0 c1 c2 l2
    have k3 := cell_blk G1.out 3
    have k4 := cell_blk G1.out 4
    have k5 := cell_blk G1.out 5
    have k6 := cell_blk G1.out 6
    have k7 := cell_blk G1.out 7
    have k8 := cell_blk G1.out 8
    have l1 := lt_blk G1.out
    go_wp2_with fail
    refine (HS1.out _ (Nat.le_trans hB HB3.out.size) (HT.out.on HB3.out hB)).mono ?_
    rintro e w4 ⟨rfl, hb4⟩
    have X4 := hide (heap1 w4 (vecO d))
    have G1 := hide (below_blk (hb4.trans (X4.out.2.2.mono hb4.size)) G1.out (lt_blk G1.out))
    have G2 := hide (below_blk (hb4.trans (X4.out.2.2.mono hb4.size)) G2.out (lt_blk G2.out))
    have G3 := hide X4.out.1
    have HB4 := hide (HB3.out.trans ((hb4.trans (X4.out.2.2.mono hb4.size)).mono HB3.out.size))
    clear hb4 k3 k4 k5 k6 k7 k8 l1
    have k3 := cell_blk G1.out 3
    have k4 := cell_blk G1.out 4
    have k5 := cell_blk G1.out 5
    have c0 := cell_blk G2.out 0
    have c1 := cell_blk G2.out 1
    have c2 := cell_blk G2.out 2
    have l1 := lt_blk G1.out
    have l2 := lt_blk G2.out
    go_wp2_with fail
    refine (HS2.out _ (Nat.le_trans hB HB4.out.size) (HT.out.on HB4.out hB)).mono ?_
    rintro e w5 ⟨rfl, hb5⟩
    have X5 := hide (heap1 w5 (vecO t))
    have G1 := hide (below_blk (hb5.trans (X5.out.2.2.mono hb5.size)) G1.out (lt_blk G1.out))
    have G2 := hide (below_blk (hb5.trans (X5.out.2.2.mono hb5.size)) G2.out (lt_blk G2.out))
    have G3 := hide (below_blk (hb5.trans (X5.out.2.2.mono hb5.size)) G3.out (lt_blk G3.out))
    have HB5 := hide (HB4.out.trans ((hb5.trans (X5.out.2.2.mono hb5.size)).mono HB4.out.size))
    clear hb5 k3 k4 k5 c0 c1 c2 l1 l2
    have c0 := cell_blk G3.out 0
    have c1 := cell_blk G3.out 1
    have c2 := cell_blk G3.out 2
    have l2 := lt_blk G3.out
    go_wp2_with fail
    refine (HP.out _ (Nat.le_trans hB HB5.out.size) (HT.out.on HB5.out hB)).mono ?_
    rintro e w6 ⟨rfl, hb6⟩
    have G1 := hide (below_blk hb6 G1.out (lt_blk G1.out))
    have G2 := hide (below_blk hb6 G2.out (lt_blk G2.out))
    have HB6 := hide (HB5.out.trans (hb6.mono HB5.out.size))
    clear hb6 c0 c1 c2 l2 G3
    have k3 := cell_blk G1.out 3
    have k4 := cell_blk G1.out 4
    have k5 := cell_blk G1.out 5
    have c0 := cell_blk G2.out 0
    have c1 := cell_blk G2.out 1
    have c2 := cell_blk G2.out 2
    have l1 := lt_blk G1.out
    have l2 := lt_blk G2.out
    go_wp2_with fail
    refine (HC1.out _ (Nat.le_trans hB HB6.out.size) (HT.out.on HB6.out hB)).mono ?_
    rintro e w7 ⟨rfl, hb7⟩
    have G1 := hide (below_blk hb7 G1.out (lt_blk G1.out))
    have G2 := hide (below_blk hb7 G2.out (lt_blk G2.out))
    have HB7 := hide (HB6.out.trans (hb7.mono HB6.out.size))
    clear hb7 k3 k4 k5 c0 c1 c2 l1 l2
    have k6 := cell_blk G1.out 6
    have k7 := cell_blk G1.out 7
    have k8 := cell_blk G1.out 8
    have c0 := cell_blk G2.out 0
    have c1 := cell_blk G2.out 1
    have c2 := cell_blk G2.out 2
    have l1 := lt_blk G1.out
    have l2 := lt_blk G2.out
    go_wp2_with fail
    refine (HC2.out _ (Nat.le_trans hB HB7.out.size) (HT.out.on HB7.out hB)).mono ?_
    rintro e w8 ⟨rfl, hb8⟩
    have HB8 := hide (HB7.out.trans (hb8.mono HB7.out.size))
    clear hb8 k6 k7 k8 c0 c1 c2 l1 l2
    go_wp2_with fail
    refine bodyPost_ret (results_tmp2 rfl _ _ _) rfl ?_
    exact ⟨rfl, HB8.out⟩
end Go.Proofs.YtklgpilgalfckaaGreatDoor
namespace Go.KI
open Go

def withinP (a b n : Rat) : Prop := (cmpR a n ≤ 0 ∧ cmpR n b ≤ 0) ∨ (0 ≤ cmpR a n ∧ 0 ≤ cmpR n b)
instance (a b n : Rat) : Decidable (withinP a b n) := inferInstanceAs (Decidable (_ ∨ _))
open Go
def shortQ (q : Rat) : Prop := (Lib.decDigits q.num.natAbs).length ≤ 9 ∧ (Lib.decDigits q.den).length ≤ 9
instance (q : Rat) : Decidable (shortQ q) := inferInstanceAs (Decidable (_ ∧ _))
end Go.KI
namespace Go.Proofs.YtklgpilgalfckaaGreatDoor
open Go.RowKit Go.KP Go.KI Go.Shelf
attribute [local go_sem] Oper.semAt_some

open Go.RowKit Go.KP Go.KI Go.Shelf
attribute [local go_sem] Oper.semAt_some

structure MakeOk (n d : Int) : Prop where
  pos : 0 < d
  fn : fits n
  fd : fits d
open Go.RowKit Go.KP Go.KI Go.Shelf
attribute [local go_sem] Oper.semAt_some

theorem set_alloc (w : World) (a b : Obj) : ({ w.alloc a with heap := (w.alloc a).heap.setIfInBounds w.heap.size b } : World) = w.alloc b := by
  have h : (w.alloc a).heap.setIfInBounds w.heap.size b = (w.alloc b).heap := by
    rw [← World.alloc_eq w a, ← World.alloc_eq w b]
    apply Array.ext
    · simp
    · intro i h1 h2
      rw [Array.getElem_setIfInBounds (by simpa using h2)]
      by_cases h : w.heap.size = i
      · subst h
        simp
      · rw [if_neg h]
        simp at h1 h2
        rw [Array.getElem_push_lt (by omega), Array.getElem_push_lt (by omega)]
  show World.mk _ _ _ _ _ = _
  rw [h]
  rfl
abbrev ent (k v : Int) (c : Nat) : MapEntry := { key := .int .i64 k, val := .int .i64 v, born := c }
theorem map_push {w : World} {clock : Nat} {es : Array MapEntry} {k v : Int} (hf : Instr.findNow (.int .i64) (.int .i64 k) es.toList 0 = some none) :
    (Instr.mapUpdate 50 (.map (some w.heap.size)) (.int .i64 k) (.int .i64 v)).run Tryz.prog (w.alloc (.map es clock)) = .ok () (w.alloc (.map (es.push (ent k v clock)) (clock + 1))) := by
  have hm := Tryz.underlying50
  have hk := Tryz.underlying3
  have hb : (w.alloc (.map es clock)).heap[w.heap.size]? = some (.map es clock) := heap_alloc_new w _
  have hc : (Instr.checkKey false 10000 3 (.int .i64 k)).run Tryz.prog (w.alloc (.map es clock)) = .ok () (w.alloc (.map es clock)) := MapKept.run_checkKey (k := .int .i64 k) hk (by simp [MapKept.IsKey]) false 9999
  rw [← set_alloc w (.map es clock) (.map (es.push (ent k v clock)) (clock + 1))]
  simp [Instr.mapUpdate, run_underlying hm, MapKept.run_getObj_map hb, hc, MapKept.run_findKey hk hf, MapKept.run_setObj_map _ hb, Result.andThen]
theorem map_get {w : World} {clock : Nat} {es : Array MapEntry} {k : Int} (v : Value) (ok : Bool) (hne : es.isEmpty = false) (hf : ∃ o, Instr.findNow (.int .i64) (.int .i64 k) es.toList 0 = some o ∧ (match o with | some (_, x) => v = x ∧ ok = true | none => v = .int .i64 0 ∧ ok = false)) :
    (Instr.lookup 50 (.map (some w.heap.size)) (.int .i64 k) true).run Tryz.prog (w.alloc (.map es clock)) = .ok (.tuple #[v, .bool ok]) (w.alloc (.map es clock)) := by
  have hm := Tryz.underlying50
  have hk := Tryz.underlying3
  have hb : (w.alloc (.map es clock)).heap[w.heap.size]? = some (.map es clock) := heap_alloc_new w _
  have hc : (Instr.checkKey false 10000 3 (.int .i64 k)).run Tryz.prog (w.alloc (.map es clock)) = .ok () (w.alloc (.map es clock)) := MapKept.run_checkKey (k := .int .i64 k) hk (by simp [MapKept.IsKey]) false 9999
  obtain ⟨o, h1, h2⟩ := hf
  cases o with
  | none =>
    obtain ⟨rfl, rfl⟩ := h2
    simp [Instr.lookup, run_underlying hm, MapKept.run_getObj_map hb, hne, hc, MapKept.run_findKey hk h1, Result.andThen]
  | some p =>
    obtain ⟨i, x⟩ := p
    obtain ⟨rfl, rfl⟩ := h2
    simp [Instr.lookup, run_underlying hm, MapKept.run_getObj_map hb, hne, hc, MapKept.run_findKey hk h1, Result.andThen]
theorem same_i64 (n m : Int) : Instr.sameNow (.int .i64) (.int .i64 n) (.int .i64 m) = some (n == m) := by simp [Instr.sameNow]
abbrev kinds3 : Array MapEntry := #[ent 1 8 0, ent 2 6 1, ent 3 7 2]
def kindP (n : Int) : Int := if n = 1 then 8 else if n = 2 then 6 else if n = 3 then 7 else 0
theorem hkindOf_any (n : Int) (w : World) :
    Calls Tryz.prog 32 #[.int .i64 n] w (Ret w (.tuple #[.int .i64 (kindP n), .bool (decide (kindP n ≠ 0))])) := by
  have hway : (n = 1 ∧ kindP n = 8) ∨ (n = 2 ∧ kindP n = 6) ∨ (n = 3 ∧ kindP n = 7) ∨ (n ≠ 1 ∧ n ≠ 2 ∧ n ≠ 3 ∧ kindP n = 0) := by
    unfold kindP
    by_cases h1 : n = 1
    · exact .inl ⟨h1, if_pos h1⟩
    · rw [if_neg h1]
      by_cases h2 : n = 2
      · exact .inr (.inl ⟨h2, if_pos h2⟩)
      · rw [if_neg h2]
        by_cases h3 : n = 3
        · exact .inr (.inr (.inl ⟨h3, if_pos h3⟩))
        · exact .inr (.inr (.inr ⟨h1, h2, h3, if_neg h3⟩))
  obtain ⟨V, hV⟩ : ∃ V, V = kindP n := ⟨_, rfl⟩
  rw [← hV] at hway ⊢
  clear hV
  have hlook : (Instr.lookup 50 (.map (some w.heap.size)) (.int .i64 n) true).run Tryz.prog (w.alloc (.map kinds3 3)) = .ok (.tuple #[.int .i64 V, .bool (decide (V ≠ 0))]) (w.alloc (.map kinds3 3)) := by
    refine map_get _ _ rfl ?_
    rcases hway with ⟨rfl, rfl⟩ | ⟨rfl, rfl⟩ | ⟨rfl, rfl⟩ | ⟨h1, h2, h3, rfl⟩
    · exact ⟨some (0, .int .i64 8), by simp [Instr.findNow, same_i64], rfl, rfl⟩
    · exact ⟨some (1, .int .i64 6), by simp [Instr.findNow, same_i64], rfl, rfl⟩
    · exact ⟨some (2, .int .i64 7), by simp [Instr.findNow, same_i64], rfl, rfl⟩
    · have e1 : (n == 1) = false := by simpa using h1
      have e2 : (n == 2) = false := by simpa using h2
      have e3 : (n == 3) = false := by simpa using h3
      exact ⟨none, by simp [Instr.findNow, same_i64, e1, e2, e3], rfl, rfl⟩
  have hmk : (Instr.makeMap 50 none).run Tryz.prog w = .ok (.map (some w.heap.size)) (w.alloc (.map #[] 0)) := rfl
  have hu1 : (Instr.mapUpdate 50 (.map (some w.heap.size)) (.int .i64 1) (.int .i64 8)).run Tryz.prog (w.alloc (.map #[] 0)) = .ok () (w.alloc (.map #[ent 1 8 0] 1)) := map_push (by simp [Instr.findNow])
  have hu2 : (Instr.mapUpdate 50 (.map (some w.heap.size)) (.int .i64 2) (.int .i64 6)).run Tryz.prog (w.alloc (.map #[ent 1 8 0] 1)) = .ok () (w.alloc (.map #[ent 1 8 0, ent 2 6 1] 2)) := map_push (by simp [Instr.findNow, same_i64])
  have hu3 : (Instr.mapUpdate 50 (.map (some w.heap.size)) (.int .i64 3) (.int .i64 7)).run Tryz.prog (w.alloc (.map #[ent 1 8 0, ent 2 6 1] 2)) = .ok () (w.alloc (.map kinds3 3)) := map_push (by simp [Instr.findNow, same_i64])
  obtain ⟨M, hM⟩ : ∃ M, M = w.alloc (.map kinds3 3) := ⟨_, rfl⟩
  have HM := hide (show Below w.heap.size w M by rw [hM]; exact (heap1 w (.map kinds3 3)).2.2)
  rw [← hM] at hlook hu3
  clear hway hM
  obtain ⟨b, hb⟩ : ∃ b, b = decide (V ≠ 0) := ⟨_, rfl⟩
  rw [← hb] at hlook ⊢
  clear hb
  go_enter Tryz.func32, Tryz.ntmps32
  go_wp2_with fail
  refine bodyPost_ret (results_tmp2 rfl _ _ _) rfl ?_
  exact ⟨rfl, HM.out⟩
open Go.RowKit Go.KP Go.KI Go.Shelf
attribute [local go_sem] Oper.semAt_some

abbrev lineV (n : Int) (a b : V3) (l r : Int) : Value := .agg #[.int .i64 n, .string (T a.x), .string (T a.y), .string (T a.z), .string (T b.x), .string (T b.y), .string (T b.z), .int .i64 l, .int .i64 r]
abbrev lineO (n : Int) (a b : V3) (l r : Int) : Obj := .cells #[.int .i64 n, .string (T a.x), .string (T a.y), .string (T a.z), .string (T b.x), .string (T b.y), .string (T b.z), .int .i64 l, .int .i64 r] 30
abbrev mem0V : Value := .agg #[.int .i64 0, .int .i64 0, .int .i64 0, .string ⟨#[]⟩, .string ⟨#[]⟩, .string ⟨#[]⟩, .string ⟨#[]⟩, .string ⟨#[]⟩, .string ⟨#[]⟩, .int .i64 0, .int .i64 0]
abbrev mem0 : Obj := .cells #[.int .i64 0, .int .i64 0, .int .i64 0, .string ⟨#[]⟩, .string ⟨#[]⟩, .string ⟨#[]⟩, .string ⟨#[]⟩, .string ⟨#[]⟩, .string ⟨#[]⟩, .int .i64 0, .int .i64 0] 32
theorem set_at {w : World} {b i : Nat} {cs : Array Value} {t : TypeId} {v : Value} (h : w.heap[b]? = some (.cells cs t (0, 0))) : (w.setCell ⟨b, i, none⟩ v).heap[b]? = some (.cells (cs.setIfInBounds i v) t (0, 0)) := by
  simp only [World.setCell, Array.getElem?_modify, h]
  simp
def put11 (w : World) (b : Nat) (v0 v1 v2 v3 v4 v5 v6 v7 v8 v9 v10 : Value) : World := ((((((((((w.setCell ⟨b, 0, none⟩ v0).setCell ⟨b, 1, none⟩ v1).setCell ⟨b, 2, none⟩ v2).setCell ⟨b, 3, none⟩ v3).setCell ⟨b, 4, none⟩ v4).setCell ⟨b, 5, none⟩ v5).setCell ⟨b, 6, none⟩ v6).setCell ⟨b, 7, none⟩ v7).setCell ⟨b, 8, none⟩ v8).setCell ⟨b, 9, none⟩ v9).setCell ⟨b, 10, none⟩ v10
theorem put11_at {w : World} {b : Nat} {u0 u1 u2 u3 u4 u5 u6 u7 u8 u9 u10 : Value} {t : TypeId} (h : w.heap[b]? = some (.cells #[u0, u1, u2, u3, u4, u5, u6, u7, u8, u9, u10] t (0, 0))) (v0 v1 v2 v3 v4 v5 v6 v7 v8 v9 v10 : Value) :
    (put11 w b v0 v1 v2 v3 v4 v5 v6 v7 v8 v9 v10).heap[b]? = some (.cells #[v0, v1, v2, v3, v4, v5, v6, v7, v8, v9, v10] t (0, 0)) := by
  have s0 := set_at (i := 0) (v := v0) h
  rw [show (#[u0, u1, u2, u3, u4, u5, u6, u7, u8, u9, u10] : Array Value).setIfInBounds 0 v0 = #[v0, u1, u2, u3, u4, u5, u6, u7, u8, u9, u10] from rfl] at s0
  have s1 := set_at (i := 1) (v := v1) s0
  rw [show (#[v0, u1, u2, u3, u4, u5, u6, u7, u8, u9, u10] : Array Value).setIfInBounds 1 v1 = #[v0, v1, u2, u3, u4, u5, u6, u7, u8, u9, u10] from rfl] at s1
  have s2 := set_at (i := 2) (v := v2) s1
  rw [show (#[v0, v1, u2, u3, u4, u5, u6, u7, u8, u9, u10] : Array Value).setIfInBounds 2 v2 = #[v0, v1, v2, u3, u4, u5, u6, u7, u8, u9, u10] from rfl] at s2
  have s3 := set_at (i := 3) (v := v3) s2
  rw [show (#[v0, v1, v2, u3, u4, u5, u6, u7, u8, u9, u10] : Array Value).setIfInBounds 3 v3 = #[v0, v1, v2, v3, u4, u5, u6, u7, u8, u9, u10] from rfl] at s3
  have s4 := set_at (i := 4) (v := v4) s3
  rw [show (#[v0, v1, v2, v3, u4, u5, u6, u7, u8, u9, u10] : Array Value).setIfInBounds 4 v4 = #[v0, v1, v2, v3, v4, u5, u6, u7, u8, u9, u10] from rfl] at s4
  have s5 := set_at (i := 5) (v := v5) s4
  rw [show (#[v0, v1, v2, v3, v4, u5, u6, u7, u8, u9, u10] : Array Value).setIfInBounds 5 v5 = #[v0, v1, v2, v3, v4, v5, u6, u7, u8, u9, u10] from rfl] at s5
  have s6 := set_at (i := 6) (v := v6) s5
  rw [show (#[v0, v1, v2, v3, v4, v5, u6, u7, u8, u9, u10] : Array Value).setIfInBounds 6 v6 = #[v0, v1, v2, v3, v4, v5, v6, u7, u8, u9, u10] from rfl] at s6
  have s7 := set_at (i := 7) (v := v7) s6
  rw [show (#[v0, v1, v2, v3, v4, v5, v6, u7, u8, u9, u10] : Array Value).setIfInBounds 7 v7 = #[v0, v1, v2, v3, v4, v5, v6, v7, u8, u9, u10] from rfl] at s7
  have s8 := set_at (i := 8) (v := v8) s7
  rw [show (#[v0, v1, v2, v3, v4, v5, v6, v7, u8, u9, u10] : Array Value).setIfInBounds 8 v8 = #[v0, v1, v2, v3, v4, v5, v6, v7, v8, u9, u10] from rfl] at s8
  have s9 := set_at (i := 9) (v := v9) s8
  rw [show (#[v0, v1, v2, v3, v4, v5, v6, v7, v8, u9, u10] : Array Value).setIfInBounds 9 v9 = #[v0, v1, v2, v3, v4, v5, v6, v7, v8, v9, u10] from rfl] at s9
  have s10 := set_at (i := 10) (v := v10) s9
  rw [show (#[v0, v1, v2, v3, v4, v5, v6, v7, v8, v9, u10] : Array Value).setIfInBounds 10 v10 = #[v0, v1, v2, v3, v4, v5, v6, v7, v8, v9, v10] from rfl] at s10
  exact s10
theorem put11_below {n b : Nat} {w w1 : World} (h : Below n w w1) (hb : n ≤ b) (v0 v1 v2 v3 v4 v5 v6 v7 v8 v9 v10 : Value) : Below n w (put11 w1 b v0 v1 v2 v3 v4 v5 v6 v7 v8 v9 v10) :=
  ((((((((((h.setCell (p := ⟨b, 0, none⟩) hb v0).setCell (p := ⟨b, 1, none⟩) hb v1).setCell (p := ⟨b, 2, none⟩) hb v2).setCell (p := ⟨b, 3, none⟩) hb v3).setCell (p := ⟨b, 4, none⟩) hb v4).setCell (p := ⟨b, 5, none⟩) hb v5).setCell (p := ⟨b, 6, none⟩) hb v6).setCell (p := ⟨b, 7, none⟩) hb v7).setCell (p := ⟨b, 8, none⟩) hb v8).setCell (p := ⟨b, 9, none⟩) hb v9).setCell (p := ⟨b, 10, none⟩) hb v10
theorem exit_mem {f : Func} {R : Ending → World → Prop} {a : Act} {W : World} {b : Nat} {t : Tmp} {v0 v1 v2 v9 v10 : Int} {v3 v4 v5 v6 v7 v8 : ByteArray} (hf : f.results = #[.cell t 32]) (hb : W.heap[b]? = some (.cells #[.int .i64 v0, .int .i64 v1, .int .i64 v2, .string v3, .string v4, .string v5, .string v6, .string v7, .string v8, .int .i64 v9, .int .i64 v10] 32 (0, 0))) (h2 : a.tmps[t]? = some (.pointer (some ⟨b, 0, none⟩))) (hd : a.defers = []) (hR : R (.returned (.agg #[.int .i64 v0, .int .i64 v1, .int .i64 v2, .string v3, .string v4, .string v5, .string v6, .string v7, .string v8, .int .i64 v9, .int .i64 v10])) W) :
    bodyPost Tryz.prog f R .ret a W := by
  have hcell := fun o => cell_blk hb o
  refine bodyPost_ret ?_ hd hR
  simp [results, hf, go_sem, hcell, h2]
theorem exit_memE {f : Func} {R : Ending → World → Prop} {a : Act} {W : World} {b : Nat} {t u : Tmp} {v0 v1 v2 v9 v10 : Int} {v3 v4 v5 v6 v7 v8 : ByteArray} {v : Value} (hf : f.results = #[.cell t 32, .tmp u]) (hb : W.heap[b]? = some (.cells #[.int .i64 v0, .int .i64 v1, .int .i64 v2, .string v3, .string v4, .string v5, .string v6, .string v7, .string v8, .int .i64 v9, .int .i64 v10] 32 (0, 0))) (h2 : a.tmps[t]? = some (.pointer (some ⟨b, 0, none⟩))) (h3 : a.tmps[u]? = some v) (hd : a.defers = []) (hR : R (.returned (.tuple #[.agg #[.int .i64 v0, .int .i64 v1, .int .i64 v2, .string v3, .string v4, .string v5, .string v6, .string v7, .string v8, .int .i64 v9, .int .i64 v10], v])) W) :
    bodyPost Tryz.prog f R .ret a W := by
  have hcell := fun o => cell_blk hb o
  refine bodyPost_ret ?_ hd hR
  simp [results, hf, go_sem, hcell, h2, h3]
theorem hOf_to {n l r : Int} {a b : V3} {wd dp : Int} (hk : kindP n ≠ 0) (h : Mem (kindP n) l r a b wd dp) (B : Nat) (w : World) (hB : B ≤ w.heap.size) (hT : PQ B w) :
    Calls Tryz.prog 8 #[lineV n a b l r, .int .i64 wd, .int .i64 dp] w (Ret w (.tuple #[memV (kindP n) l r a b wd dp, .int .i64 0])) := by
  have HT := hide hT
  have HK := hide (fun w => hkindOf_any n w)
  rw [decide_eq_true hk] at HK
  have HC := hide (fun w hB hT => hCheck_ok h B w hB hT)
  obtain ⟨k, hkk⟩ : ∃ k, k = kindP n := ⟨_, rfl⟩
  rw [← hkk] at HK HC ⊢
  have X0 := hide (heap2 w (lineO n a b l r) mem0)
  clear hkk hk h hT
  go_enter Tryz.func8, Tryz.ntmps8
  go_wp2_with fail
  refine (HK.out _).mono ?_
  rintro e w1 ⟨rfl, hb1⟩
  have G1 := hide (below_blk hb1 X0.out.1 (lt_blk X0.out.1))
  have G2 := hide (below_blk hb1 X0.out.2.1 (lt_blk X0.out.2.1))
  have HB1 := hide (X0.out.2.2.2.trans (hb1.mono X0.out.2.2.2.size))
  clear hb1
  have k1 := cell_blk G1.out 1
  have k2 := cell_blk G1.out 2
  have k3 := cell_blk G1.out 3
  have k4 := cell_blk G1.out 4
  have k5 := cell_blk G1.out 5
  have k6 := cell_blk G1.out 6
  have k7 := cell_blk G1.out 7
  have k8 := cell_blk G1.out 8
  have l1 := lt_blk G1.out
  go_wp2_with fail
  have X1 := hide (heap1 w1 (memO k l r a b wd dp))
  have HB2 := hide (HB1.out.trans (X1.out.2.2.mono HB1.out.size))
  refine (HC.out _ (Nat.le_trans hB HB2.out.size) (HT.out.on HB2.out hB)).mono ?_
  rintro e w3 ⟨rfl, hb3⟩
  have G3 := hide (below_blk hb3 X1.out.1 (lt_blk X1.out.1))
  have G4 := hide (below_blk hb3 (below_blk X1.out.2.2 G2.out (lt_blk G2.out)) (Nat.lt_of_lt_of_le (lt_blk G2.out) X1.out.2.2.size))
  have HB3 := hide (HB2.out.trans (hb3.mono HB2.out.size))
  clear hb3 k1 k2 k3 k4 k5 k6 k7 k8 l1 G1 G2
  have c := fun o => cell_blk G3.out o
  have l3 := lt_blk G3.out
  have d := fun o => cell_blk G4.out o
  have f := fun o => froz_blk G4.out o
  have l4 := lt_blk G4.out
  go_wp2_with fail
  exact exit_memE rfl (put11_at G4.out _ _ _ _ _ _ _ _ _ _ _) rfl rfl rfl ⟨rfl, put11_below HB3.out (show w.heap.size ≤ w.heap.size + 1 by omega) _ _ _ _ _ _ _ _ _ _ _⟩
open Go.RowKit Go.KP Go.KI Go.Shelf
attribute [local go_sem] Oper.semAt_some

structure Ln where
  k : Int
  a : S3
  b : S3
  l : Int
  r : Int
abbrev lnCs (L : Ln) : List Value := [.int .i64 L.k, .string L.a.x, .string L.a.y, .string L.a.z, .string L.b.x, .string L.b.y, .string L.b.z, .int .i64 L.l, .int .i64 L.r]
abbrev lnV (L : Ln) : Value := .agg #[.int .i64 L.k, .string L.a.x, .string L.a.y, .string L.a.z, .string L.b.x, .string L.b.y, .string L.b.z, .int .i64 L.l, .int .i64 L.r]
abbrev lnO (L : Ln) : Obj := .cells #[.int .i64 L.k, .string L.a.x, .string L.a.y, .string L.a.z, .string L.b.x, .string L.b.y, .string L.b.z, .int .i64 L.l, .int .i64 L.r] 30
def tinyL (L : Ln) : Prop := tiny3 L.a ∧ tiny3 L.b
def ofE (L : Ln) (wd dp : Int) : Int := if kindP L.k = 0 then 8 else memE (kindP L.k) L.l L.r L.a L.b wd dp
def ofV (L : Ln) (wd dp : Int) : Value := if ofE L wd dp = 0 then memTV (kindP L.k) L.l L.r L.a L.b wd dp else mem0V
theorem of_ways (L : Ln) (wd dp : Int) : (kindP L.k = 0 ∧ ofE L wd dp = 8 ∧ ofV L wd dp = mem0V) ∨
    (kindP L.k ≠ 0 ∧ ofE L wd dp = memE (kindP L.k) L.l L.r L.a L.b wd dp ∧ ((memE (kindP L.k) L.l L.r L.a L.b wd dp ≠ 0 ∧ ofV L wd dp = mem0V) ∨
      (memE (kindP L.k) L.l L.r L.a L.b wd dp = 0 ∧ ofV L wd dp = memTV (kindP L.k) L.l L.r L.a L.b wd dp))) := by
  unfold ofV ofE
  by_cases h : kindP L.k = 0
  · rw [if_pos h]
    exact .inl ⟨h, rfl, if_neg (by decide)⟩
  · rw [if_neg h]
    by_cases h2 : memE (kindP L.k) L.l L.r L.a L.b wd dp = 0
    · exact .inr ⟨h, rfl, .inr ⟨h2, if_pos h2⟩⟩
    · exact .inr ⟨h, rfl, .inl ⟨h2, if_neg h2⟩⟩
theorem hOf_any (L : Ln) (wd dp : Int) (h : tinyL L) (B : Nat) (w : World) (hB : B ≤ w.heap.size) (hT : PQ B w) :
    Calls Tryz.prog 8 #[lnV L, .int .i64 wd, .int .i64 dp] w (Ret w (.tuple #[ofV L wd dp, .int .i64 (ofE L wd dp)])) := by
  have HT := hide hT
  have HK := hide (fun w => hkindOf_any L.k w)
  have HC := hide (fun w hB hT => hCheck_any (kindP L.k) L.l L.r L.a L.b wd dp h.1 h.2 B w hB hT)
  have hw := of_ways L wd dp
  obtain ⟨E, hE⟩ : ∃ E, E = ofE L wd dp := ⟨_, rfl⟩
  obtain ⟨V, hV⟩ : ∃ V, V = ofV L wd dp := ⟨_, rfl⟩
  obtain ⟨k, hkk⟩ : ∃ k, k = kindP L.k := ⟨_, rfl⟩
  rw [← hE, ← hV, ← hkk] at hw
  rw [← hkk] at HK HC
  rw [← hE, ← hV]
  obtain ⟨c, hc⟩ : ∃ c, c = memE k L.l L.r L.a L.b wd dp := ⟨_, rfl⟩
  rw [← hc] at HC hw
  have X0 := hide (heap2 w (lnO L) mem0)
  clear hE hV hkk hc h hT
  rcases hw with ⟨rfl, rfl, rfl⟩ | ⟨hk, rfl, hw⟩
  · go_enter Tryz.func8, Tryz.ntmps8
    go_wp2_with fail
    refine (HK.out _).mono ?_
    rintro e w1 ⟨rfl, hb1⟩
    have G2 := hide (below_blk hb1 X0.out.2.1 (lt_blk X0.out.2.1))
    have HB1 := hide (X0.out.2.2.2.trans (hb1.mono X0.out.2.2.2.size))
    clear hb1
    have d := fun o => cell_blk G2.out o
    have f := fun o => froz_blk G2.out o
    have l4 := lt_blk G2.out
    go_wp2_with fail
    exact exit_memE rfl (put11_at G2.out _ _ _ _ _ _ _ _ _ _ _) rfl rfl rfl ⟨rfl, put11_below HB1.out (show w.heap.size ≤ w.heap.size + 1 by omega) _ _ _ _ _ _ _ _ _ _ _⟩
  · have HK := hide (fun w => decide_eq_true hk ▸ HK.out w)
    rcases hw with ⟨hc, rfl⟩ | ⟨rfl, rfl⟩
    all_goals
      go_enter Tryz.func8, Tryz.ntmps8
      go_wp2_with fail
      refine (HK.out _).mono ?_
      rintro e w1 ⟨rfl, hb1⟩
      have G1 := hide (below_blk hb1 X0.out.1 (lt_blk X0.out.1))
      have G2 := hide (below_blk hb1 X0.out.2.1 (lt_blk X0.out.2.1))
      have HB1 := hide (X0.out.2.2.2.trans (hb1.mono X0.out.2.2.2.size))
      clear hb1
      have k1 := cell_blk G1.out 1
      have k2 := cell_blk G1.out 2
      have k3 := cell_blk G1.out 3
      have k4 := cell_blk G1.out 4
      have k5 := cell_blk G1.out 5
      have k6 := cell_blk G1.out 6
      have k7 := cell_blk G1.out 7
      have k8 := cell_blk G1.out 8
      have l1 := lt_blk G1.out
      go_wp2_with fail
      have X1 := hide (heap1 w1 (memTO k L.l L.r L.a L.b wd dp))
      have HB2 := hide (HB1.out.trans (X1.out.2.2.mono HB1.out.size))
      refine (HC.out _ (Nat.le_trans hB HB2.out.size) (HT.out.on HB2.out hB)).mono ?_
      rintro e w3 ⟨rfl, hb3⟩
      have G3 := hide (below_blk hb3 X1.out.1 (lt_blk X1.out.1))
      have G4 := hide (below_blk hb3 (below_blk X1.out.2.2 G2.out (lt_blk G2.out)) (Nat.lt_of_lt_of_le (lt_blk G2.out) X1.out.2.2.size))
      have HB3 := hide (HB2.out.trans (hb3.mono HB2.out.size))
      clear hb3 k1 k2 k3 k4 k5 k6 k7 k8 l1 G1 G2
      have c := fun o => cell_blk G3.out o
      have l3 := lt_blk G3.out
      have d := fun o => cell_blk G4.out o
      have f := fun o => froz_blk G4.out o
      have l4 := lt_blk G4.out
      go_wp2_with fail
      exact exit_memE rfl (put11_at G4.out _ _ _ _ _ _ _ _ _ _ _) rfl rfl rfl ⟨rfl, put11_below HB3.out (show w.heap.size ≤ w.heap.size + 1 by omega) _ _ _ _ _ _ _ _ _ _ _⟩
end Go.Proofs.YtklgpilgalfckaaGreatDoor
namespace Go.KI
open Go

abbrev Sz3 := Int × Int × Int
def pickS (S : List Sz3) (k : Int) : Option (Int × Int) := if k = 0 then none else (S.find? (fun s => s.1 = k)).map (·.2)
def sizeOK (s : Sz3) : Bool := decide (1 ≤ s.1 ∧ s.1 ≤ 12) && decide (1 ≤ s.2.1 ∧ s.2.1 ≤ 1000) && decide (1 ≤ s.2.2 ∧ s.2.2 ≤ 1000)
def validFrom : List Sz3 → List Sz3 → Bool
  | _, [] => true
  | P, s :: r => sizeOK s && !(P.any (fun x => x.1 = s.1)) && validFrom (P ++ [s]) r
def validS (S : List Sz3) : Bool := validFrom [] S
theorem validFrom_false {P R : List Sz3} {s : Sz3} (h : sizeOK s = false ∨ P.any (fun x => x.1 = s.1) = true) : validFrom P (s :: R) = false := by
  unfold validFrom
  rcases h with h | h <;> rw [h] <;> simp
theorem validFrom_true {P R : List Sz3} {s : Sz3} (h1 : sizeOK s = true) (h2 : P.any (fun x => x.1 = s.1) = false) : validFrom P (s :: R) = validFrom (P ++ [s]) R := by
  conv => lhs; unfold validFrom
  rw [h1, h2]
  rfl
def once (S : List Sz3) : Prop := S.Pairwise (fun a b => a.1 ≠ b.1)
section
variable {L M : Type} (pk : L → Option (Int × Int)) (er : L → Int × Int → Int) (mk : L → Int × Int → M)
def errA : List L → Int
  | [] => 0
  | l :: r => match pk l with
    | none => errA r
    | some s => if er l s ≠ 0 then er l s else errA r
def outA : List L → List M
  | [] => []
  | l :: r => match pk l with
    | none => outA r
    | some s => mk l s :: outA r
theorem outA_cons (x : L) (r : List L) : outA pk mk (x :: r) = match pk x with
    | none => outA pk mk r
    | some s => mk x s :: outA pk mk r := rfl
theorem errA_cons (x : L) (r : List L) : errA pk er (x :: r) = match pk x with
    | none => errA pk er r
    | some s => if er x s ≠ 0 then er x s else errA pk er r := rfl
theorem outA_append (a b : List L) : outA pk mk (a ++ b) = outA pk mk a ++ outA pk mk b := by
  induction a with
  | nil => rfl
  | cons x r ih =>
    rw [List.cons_append, outA_cons, outA_cons]
    cases pk x with
    | none => exact ih
    | some s =>
      show mk x s :: outA pk mk (r ++ b) = mk x s :: outA pk mk r ++ outA pk mk b
      rw [ih]
      rfl
theorem outA_none {l : L} (h : pk l = none) : outA pk mk [l] = [] := by
  unfold outA
  rw [h]
  rfl
theorem outA_some {l : L} {s : Int × Int} (h : pk l = some s) : outA pk mk [l] = [mk l s] := by
  unfold outA
  rw [h]
  rfl
theorem outA_le (l : List L) : (outA pk mk l).length ≤ l.length := by
  induction l with
  | nil => exact Nat.le_refl _
  | cons x r ih =>
    unfold outA
    split
    · rw [List.length_cons]; omega
    · rw [List.length_cons, List.length_cons]; omega
theorem outA_mem {l : List L} {m : M} (h : m ∈ outA pk mk l) : ∃ x s, x ∈ l ∧ pk x = some s ∧ m = mk x s := by
  induction l with
  | nil => cases h
  | cons x r ih =>
    unfold outA at h
    split at h
    · obtain ⟨y, s, h1, h2, h3⟩ := ih h
      exact ⟨y, s, by simp [h1], h2, h3⟩
    · next s hs =>
      rcases List.mem_cons.1 h with e | e
      · exact ⟨x, s, by simp, hs, e⟩
      · obtain ⟨y, t, h1, h2, h3⟩ := ih e
        exact ⟨y, t, by simp [h1], h2, h3⟩
end
end Go.KI
namespace Go.Proofs.YtklgpilgalfckaaGreatDoor
open Go.RowKit Go.KP Go.KI Go.Shelf
attribute [local go_sem] Oper.semAt_some

def idxF {α : Type} (p : α → Bool) : Nat → List α → Int
  | _, [] => -1
  | k, x :: r => if p x then (k : Int) else idxF p (k + 1) r
theorem idxF_any {α : Type} (p : α → Bool) : ∀ (l : List α) (k : Nat), decide (0 ≤ idxF p k l) = l.any p := by
  intro l
  induction l with
  | nil => intro k; rfl
  | cons x r ih =>
    intro k
    unfold idxF
    cases h : p x
    · simp [ih, h]
    · simp [h]
def AnswersZ (g : Nat) (lb : Array Value) (p : Sz3 → Bool) (w : World) : Prop :=
  (∀ args W, (callFunc g args).run Tryz.prog W = .ok (.enter g args) W) ∧
  ∀ (x : Sz3) W, Below w.heap.size w W → Calls Tryz.prog g (#[.agg #[.int .i64 x.1, .int .i64 x.2.1, .int .i64 x.2.2]] ++ lb) W (Ret W (.bool (p x)))
abbrev zAt (S : List Sz3) (k : Nat) : Sz3 := S.getD k (0, 0, 0)
def SizesAt (w : World) (A : Option Addr) (S : List Sz3) : Prop := ∀ k, k < S.length → ∃ b o, A = some ⟨b, o, none⟩ ∧ b < w.heap.size ∧ w.cell? ⟨b, o + k * 3, none⟩ = some (.int .i64 (zAt S k).1) ∧ w.cell? ⟨b, o + k * 3 + 1, none⟩ = some (.int .i64 (zAt S k).2.1) ∧ w.cell? ⟨b, o + k * 3 + 2, none⟩ = some (.int .i64 (zAt S k).2.2)
theorem SizesAt.on {w w2 : World} {A : Option Addr} {S : List Sz3} (h : SizesAt w A S) (hb : Below w.heap.size w w2) : SizesAt w2 A S := by
  intro k hk
  obtain ⟨b, o, h1, h2, h3, h4, h5⟩ := h k hk
  exact ⟨b, o, h1, Nat.lt_of_lt_of_le h2 hb.size, (hb.cell (p := ⟨b, o + k * 3, none⟩) h2).trans h3, (hb.cell (p := ⟨b, o + k * 3 + 1, none⟩) h2).trans h4, (hb.cell (p := ⟨b, o + k * 3 + 2, none⟩) h2).trans h5⟩
theorem SizesAt.take {w : World} {A : Option Addr} {S : List Sz3} (h : SizesAt w A S) (n : Nat) : SizesAt w A (S.take n) := by
  intro k hk
  rw [List.length_take] at hk
  have e : zAt (S.take n) k = zAt S k := by
    simp only [zAt, List.getD_eq_getElem?_getD]
    rw [List.getElem?_take_of_lt (by omega)]
  rw [e]
  exact h k (by omega)
theorem zIndex_any (g : Nat) (lb : Array Value) (p : Sz3 → Bool) (A : Option Addr) (n c : Nat) (S : List Sz3) (w : World) (hn : S.length = n) (hmax : n ≤ 1000000) (hc : SizesAt w A S) (hf : AnswersZ g lb p w) :
    Calls Tryz.prog 73 #[.slice A n c, .func (.func g) #[] lb] w (Ret w (.int .i64 (idxF p 0 S))) := by
  obtain ⟨eg, hp⟩ := hf
  have HC := hide hc; have HP := hide hp; have HN := hide hn
  have HI := hide (show idxF p 0 S = idxF p 0 (S.drop 0) from rfl)
  obtain ⟨V, hV⟩ : ∃ V, V = idxF p 0 S := ⟨_, rfl⟩
  rw [← hV] at HI ⊢
  clear hc hp hn hV
  go_enter Tryz.func73, Tryz.ntmps73
  go_wp2_with fail
  go_loopw [8] (fun i wr => ∃ k : Nat, k ≤ n ∧ i = .int .i64 k ∧ Below w.heap.size w wr ∧ Hid (V = idxF p k (S.drop k))) (fun i _ => n - (intOf i).toNat)
  case atStart => exact ⟨0, Nat.zero_le _, rfl, Below.refl _ _, HI⟩
  case round =>
    obtain ⟨k, hk, rfl, hb, hinv⟩ := hrel
    by_cases hlt : k < n
    · obtain ⟨b, o, rfl, hbl, hc1, hc2, hc3⟩ := HC.out k (by rw [HN.out]; exact hlt)
      have r1 := (hb.cell (p := ⟨b, o + k * 3, none⟩) hbl).trans hc1
      have r2 := (hb.cell (p := ⟨b, o + k * 3 + 1, none⟩) hbl).trans hc2
      have r3 := (hb.cell (p := ⟨b, o + k * 3 + 2, none⟩) hbl).trans hc3
      have hst : idxF p k (S.drop k) = if p (zAt S k) then (k : Int) else idxF p (k + 1) (S.drop (k + 1)) := by
        have hl : k < S.length := by rw [HN.out]; exact hlt
        rw [List.drop_eq_getElem_cons hl]
        simp [idxF, zAt, hl]
      have HS := hide hst
      clear hst hc1 hc2 hc3
      obtain ⟨z, hz⟩ : ∃ z, z = zAt S k := ⟨_, rfl⟩
      rw [← hz] at r1 r2 r3 HS
      clear hz
      cases hx : p z
      all_goals
        have HX := hide hx
        clear hx
        go_wp2_with fail
        refine (HP.out z wr hb).mono ?_
        rintro e w2 ⟨rfl, hb2⟩
        have HB2 := hide (hb.trans (hb2.mono hb.size))
        clear hb2
        rw [HX.out]
        go_wp2_with fail
      · go_roundw
        case rel => exact ⟨k + 1, by omega, by go_num, HB2.out, by have h := hinv.out; rw [HS.out, HX.out] at h; exact h⟩
        case measure => simp [intOf]; omega
      · go_ret
        refine ⟨?_, HB2.out⟩
        have h := hinv.out
        rw [HS.out, HX.out] at h
        rw [h]
        rfl
    · obtain rfl : k = n := by omega
      go_wp2_with fail
      go_ret
      refine ⟨?_, hb⟩
      have h := hinv.out
      rw [List.drop_of_length_le (by have := HN.out; omega)] at h
      rw [h]
      rfl
theorem zContains_any (g : Nat) (lb : Array Value) (p : Sz3 → Bool) (A : Option Addr) (n c : Nat) (S : List Sz3) (w : World) (hn : S.length = n) (hmax : n ≤ 1000000) (hc : SizesAt w A S) (hf : AnswersZ g lb p w) :
    Calls Tryz.prog 70 #[.slice A n c, .func (.func g) #[] lb] w (Ret w (.bool (S.any p))) := by
  have HX := hide (zIndex_any g lb p A n c S w hn hmax hc hf)
  clear hn hc hf
  have HA := hide (idxF_any p S 0)
  obtain ⟨q, hq⟩ : ∃ q, q = idxF p 0 S := ⟨_, rfl⟩
  rw [← hq] at HX HA
  clear hq
  go_enter Tryz.func70, Tryz.ntmps70
  go_wp2_with fail
  refine HX.out.mono ?_
  rintro e w1 ⟨rfl, hb1⟩
  go_wp2_with fail
  go_ret
  refine ⟨?_, hb1⟩
  rw [← HA.out]
  rfl
abbrev szO (s : Sz3) : Obj := .cells #[.int .i64 s.1, .int .i64 s.2.1, .int .i64 s.2.2] 59
theorem valid1_at (b : Nat) (s x : Sz3) (w : World) (h : w.heap[b]? = some (szO s)) :
    Calls Tryz.prog 71 #[.agg #[.int .i64 x.1, .int .i64 x.2.1, .int .i64 x.2.2], .pointer (some ⟨b, 0, none⟩)] w (Ret w (.bool (decide (x.1 = s.1)))) := by
  have X0 := hide (heap1 w (szO x))
  have G := hide (below_blk X0.out.2.2 h (lt_blk h))
  have c0 := cell_blk G.out 0
  have l0 := lt_blk G.out
  clear h
  go_enter Tryz.func71, Tryz.ntmps71
  go_wp2_with fail
  go_ret
  refine ⟨?_, X0.out.2.2⟩
  simp
  rfl
theorem valid1_answers (b : Nat) (s : Sz3) (w : World) (h : w.heap[b]? = some (szO s)) : AnswersZ 71 #[.pointer (some ⟨b, 0, none⟩)] (fun x => decide (x.1 = s.1)) w :=
  ⟨enters_of Tryz.func71 (by kernel_rfl) rfl, fun x W hb => valid1_at b s x W (below_blk hb h (lt_blk h))⟩
end Go.Proofs.YtklgpilgalfckaaGreatDoor
