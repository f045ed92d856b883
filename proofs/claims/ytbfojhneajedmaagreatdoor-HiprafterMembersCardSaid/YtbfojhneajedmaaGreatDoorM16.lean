/-
  A region that draws its order: its first n operations keep a relation of what is done, the frame and the world; the rest in order.; Vectors: the cross product walked.; Vectors: Cross, Parallel walked.; Members: Meets walked.; Members of any kind: what the program answers at what is none.; Spots on an axis by the boxes of its ends (as the reference asks). No program in sight.; The reference's rational numbers: ints walked.; Roots: parts of a number, its sign, short integers, their roots walked.; Texts of integers; the program's integers at such texts.
-/
import Derived.Test.YtbfojhneajedmaaGreatDoorM3
import Derived.Test.YtbfojhneajedmaaGreatDoorM12
import Derived.Test.YtbfojhneajedmaaGreatDoorM15
import Derived.Test.YtbfojhneajedmaaGreatDoorM13
import Derived.Test.YtbfojhneajedmaaGreatDoorM5
import Derived.Test.YtbfojhneajedmaaGreatDoorM9
namespace Go.KP
open Go
section
variable {P : Program} {md : Region.Mode}

theorem any_steps {l : List Oper} {Q : Exit → Act → World → Prop} {n f : Nat} {S : Array Bool → Act → World → Prop} (hg : gateB md l 0 n = true) (hn : n ≤ l.length)
    (hS : ∀ a w, S (Array.replicate n true) a w → wpAny P md l.toArray Q f (padded (Array.replicate n true) (l.length - n)) a w)
    (hstep : ∀ (i : Nat) (o : Oper) (L : Array Bool) (a : Act) (w : World), i < n → l[i]? = some o → L.size = n → L.getD i false = false → (∀ j, waits md l.toArray i j → L.getD j false = true) → S L a w → o.wp P a w (fun a' w' => S (L.setIfInBounds i true) a' w') Q) :
    ∀ (fuel : Nat) (L : Array Bool) (a : Act), L.size = n → down md l.toArray L → (∀ j, j < 0 → j < n → L.getD j false = true) → L.toList.count false = fuel →
    ∀ w, S L a w → wpAny P md l.toArray Q (fuel + f) (padded L (l.length - n)) a w := by
  intro fuel
  induction fuel with
  | zero =>
    intro L a hL hd hk hc w h
    have : L = Array.replicate n true := by
      have hne := List.count_eq_zero.1 hc
      apply Array.ext
      · simp [hL]
      · intro i h1 h2
        rw [Array.getElem_replicate]
        cases hx : L[i] with
        | true => rfl
        | false => exact absurd (by rw [← hx]; simp) hne
    subst this
    rw [Nat.zero_add]
    exact hS a w h
  | succ fuel ih =>
    intro L a hL hd hk hc w h
    obtain ⟨j0, hj0, hjf⟩ : ∃ j, j < n ∧ L.getD j false = false := by
      have hmem : false ∈ L.toList := List.count_pos_iff.1 (by omega)
      obtain ⟨j, hj, hx⟩ := List.mem_iff_getElem.1 hmem
      refine ⟨j, by simpa [hL] using hj, ?_⟩
      have : j < L.size := by simpa using hj
      simpa [this] using hx
    have hpre : ∀ i, i ∈ Region.ready md l.toArray (padded L (l.length - n)) → i < n ∧ i ∈ Region.ready md (l.take n).toArray L := by
      intro i hi
      obtain ⟨h1, h2, h3⟩ := ready_iff.1 hi
      have hin : i < n := by
        rcases Nat.lt_or_ge i n with h | h
        · exact h
        · exfalso
          have hil : i < l.length := by simpa using h1
          rcases gate_behind hg i hil h with ⟨j, hj, hw⟩ | hall
          · have := h3 j hw
            rw [padded_f, Array.getD_eq_getD_getElem?, Array.getElem?_eq_none (by omega)] at this
            simp at this
          · have key : ∀ d j, n - j = d → j < n → L.getD j false = true := by
              intro d
              induction d using Nat.strongRecOn with
              | _ d ihd =>
                intro j hdj hj
                rcases hall j hj with h4 | h4 | ⟨m, h4, h5, h6⟩
                · exact hk j h4 hj
                · have := h3 j h4
                  rwa [padded_f] at this
                · exact hd m j (ihd (n - m) (by omega) m rfl h4) h6
            have := key _ j0 rfl hj0
            rw [hjf] at this
            cases this
      refine ⟨hin, ready_iff.2 ⟨by simp; omega, ?_, fun j hj => ?_⟩⟩
      · rwa [padded_t (by omega)] at h2
      · have := h3 j ((waits_take hin).1 hj)
        rwa [padded_f] at this
    have hback : ∀ i, i ∈ Region.ready md (l.take n).toArray L → i ∈ Region.ready md l.toArray (padded L (l.length - n)) := by
      intro i hi
      obtain ⟨h1, h2, h3⟩ := ready_iff.1 hi
      have hin : i < n := by simp at h1; omega
      refine ready_iff.2 ⟨by simp; omega, ?_, fun j hj => ?_⟩
      · rwa [padded_t (by omega)]
      · rw [padded_f]
        exact h3 j ((waits_take hin).2 hj)
    rw [Nat.add_right_comm]
    refine ⟨fun h0 => ?_, fun i hi => ?_⟩
    · obtain ⟨i, hi⟩ := some_ready hg hL j0 hj0 hjf
      have := hback i hi
      rw [h0] at this
      cases this
    · obtain ⟨hin, hr⟩ := hpre i hi
      obtain ⟨r1, r2, r3⟩ := ready_iff.1 hr
      have hiL : i < L.size := by omega
      have hfi : L.getD i false = false := by rw [← getD_tf hiL]; exact r2
      obtain ⟨b1, b2, b3⟩ := gate_before hg i hin
      have hd' : down md l.toArray (L.setIfInBounds i true) := by
        intro x y hx hxy
        have hmono : ∀ y, L.getD y false = true → (L.setIfInBounds i true).getD y false = true := by
          intro y hy
          by_cases hyi : y = i
          · subst hyi; rw [hfi] at hy; cases hy
          · simpa [Array.getD_eq_getD_getElem?, Array.getElem?_setIfInBounds_ne (Ne.symm hyi)] using hy
        by_cases hxi : x = i
        · subst hxi
          exact hmono y (r3 y ((waits_take hin).2 hxy))
        · have hx' : L.getD x false = true := by simpa [Array.getD_eq_getD_getElem?, Array.getElem?_setIfInBounds_ne (Ne.symm hxi)] using hx
          exact hmono y (hd x y hx' hxy)
      have hk' : ∀ j, j < 0 → j < n → (L.setIfInBounds i true).getD j false = true := by
        intro j h1 h2
        have hj := hk j h1 h2
        by_cases hji : j = i
        · subst hji; rw [hfi] at hj; cases hj
        · simpa [Array.getD_eq_getD_getElem?, Array.getElem?_setIfInBounds_ne (Ne.symm hji)] using hj
      have hnext : ∀ a' w', S (L.setIfInBounds i true) a' w' → wpAny P md l.toArray Q (fuel + f) ((padded L (l.length - n)).setIfInBounds i true) a' w' := by
        intro a' w' h'
        rw [padded_set hiL]
        exact ih _ a' (by simpa using hL) hd' hk' (by have := count_set hiL hfi; omega) w' h'
      unfold wpOp
      have e2 : l.toArray[i]? = some l[i] := by simp [b1]
      rw [e2]
      have hgd : l[i].guard = none := b2 _ (List.getElem?_eq_getElem b1)
      have hw1 : ∀ ys, Region.wanted l[i] ys = true := fun ys => by simp [Region.wanted, hgd]
      simp only [hw1, if_true]
      exact .inl (Oper.wp_mono hnext (hstep i l[i] L a w hin (List.getElem?_eq_getElem b1) hL hfi (fun j hj => r3 j ((waits_take hin).2 hj)) h))
/-- **A region that draws its order: its first n operations by steps, in whatever order; the rest in order.** -/
theorem region_steps {id : Nat} {Q : Exit → Act → World → Prop} {a : Act} {w : World} {l : List Oper} (n : Nat) (S : Array Bool → Act → World → Prop) (hm : P.follows .mixedOrders = true) (hn : n ≤ l.length)
    (hg : gateB .any l 0 n = true) (hs : seqB .any l n = true) (h0 : S (Array.replicate n false) a { w with drawn := w.drawn + 1 })
    (hstep : ∀ (i : Nat) (o : Oper) (L : Array Bool) (a : Act) (w : World), i < n → l[i]? = some o → L.size = n → L.getD i false = false → (∀ j, waits .any l.toArray i j → L.getD j false = true) → S L a w → o.wp P a w (fun a' w' => S (L.setIfInBounds i true) a' w') Q)
    (hend : ∀ a w, S (Array.replicate n true) a w → wpList P l.toArray Q (l.drop n) a w) : (Code.region id l.toArray true).wp P Q a w := by
  refine wp_region_any hm ?_
  have h2 := any_steps (P := P) (Q := Q) (S := S) (f := (l.drop n).length) hg hn (fun a2 w2 h3 => any_seq hs (l.drop n) n a2 w2 (fun j => by simp) (Nat.le_refl _) (by simp; omega) (hend a2 w2 h3)) hstep
    n (Array.replicate n false) a (by simp) (fun i j hi => by simp [Array.getD_eq_getD_getElem?, Array.getElem?_replicate] at hi; split at hi <;> simp at hi) (fun j hj => by omega) (by simp) _ h0
  have e : padded (Array.replicate n false) (l.length - n) = Array.replicate l.toArray.size false := by
    unfold padded
    rw [Array.replicate_append_replicate]
    congr 1
    simp
    omega
  rw [e] at h2
  have e2 : n + (l.drop n).length = l.toArray.size := by simp; omega
  rw [e2] at h2
  exact h2
theorem getD_set {L : Array Bool} {i j n : Nat} (hL : L.size = n) (hi : i < n) : (L.setIfInBounds i true).getD j false = if i = j then true else L.getD j false := by
  simp only [Array.getD_eq_getD_getElem?, Array.getElem?_setIfInBounds]
  by_cases h : i = j
  · subst h
    simp [hL, hi]
  · simp [h]
end
end Go.KP
namespace Go.Proofs.YtbfojhneajedmaaGreatDoor
open Go.RowKit Go.KP Go.KI Go.Shelf
attribute [local go_sem] Oper.semAt_some vidx0 vidx1 vidx2

theorem minor_n1 {a b c d : Rat} (h : mulO a d = none) : minorO a b c d = none := by unfold minorO; rw [h, Option.bind_none]
theorem minor_n2 {a b c d : Rat} (h : mulO b c = none) : minorO a b c d = none := by
  unfold minorO
  rw [h]
  cases mulO a d <;> rfl
theorem minor_ok {a b c d p q : Rat} (h1 : mulO a d = some p) (h2 : mulO b c = some q) : minorO a b c d = subO p q := by unfold minorO; rw [h1, Option.bind_some, h2, Option.bind_some]
theorem all3_n1 {x y z : Option Rat} (h : x = none) : all3 x y z = none := by rw [h]; rfl
theorem all3_n2 {x y z : Option Rat} (h : y = none) : all3 x y z = none := by rw [h]; cases x <;> rfl
theorem all3_n3 {x y z : Option Rat} (h : z = none) : all3 x y z = none := by rw [h]; cases x <;> cases y <;> rfl
/-- A slot that is filled or not. -/
def sel (b : Bool) (v : Value) : Value := if b then v else undef
theorem sel_t (v : Value) : sel true v = v := rfl
abbrev zarr : Obj := arrO ⟨#[]⟩ ⟨#[]⟩ ⟨#[]⟩
/-- The frame while both vectors' coordinates are taken. -/
def actX (a b : V3) (n : Nat) (b7 b8 : Nat) (x0 x1 x2 x3 x4 x5 : Bool) : Act :=
  { tmps := #[vecV a, vecV b, .pointer (some ⟨n, 0, none⟩), .pointer (some ⟨n + 1, 0, none⟩), .pointer (some ⟨n + 1 + 1, 0, none⟩), .int .i64 0, .pointer (some ⟨n + 1 + 1 + 1, 0, none⟩), sel x4 (.pointer (some ⟨b7, 0, none⟩)), sel x5 (.pointer (some ⟨b8, 0, none⟩)), undef, undef, undef, undef, undef, undef, sel x0 (vecV a), sel x1 (vecV a), sel x2 (vecV b), sel x3 (vecV b), undef, undef, undef, undef, undef, undef, undef, undef, undef, undef, undef, undef, undef, undef, undef, undef, undef, undef, undef, undef, undef, undef, undef, undef, undef, undef, undef, undef, undef, undef, undef, undef, undef, undef, undef, undef, undef, undef, undef, undef, undef, undef, undef, undef, undef, undef, undef, undef, undef, undef, undef, undef], defers := [] }
/-- What holds while they are taken. -/
def TakeX (a b : V3) (n : Nat) (W0 : World) (L : Array Bool) (A : Act) (w : World) : Prop :=
  ∃ b7 b8, A = actX a b n b7 b8 (L.getD 0 false) (L.getD 1 false) (L.getD 2 false) (L.getD 3 false) (L.getD 4 false) (L.getD 5 false) ∧ Below W0.heap.size W0 w ∧
    (L.getD 4 false = true → W0.heap.size ≤ b7 ∧ w.heap[b7]? = some zarr) ∧ (L.getD 5 false = true → W0.heap.size ≤ b8 ∧ w.heap[b8]? = some zarr) ∧ (L.getD 4 false = true → L.getD 5 false = true → b7 ≠ b8)
theorem TakeX.keep {a b : V3} {n : Nat} {W0 w w' : World} {L L' : Array Bool} {A' : Act} {b7 b8 : Nat} (hB : Below W0.heap.size W0 w) (h7 : L.getD 4 false = true → W0.heap.size ≤ b7 ∧ w.heap[b7]? = some zarr) (h8 : L.getD 5 false = true → W0.heap.size ≤ b8 ∧ w.heap[b8]? = some zarr) (hne : L.getD 4 false = true → L.getD 5 false = true → b7 ≠ b8)
    (hb : Below w.heap.size w w') (h4 : L'.getD 4 false = L.getD 4 false) (h5 : L'.getD 5 false = L.getD 5 false) (hA : A' = actX a b n b7 b8 (L'.getD 0 false) (L'.getD 1 false) (L'.getD 2 false) (L'.getD 3 false) (L.getD 4 false) (L.getD 5 false)) : TakeX a b n W0 L' A' w' := by
  refine ⟨b7, b8, by rw [hA, h4, h5], hB.trans (hb.mono hB.size), ?_, ?_, ?_⟩
  · rw [h4]
    intro h
    exact ⟨(h7 h).1, below_blk hb (h7 h).2 (lt_blk (h7 h).2)⟩
  · rw [h5]
    intro h
    exact ⟨(h8 h).1, below_blk hb (h8 h).2 (lt_blk (h8 h).2)⟩
  · rw [h4, h5]
    exact hne
set_option maxRecDepth 100000 in
set_option maxHeartbeats 16000000 in
theorem vcross_in {a b : V3} (fa : fitsV a) (fb : fitsV b) (B : Nat) (w : World) (hB : B ≤ w.heap.size) (hT : PQ B w) :
    Calls Tryz.prog 90 #[vecV a, vecV b] w (ResV w (crossO a b)) := by
  have HT := hide hT
  have FA := hide fa
  have FB := hide fb
  have HO := hide (show crossO a b = all3 (minorO a.y a.z b.y b.z) (minorO a.z a.x b.z b.x) (minorO a.x a.y b.x b.y) from rfl)
  obtain ⟨O, hO⟩ : ∃ O, O = crossO a b := ⟨_, rfl⟩
  rw [← hO] at HO ⊢
  have HOF := hide (fun a b c w => vof_any a b c w)
  obtain ⟨W0, hW0⟩ : ∃ W, W = (((w.alloc (sptO (T a.x) (T a.y) (T a.z))).alloc (sptO (T b.x) (T b.y) (T b.z))).alloc (spotO ⟨#[]⟩ ⟨#[]⟩ ⟨#[]⟩)).alloc (arrO ⟨#[]⟩ ⟨#[]⟩ ⟨#[]⟩) := ⟨_, rfl⟩
  have hX := heap3 w (sptO (T a.x) (T a.y) (T a.z)) (sptO (T b.x) (T b.y) (T b.z)) (spotO ⟨#[]⟩ ⟨#[]⟩ ⟨#[]⟩)
  have hY := heap1 (((w.alloc (sptO (T a.x) (T a.y) (T a.z))).alloc (sptO (T b.x) (T b.y) (T b.z))).alloc (spotO ⟨#[]⟩ ⟨#[]⟩ ⟨#[]⟩)) (arrO ⟨#[]⟩ ⟨#[]⟩ ⟨#[]⟩)
  rw [← hW0, hX.2.2.2.1] at hY
  have hs0 : W0.heap.size = w.heap.size + 4 := hY.2.1
  have E2 := hide (below_blk hY.2.2 hX.1 (by omega))
  have E3 := hide (below_blk hY.2.2 hX.2.1 (by omega))
  have E4 := hide (below_blk hY.2.2 hX.2.2.1 (by omega))
  have E6 := hide hY.1
  have HB0 := hide (hX.2.2.2.2.trans (hY.2.2.mono (by omega)))
  have HS0 := hide hs0
  clear hX hY hO hT fa fb hs0
  go_enter Tryz.func90, Tryz.ntmps90
  go_wp2_with fail
  rw [← hW0]
  have HW0 := hide hW0
  clear hW0
  have HL1 := hide (fun w => vlist_at (T a.x) (T a.y) (T a.z) w)
  have HL2 := hide (fun w => vlist_at (T b.x) (T b.y) (T b.z) w)
  refine region_steps 6 (TakeX a b w.heap.size W0) (by kernel_rfl) (by decide) (by kernel_rfl) (by kernel_rfl) ⟨0, 0, rfl, (Below.refl _ _).drew, (fun h => by cases h), (fun h => by cases h), (fun h => by cases h)⟩ ?_ ?_
  · intro i o L A v hi ho hL hf hd hS
    obtain ⟨b7, b8, rfl, hV, h7, h8, hne⟩ := hS
    have hi6 : i = 0 ∨ i = 1 ∨ i = 2 ∨ i = 3 ∨ i = 4 ∨ i = 5 := by omega
    rcases hi6 with rfl | rfl | rfl | rfl | rfl | rfl
    all_goals
      simp only [List.getElem?_cons_zero, List.getElem?_cons_succ, Option.some.injEq] at ho
      subst ho
    · have G := fun j => getD_set (j := j) hL hi
      obtain ⟨x0, hx0⟩ : ∃ x, x = L.getD 0 false := ⟨_, rfl⟩
      obtain ⟨x1, hx1⟩ : ∃ x, x = L.getD 1 false := ⟨_, rfl⟩
      obtain ⟨x2, hx2⟩ : ∃ x, x = L.getD 2 false := ⟨_, rfl⟩
      obtain ⟨x3, hx3⟩ : ∃ x, x = L.getD 3 false := ⟨_, rfl⟩
      obtain ⟨x4, hx4⟩ : ∃ x, x = L.getD 4 false := ⟨_, rfl⟩
      obtain ⟨x5, hx5⟩ : ∃ x, x = L.getD 5 false := ⟨_, rfl⟩
      rw [← hx0, ← hx1, ← hx2, ← hx3, ← hx4, ← hx5]
      have HK : Hid (∀ A', A' = actX a b w.heap.size b7 b8 true x1 x2 x3 x4 x5 → TakeX a b w.heap.size W0 (L.setIfInBounds 0 true) A' v) := hide (fun A' hA => TakeX.keep hV h7 h8 hne (Below.refl _ v) (by rw [G]; rfl) (by rw [G]; rfl) (by rw [hA, G, G, G, G, hx1, hx2, hx3, hx4, hx5]; rfl))
      have e2 := below_blk hV E2.out (lt_blk E2.out)
      have l2 := lt_blk e2
      have k0 := cell_blk e2 0
      have k1 := cell_blk e2 1
      have k2 := cell_blk e2 2
      unfold actX
      clear h7 h8 hne hV hd e2 hx0 hx1 hx2 hx3 hx4 hx5 G hf hL hi
      go_wp2_with fail
      exact HK.out _ rfl
    · have G := fun j => getD_set (j := j) hL hi
      obtain ⟨x0, hx0⟩ : ∃ x, x = L.getD 0 false := ⟨_, rfl⟩
      obtain ⟨x1, hx1⟩ : ∃ x, x = L.getD 1 false := ⟨_, rfl⟩
      obtain ⟨x2, hx2⟩ : ∃ x, x = L.getD 2 false := ⟨_, rfl⟩
      obtain ⟨x3, hx3⟩ : ∃ x, x = L.getD 3 false := ⟨_, rfl⟩
      obtain ⟨x4, hx4⟩ : ∃ x, x = L.getD 4 false := ⟨_, rfl⟩
      obtain ⟨x5, hx5⟩ : ∃ x, x = L.getD 5 false := ⟨_, rfl⟩
      rw [← hx0, ← hx1, ← hx2, ← hx3, ← hx4, ← hx5]
      have HK : Hid (∀ A', A' = actX a b w.heap.size b7 b8 x0 true x2 x3 x4 x5 → TakeX a b w.heap.size W0 (L.setIfInBounds 1 true) A' ((v.alloc (sptO (T a.x) (T a.y) (T a.z))).alloc (arrO (T a.x) (T a.y) (T a.z)))) := hide (fun A' hA => TakeX.keep hV h7 h8 hne (heap2 v (sptO (T a.x) (T a.y) (T a.z)) (arrO (T a.x) (T a.y) (T a.z))).2.2.2 (by rw [G]; rfl) (by rw [G]; rfl) (by rw [hA, G, G, G, G, hx0, hx2, hx3, hx4, hx5]; rfl))
      have hdep : x0 = true := by rw [hx0]; exact hd 0 (waitsB_iff.1 (by kernel_rfl))
      have HK := hide HK.out
      unfold actX
      clear h7 h8 hne hV hd hx0 hx1 hx2 hx3 hx4 hx5 G hf hL hi
      subst hdep
      simp only [sel_t]
      go_wp2_with fail
      refine (HL1.out _).mono ?_
      rintro e v' ⟨rfl, rfl⟩
      go_wp2_with fail
      exact HK.out _ rfl
    · have G := fun j => getD_set (j := j) hL hi
      obtain ⟨x0, hx0⟩ : ∃ x, x = L.getD 0 false := ⟨_, rfl⟩
      obtain ⟨x1, hx1⟩ : ∃ x, x = L.getD 1 false := ⟨_, rfl⟩
      obtain ⟨x2, hx2⟩ : ∃ x, x = L.getD 2 false := ⟨_, rfl⟩
      obtain ⟨x3, hx3⟩ : ∃ x, x = L.getD 3 false := ⟨_, rfl⟩
      obtain ⟨x4, hx4⟩ : ∃ x, x = L.getD 4 false := ⟨_, rfl⟩
      obtain ⟨x5, hx5⟩ : ∃ x, x = L.getD 5 false := ⟨_, rfl⟩
      rw [← hx0, ← hx1, ← hx2, ← hx3, ← hx4, ← hx5]
      have HK : Hid (∀ A', A' = actX a b w.heap.size b7 b8 x0 x1 true x3 x4 x5 → TakeX a b w.heap.size W0 (L.setIfInBounds 2 true) A' v) := hide (fun A' hA => TakeX.keep hV h7 h8 hne (Below.refl _ v) (by rw [G]; rfl) (by rw [G]; rfl) (by rw [hA, G, G, G, G, hx0, hx1, hx3, hx4, hx5]; rfl))
      have e2 := below_blk hV E3.out (lt_blk E3.out)
      have l2 := lt_blk e2
      have k0 := cell_blk e2 0
      have k1 := cell_blk e2 1
      have k2 := cell_blk e2 2
      unfold actX
      clear h7 h8 hne hV hd e2 hx0 hx1 hx2 hx3 hx4 hx5 G hf hL hi
      go_wp2_with fail
      exact HK.out _ rfl
    · have G := fun j => getD_set (j := j) hL hi
      obtain ⟨x0, hx0⟩ : ∃ x, x = L.getD 0 false := ⟨_, rfl⟩
      obtain ⟨x1, hx1⟩ : ∃ x, x = L.getD 1 false := ⟨_, rfl⟩
      obtain ⟨x2, hx2⟩ : ∃ x, x = L.getD 2 false := ⟨_, rfl⟩
      obtain ⟨x3, hx3⟩ : ∃ x, x = L.getD 3 false := ⟨_, rfl⟩
      obtain ⟨x4, hx4⟩ : ∃ x, x = L.getD 4 false := ⟨_, rfl⟩
      obtain ⟨x5, hx5⟩ : ∃ x, x = L.getD 5 false := ⟨_, rfl⟩
      rw [← hx0, ← hx1, ← hx2, ← hx3, ← hx4, ← hx5]
      have HK : Hid (∀ A', A' = actX a b w.heap.size b7 b8 x0 x1 x2 true x4 x5 → TakeX a b w.heap.size W0 (L.setIfInBounds 3 true) A' ((v.alloc (sptO (T b.x) (T b.y) (T b.z))).alloc (arrO (T b.x) (T b.y) (T b.z)))) := hide (fun A' hA => TakeX.keep hV h7 h8 hne (heap2 v (sptO (T b.x) (T b.y) (T b.z)) (arrO (T b.x) (T b.y) (T b.z))).2.2.2 (by rw [G]; rfl) (by rw [G]; rfl) (by rw [hA, G, G, G, G, hx0, hx1, hx2, hx4, hx5]; rfl))
      have hdep : x2 = true := by rw [hx2]; exact hd 2 (waitsB_iff.1 (by kernel_rfl))
      have HK := hide HK.out
      unfold actX
      clear h7 h8 hne hV hd hx0 hx1 hx2 hx3 hx4 hx5 G hf hL hi
      subst hdep
      simp only [sel_t]
      go_wp2_with fail
      refine (HL2.out _).mono ?_
      rintro e v' ⟨rfl, rfl⟩
      go_wp2_with fail
      exact HK.out _ rfl
    · have G := fun j => getD_set (j := j) hL hi
      obtain ⟨x0, hx0⟩ : ∃ x, x = L.getD 0 false := ⟨_, rfl⟩
      obtain ⟨x1, hx1⟩ : ∃ x, x = L.getD 1 false := ⟨_, rfl⟩
      obtain ⟨x2, hx2⟩ : ∃ x, x = L.getD 2 false := ⟨_, rfl⟩
      obtain ⟨x3, hx3⟩ : ∃ x, x = L.getD 3 false := ⟨_, rfl⟩
      obtain ⟨x4, hx4⟩ : ∃ x, x = L.getD 4 false := ⟨_, rfl⟩
      obtain ⟨x5, hx5⟩ : ∃ x, x = L.getD 5 false := ⟨_, rfl⟩
      rw [← hx0, ← hx1, ← hx2, ← hx3, ← hx4, ← hx5]
      have HK : Hid (∀ A', A' = actX a b w.heap.size v.heap.size b8 x0 x1 x2 x3 true x5 → TakeX a b w.heap.size W0 (L.setIfInBounds 4 true) A' (v.alloc zarr)) := hide (fun A' hA => ⟨v.heap.size, b8, by rw [hA, G, G, G, G, G, G, hx0, hx1, hx2, hx3, hx5]; rfl, hV.trans ((heap1 v zarr).2.2.mono hV.size), (fun _ => ⟨hV.size, heap_alloc_new v _⟩), (fun h => by rw [G] at h; have h2 := h8 h; exact ⟨h2.1, below_blk (heap1 v zarr).2.2 h2.2 (lt_blk h2.2)⟩), (fun _ h => by rw [G] at h; have h2 := lt_blk (h8 h).2; omega)⟩)
      unfold actX
      clear h7 h8 hne hV hd hx0 hx1 hx2 hx3 hx4 hx5 G hf hL hi
      go_wp2_with fail
      exact HK.out _ rfl
    · have G := fun j => getD_set (j := j) hL hi
      obtain ⟨x0, hx0⟩ : ∃ x, x = L.getD 0 false := ⟨_, rfl⟩
      obtain ⟨x1, hx1⟩ : ∃ x, x = L.getD 1 false := ⟨_, rfl⟩
      obtain ⟨x2, hx2⟩ : ∃ x, x = L.getD 2 false := ⟨_, rfl⟩
      obtain ⟨x3, hx3⟩ : ∃ x, x = L.getD 3 false := ⟨_, rfl⟩
      obtain ⟨x4, hx4⟩ : ∃ x, x = L.getD 4 false := ⟨_, rfl⟩
      obtain ⟨x5, hx5⟩ : ∃ x, x = L.getD 5 false := ⟨_, rfl⟩
      rw [← hx0, ← hx1, ← hx2, ← hx3, ← hx4, ← hx5]
      have HK : Hid (∀ A', A' = actX a b w.heap.size b7 v.heap.size x0 x1 x2 x3 x4 true → TakeX a b w.heap.size W0 (L.setIfInBounds 5 true) A' (v.alloc zarr)) := hide (fun A' hA => ⟨b7, v.heap.size, by rw [hA, G, G, G, G, G, G, hx0, hx1, hx2, hx3, hx4]; rfl, hV.trans ((heap1 v zarr).2.2.mono hV.size), (fun h => by rw [G] at h; have h2 := h7 h; exact ⟨h2.1, below_blk (heap1 v zarr).2.2 h2.2 (lt_blk h2.2)⟩), (fun _ => ⟨hV.size, heap_alloc_new v _⟩), (fun h _ => by rw [G] at h; have h2 := lt_blk (h7 h).2; omega)⟩)
      unfold actX
      clear h7 h8 hne hV hd hx0 hx1 hx2 hx3 hx4 hx5 G hf hL hi
      go_wp2_with fail
      exact HK.out _ rfl
  · intro A v hS
    obtain ⟨b7, b8, rfl, hV, h7, h8, hne⟩ := hS
    have hb7 := (h7 rfl).1
    have hb8 := (h8 rfl).1
    have A7 := hide (h7 rfl).2
    have A8 := hide (h8 rfl).2
    have hne78 : b7 ≠ b8 := hne rfl rfl
    have A4 := hide (below_blk hV E4.out (lt_blk E4.out))
    have A6 := hide (below_blk hV E6.out (lt_blk E6.out))
    have HV := hide (HB0.out.trans (hV.mono HB0.out.size))
    have k0 := cell_blk A7.out 0
    have k1 := cell_blk A7.out 1
    have k2 := cell_blk A7.out 2
    have f0 := froz_blk A7.out 0
    have f1 := froz_blk A7.out 1
    have f2 := froz_blk A7.out 2
    have m0 := cell_blk A8.out 0
    have m1 := cell_blk A8.out 1
    have m2 := cell_blk A8.out 2
    have g0 := froz_blk A8.out 0
    have g1 := froz_blk A8.out 1
    have g2 := froz_blk A8.out 2
    have l7 := lt_blk A7.out
    have l8 := lt_blk A8.out
    clear hV h7 h8 hne
    simp only [List.drop_succ_cons, List.drop_zero]
    show wpList _ _ _ _ (actX a b w.heap.size b7 b8 true true true true true true) v
    unfold actX
    simp only [sel_t]
    go_wp2_with fail
    obtain ⟨u0, hu0⟩ : ∃ W, W = ((((((v.setCell ⟨b7, 0, none⟩ (.string (T a.x))).setCell ⟨b7, 1, none⟩ (.string (T a.y))).setCell ⟨b7, 2, none⟩ (.string (T a.z))).setCell ⟨b8, 0, none⟩ (.string (T b.x))).setCell ⟨b8, 1, none⟩ (.string (T b.y))).setCell ⟨b8, 2, none⟩ (.string (T b.z))) := ⟨_, rfl⟩
    rw [← hu0]
    have hs0 := HS0.out
    have X7 : Hid (u0.heap[b7]? = some (arrO (T a.x) (T a.y) (T a.z))) := hide (by rw [hu0]; exact set_other (set_other (set_other (set3c (set3b (set3a A7.out _) _) _) (Ne.symm hne78) _) (Ne.symm hne78) _) (Ne.symm hne78) _)
    have X8 : Hid (u0.heap[b8]? = some (arrO (T b.x) (T b.y) (T b.z))) := hide (by rw [hu0]; exact set3c (set3b (set3a (set_other (set_other (set_other A8.out hne78 _) hne78 _) hne78 _) _) _) _)
    have Y4 : Hid (u0.heap[w.heap.size + 2]? = some (spotO ⟨#[]⟩ ⟨#[]⟩ ⟨#[]⟩)) := hide (by rw [hu0]; exact set_other (set_other (set_other (set_other (set_other (set_other A4.out (by omega) _) (by omega) _) (by omega) _) (by omega) _) (by omega) _) (by omega) _)
    have Y6 : Hid (u0.heap[w.heap.size + 3]? = some (arrO ⟨#[]⟩ ⟨#[]⟩ ⟨#[]⟩)) := hide (by rw [hu0]; exact set_other (set_other (set_other (set_other (set_other (set_other A6.out (by omega) _) (by omega) _) (by omega) _) (by omega) _) (by omega) _) (by omega) _)
    have HB : Hid (Below w.heap.size w u0) := hide (by rw [hu0]; exact below_spot (below_spot HV.out (by omega) _ _ _) (by omega) _ _ _)
    have NE7 := hide (show w.heap.size + 3 ≠ b7 by omega)
    have NE8 := hide (show w.heap.size + 3 ≠ b8 by omega)
    clear hu0 hs0 A4 A6 A7 A8 HV k0 k1 k2 f0 f1 f2 m0 m1 m2 g0 g1 g2 l7 l8 hb7 hb8 hne78
    refine wp_loop_rounds 4 ?_
    rw [rounds_succ]
    have k7 := cell_blk X7.out 1
    have k8 := cell_blk X8.out 2
    have l7 := lt_blk X7.out
    have l8 := lt_blk X8.out
    go_wp2_with fail
    refine region_call 6 _ (by kernel_rfl) (by decide) rfl (by kernel_rfl) (by kernel_rfl) (by kernel_rfl) (by kernel_rfl) (by kernel_rfl) (by kernel_rfl) (C := fun w' => ∃ m, w' = u0.drewN m) ⟨1, rfl⟩ ?_
    simp only [List.take_succ_cons, List.take_zero, List.drop_succ_cons, List.drop_zero]
    repeat (quiet_step (fail))
    refine wpQuiet_nil ?_
    intro _ hw'
    obtain ⟨nq, rfl⟩ := hw'
    go_wp2_with fail
    refine (qmul_O FA.out.2.1 FB.out.2.2 B (u0.drewN nq) (Nat.le_trans hB HB.out.size) (HT.out.on (below_drewN HB.out nq) hB)).mono ?_
    rintro e v1 (⟨p0, hz, rfl, hb⟩ | ⟨hz, rfl, hb⟩)
    all_goals
      have hb2 := (below_drewN (Below.refl u0.heap.size u0) nq).trans hb
      clear k7 k8 l7 l8 hb
      go_wp2_with fail
      refine ⟨fun w'' => ∃ m, w'' = v1.drewN m, ⟨0, rfl⟩, ?_⟩
      repeat (quiet_step (fail))
      refine wpQuiet_nil ?_
      intro _ hw'
      obtain ⟨nq2, rfl⟩ := hw'
      obtain ⟨u1, hu⟩ : ∃ x, x = v1.drewN nq2 := ⟨_, rfl⟩
      have hb3 : Below u0.heap.size u0 u1 := by rw [hu]; exact below_drewN hb2 nq2
      rw [← hu]
      have HZ := hide hz
      have X7 := hide (below_blk hb3 X7.out (lt_blk X7.out))
      have X8 := hide (below_blk hb3 X8.out (lt_blk X8.out))
      have Y4 := hide (below_blk hb3 Y4.out (lt_blk Y4.out))
      have Y6 := hide (below_blk hb3 Y6.out (lt_blk Y6.out))
      have HB := hide (HB.out.trans (hb3.mono HB.out.size))
      clear hu hb2 hb3 hz
    rotate_left
    · have k0 := cell_blk Y4.out 0
      have k1 := cell_blk Y4.out 1
      have k2 := cell_blk Y4.out 2
      have f0 := froz_blk Y4.out 0
      have f1 := froz_blk Y4.out 1
      have f2 := froz_blk Y4.out 2
      have l6 := lt_blk Y4.out
      go_wp2_with fail
      exact exit_spotE rfl (set3c (set3b (set3a Y4.out _) _) _) rfl rfl rfl (.inr ⟨HO.out.trans (all3_n1 (minor_n1 HZ.out)), rfl, below_spot HB.out (show w.heap.size ≤ w.heap.size + 1 + 1 by omega) _ _ _⟩)
    have Hp0 := HZ
    have k7 := cell_blk X7.out 2
    have k8 := cell_blk X8.out 1
    have l7 := lt_blk X7.out
    have l8 := lt_blk X8.out
    go_wp2_with fail
    refine region_call 6 _ (by kernel_rfl) (by decide) rfl (by kernel_rfl) (by kernel_rfl) (by kernel_rfl) (by kernel_rfl) (by kernel_rfl) (by kernel_rfl) (C := fun w' => ∃ m, w' = u1.drewN m) ⟨1, rfl⟩ ?_
    simp only [List.take_succ_cons, List.take_zero, List.drop_succ_cons, List.drop_zero]
    repeat (quiet_step (fail))
    refine wpQuiet_nil ?_
    intro _ hw'
    obtain ⟨nq, rfl⟩ := hw'
    go_wp2_with fail
    refine (qmul_O FA.out.2.2 FB.out.2.1 B (u1.drewN nq) (Nat.le_trans hB HB.out.size) (HT.out.on (below_drewN HB.out nq) hB)).mono ?_
    rintro e v2 (⟨q0, hz, rfl, hb⟩ | ⟨hz, rfl, hb⟩)
    all_goals
      have hb2 := (below_drewN (Below.refl u1.heap.size u1) nq).trans hb
      clear k7 k8 l7 l8 hb
      go_wp2_with fail
      refine ⟨fun w'' => ∃ m, w'' = v2.drewN m, ⟨0, rfl⟩, ?_⟩
      repeat (quiet_step (fail))
      refine wpQuiet_nil ?_
      intro _ hw'
      obtain ⟨nq2, rfl⟩ := hw'
      obtain ⟨u2, hu⟩ : ∃ x, x = v2.drewN nq2 := ⟨_, rfl⟩
      have hb3 : Below u1.heap.size u1 u2 := by rw [hu]; exact below_drewN hb2 nq2
      rw [← hu]
      have HZ := hide hz
      have X7 := hide (below_blk hb3 X7.out (lt_blk X7.out))
      have X8 := hide (below_blk hb3 X8.out (lt_blk X8.out))
      have Y4 := hide (below_blk hb3 Y4.out (lt_blk Y4.out))
      have Y6 := hide (below_blk hb3 Y6.out (lt_blk Y6.out))
      have HB := hide (HB.out.trans (hb3.mono HB.out.size))
      clear hu hb2 hb3 hz
    rotate_left
    · have k0 := cell_blk Y4.out 0
      have k1 := cell_blk Y4.out 1
      have k2 := cell_blk Y4.out 2
      have f0 := froz_blk Y4.out 0
      have f1 := froz_blk Y4.out 1
      have f2 := froz_blk Y4.out 2
      have l6 := lt_blk Y4.out
      go_wp2_with fail
      exact exit_spotE rfl (set3c (set3b (set3a Y4.out _) _) _) rfl rfl rfl (.inr ⟨HO.out.trans (all3_n1 (minor_n2 HZ.out)), rfl, below_spot HB.out (show w.heap.size ≤ w.heap.size + 1 + 1 by omega) _ _ _⟩)
    have Hq0 := HZ
    go_wp2_with fail
    have HD := hide (fun w hB hT => qsub_O (mulO_some Hp0.out).2 (mulO_some Hq0.out).2 B w hB hT)
    refine (HD.out _ (Nat.le_trans hB HB.out.size) (HT.out.on HB.out hB)).mono ?_
    rintro e v3 (⟨z0, hz, rfl, hb⟩ | ⟨hz, rfl, hb⟩)
    all_goals
      have X7 := hide (below_blk hb X7.out (lt_blk X7.out))
      have X8 := hide (below_blk hb X8.out (lt_blk X8.out))
      have Y4 := hide (below_blk hb Y4.out (lt_blk Y4.out))
      have Y6 := hide (below_blk hb Y6.out (lt_blk Y6.out))
      have HB := hide (HB.out.trans (hb.mono HB.out.size))
      have HZ := hide ((minor_ok Hp0.out Hq0.out).trans hz)
      have j0 := cell_blk Y6.out 0
      have j1 := froz_blk Y6.out 0
      have j2 := lt_blk Y6.out
      clear hb hz HD
    rotate_left
    · have S4 := hide (set_other (c := w.heap.size + 3) (o := 0) Y4.out (by omega) (.string ⟨#[]⟩))
      have k0 := cell_blk S4.out 0
      have k1 := cell_blk S4.out 1
      have k2 := cell_blk S4.out 2
      have f0 := froz_blk S4.out 0
      have f1 := froz_blk S4.out 1
      have f2 := froz_blk S4.out 2
      have l6 := lt_blk S4.out
      go_wp2_with fail
      exact exit_spotE rfl (set3c (set3b (set3a S4.out _) _) _) rfl rfl rfl (.inr ⟨HO.out.trans (all3_n1 HZ.out), rfl, below_spot (HB.out.setCell (p := ⟨w.heap.size + 3, 0, none⟩) (Nat.le_add_right _ _) (.string ⟨#[]⟩)) (show w.heap.size ≤ w.heap.size + 1 + 1 by omega) _ _ _⟩)
    have Y4 := hide (set_other (c := w.heap.size + 3) (o := 0) Y4.out (by omega) (.string (T z0)))
    have ne7 : w.heap.size + 3 ≠ b7 := NE7.out
    have ne8 : w.heap.size + 3 ≠ b8 := NE8.out
    have X7 := hide (set_other (c := w.heap.size + 3) (o := 0) X7.out ne7 (.string (T z0)))
    have X8 := hide (set_other (c := w.heap.size + 3) (o := 0) X8.out ne8 (.string (T z0)))
    have Y6 := hide (set3a Y6.out (.string (T z0)))
    have HB := hide (HB.out.setCell (p := ⟨w.heap.size + 3, 0, none⟩) (Nat.le_add_right _ _) (.string (T z0)))
    have HM0 := HZ
    clear ne7 ne8
    go_wp2_with fail
    clear j0 j1 j2
    obtain ⟨u3, hu⟩ : ∃ x, x = v3.setCell ⟨w.heap.size + 3, 0, none⟩ (.string (T z0)) := ⟨_, rfl⟩
    rw [← hu] at X7 X8 Y4 Y6 HB
    show Code.rounds _ _ _ _ _ (v3.setCell ⟨w.heap.size + 3, 0, none⟩ (.string (T z0)))
    rw [← hu, rounds_succ]
    clear hu
    have k7 := cell_blk X7.out 2
    have k8 := cell_blk X8.out 0
    have l7 := lt_blk X7.out
    have l8 := lt_blk X8.out
    go_wp2_with fail
    refine region_call 6 _ (by kernel_rfl) (by decide) rfl (by kernel_rfl) (by kernel_rfl) (by kernel_rfl) (by kernel_rfl) (by kernel_rfl) (by kernel_rfl) (C := fun w' => ∃ m, w' = u3.drewN m) ⟨1, rfl⟩ ?_
    simp only [List.take_succ_cons, List.take_zero, List.drop_succ_cons, List.drop_zero]
    repeat (quiet_step (fail))
    refine wpQuiet_nil ?_
    intro _ hw'
    obtain ⟨nq, rfl⟩ := hw'
    go_wp2_with fail
    refine (qmul_O FA.out.2.2 FB.out.1 B (u3.drewN nq) (Nat.le_trans hB HB.out.size) (HT.out.on (below_drewN HB.out nq) hB)).mono ?_
    rintro e v4 (⟨p1, hz, rfl, hb⟩ | ⟨hz, rfl, hb⟩)
    all_goals
      have hb2 := (below_drewN (Below.refl u3.heap.size u3) nq).trans hb
      clear k7 k8 l7 l8 hb
      go_wp2_with fail
      refine ⟨fun w'' => ∃ m, w'' = v4.drewN m, ⟨0, rfl⟩, ?_⟩
      repeat (quiet_step (fail))
      refine wpQuiet_nil ?_
      intro _ hw'
      obtain ⟨nq2, rfl⟩ := hw'
      obtain ⟨u4, hu⟩ : ∃ x, x = v4.drewN nq2 := ⟨_, rfl⟩
      have hb3 : Below u3.heap.size u3 u4 := by rw [hu]; exact below_drewN hb2 nq2
      rw [← hu]
      have HZ := hide hz
      have X7 := hide (below_blk hb3 X7.out (lt_blk X7.out))
      have X8 := hide (below_blk hb3 X8.out (lt_blk X8.out))
      have Y4 := hide (below_blk hb3 Y4.out (lt_blk Y4.out))
      have Y6 := hide (below_blk hb3 Y6.out (lt_blk Y6.out))
      have HB := hide (HB.out.trans (hb3.mono HB.out.size))
      clear hu hb2 hb3 hz
    rotate_left
    · have k0 := cell_blk Y4.out 0
      have k1 := cell_blk Y4.out 1
      have k2 := cell_blk Y4.out 2
      have f0 := froz_blk Y4.out 0
      have f1 := froz_blk Y4.out 1
      have f2 := froz_blk Y4.out 2
      have l6 := lt_blk Y4.out
      go_wp2_with fail
      exact exit_spotE rfl (set3c (set3b (set3a Y4.out _) _) _) rfl rfl rfl (.inr ⟨HO.out.trans (all3_n2 (minor_n1 HZ.out)), rfl, below_spot HB.out (show w.heap.size ≤ w.heap.size + 1 + 1 by omega) _ _ _⟩)
    have Hp1 := HZ
    have k7 := cell_blk X7.out 0
    have k8 := cell_blk X8.out 2
    have l7 := lt_blk X7.out
    have l8 := lt_blk X8.out
    go_wp2_with fail
    refine region_call 6 _ (by kernel_rfl) (by decide) rfl (by kernel_rfl) (by kernel_rfl) (by kernel_rfl) (by kernel_rfl) (by kernel_rfl) (by kernel_rfl) (C := fun w' => ∃ m, w' = u4.drewN m) ⟨1, rfl⟩ ?_
    simp only [List.take_succ_cons, List.take_zero, List.drop_succ_cons, List.drop_zero]
    repeat (quiet_step (fail))
    refine wpQuiet_nil ?_
    intro _ hw'
    obtain ⟨nq, rfl⟩ := hw'
    go_wp2_with fail
    refine (qmul_O FA.out.1 FB.out.2.2 B (u4.drewN nq) (Nat.le_trans hB HB.out.size) (HT.out.on (below_drewN HB.out nq) hB)).mono ?_
    rintro e v5 (⟨q1, hz, rfl, hb⟩ | ⟨hz, rfl, hb⟩)
    all_goals
      have hb2 := (below_drewN (Below.refl u4.heap.size u4) nq).trans hb
      clear k7 k8 l7 l8 hb
      go_wp2_with fail
      refine ⟨fun w'' => ∃ m, w'' = v5.drewN m, ⟨0, rfl⟩, ?_⟩
      repeat (quiet_step (fail))
      refine wpQuiet_nil ?_
      intro _ hw'
      obtain ⟨nq2, rfl⟩ := hw'
      obtain ⟨u5, hu⟩ : ∃ x, x = v5.drewN nq2 := ⟨_, rfl⟩
      have hb3 : Below u4.heap.size u4 u5 := by rw [hu]; exact below_drewN hb2 nq2
      rw [← hu]
      have HZ := hide hz
      have X7 := hide (below_blk hb3 X7.out (lt_blk X7.out))
      have X8 := hide (below_blk hb3 X8.out (lt_blk X8.out))
      have Y4 := hide (below_blk hb3 Y4.out (lt_blk Y4.out))
      have Y6 := hide (below_blk hb3 Y6.out (lt_blk Y6.out))
      have HB := hide (HB.out.trans (hb3.mono HB.out.size))
      clear hu hb2 hb3 hz
    rotate_left
    · have k0 := cell_blk Y4.out 0
      have k1 := cell_blk Y4.out 1
      have k2 := cell_blk Y4.out 2
      have f0 := froz_blk Y4.out 0
      have f1 := froz_blk Y4.out 1
      have f2 := froz_blk Y4.out 2
      have l6 := lt_blk Y4.out
      go_wp2_with fail
      exact exit_spotE rfl (set3c (set3b (set3a Y4.out _) _) _) rfl rfl rfl (.inr ⟨HO.out.trans (all3_n2 (minor_n2 HZ.out)), rfl, below_spot HB.out (show w.heap.size ≤ w.heap.size + 1 + 1 by omega) _ _ _⟩)
    have Hq1 := HZ
    go_wp2_with fail
    have HD := hide (fun w hB hT => qsub_O (mulO_some Hp1.out).2 (mulO_some Hq1.out).2 B w hB hT)
    refine (HD.out _ (Nat.le_trans hB HB.out.size) (HT.out.on HB.out hB)).mono ?_
    rintro e v6 (⟨z1, hz, rfl, hb⟩ | ⟨hz, rfl, hb⟩)
    all_goals
      have X7 := hide (below_blk hb X7.out (lt_blk X7.out))
      have X8 := hide (below_blk hb X8.out (lt_blk X8.out))
      have Y4 := hide (below_blk hb Y4.out (lt_blk Y4.out))
      have Y6 := hide (below_blk hb Y6.out (lt_blk Y6.out))
      have HB := hide (HB.out.trans (hb.mono HB.out.size))
      have HZ := hide ((minor_ok Hp1.out Hq1.out).trans hz)
      have j0 := cell_blk Y6.out 1
      have j1 := froz_blk Y6.out 1
      have j2 := lt_blk Y6.out
      clear hb hz HD
    rotate_left
    · have S4 := hide (set_other (c := w.heap.size + 3) (o := 1) Y4.out (by omega) (.string ⟨#[]⟩))
      have k0 := cell_blk S4.out 0
      have k1 := cell_blk S4.out 1
      have k2 := cell_blk S4.out 2
      have f0 := froz_blk S4.out 0
      have f1 := froz_blk S4.out 1
      have f2 := froz_blk S4.out 2
      have l6 := lt_blk S4.out
      go_wp2_with fail
      exact exit_spotE rfl (set3c (set3b (set3a S4.out _) _) _) rfl rfl rfl (.inr ⟨HO.out.trans (all3_n2 HZ.out), rfl, below_spot (HB.out.setCell (p := ⟨w.heap.size + 3, 1, none⟩) (Nat.le_add_right _ _) (.string ⟨#[]⟩)) (show w.heap.size ≤ w.heap.size + 1 + 1 by omega) _ _ _⟩)
    have Y4 := hide (set_other (c := w.heap.size + 3) (o := 1) Y4.out (by omega) (.string (T z1)))
    have ne7 : w.heap.size + 3 ≠ b7 := NE7.out
    have ne8 : w.heap.size + 3 ≠ b8 := NE8.out
    have X7 := hide (set_other (c := w.heap.size + 3) (o := 1) X7.out ne7 (.string (T z1)))
    have X8 := hide (set_other (c := w.heap.size + 3) (o := 1) X8.out ne8 (.string (T z1)))
    have Y6 := hide (set3b Y6.out (.string (T z1)))
    have HB := hide (HB.out.setCell (p := ⟨w.heap.size + 3, 1, none⟩) (Nat.le_add_right _ _) (.string (T z1)))
    have HM1 := HZ
    clear ne7 ne8
    go_wp2_with fail
    clear j0 j1 j2
    obtain ⟨u6, hu⟩ : ∃ x, x = v6.setCell ⟨w.heap.size + 3, 1, none⟩ (.string (T z1)) := ⟨_, rfl⟩
    rw [← hu] at X7 X8 Y4 Y6 HB
    show Code.rounds _ _ _ _ _ (v6.setCell ⟨w.heap.size + 3, 1, none⟩ (.string (T z1)))
    rw [← hu, rounds_succ]
    clear hu
    have k7 := cell_blk X7.out 0
    have k8 := cell_blk X8.out 1
    have l7 := lt_blk X7.out
    have l8 := lt_blk X8.out
    go_wp2_with fail
    refine region_call 6 _ (by kernel_rfl) (by decide) rfl (by kernel_rfl) (by kernel_rfl) (by kernel_rfl) (by kernel_rfl) (by kernel_rfl) (by kernel_rfl) (C := fun w' => ∃ m, w' = u6.drewN m) ⟨1, rfl⟩ ?_
    simp only [List.take_succ_cons, List.take_zero, List.drop_succ_cons, List.drop_zero]
    repeat (quiet_step (fail))
    refine wpQuiet_nil ?_
    intro _ hw'
    obtain ⟨nq, rfl⟩ := hw'
    go_wp2_with fail
    refine (qmul_O FA.out.1 FB.out.2.1 B (u6.drewN nq) (Nat.le_trans hB HB.out.size) (HT.out.on (below_drewN HB.out nq) hB)).mono ?_
    rintro e v7 (⟨p2, hz, rfl, hb⟩ | ⟨hz, rfl, hb⟩)
    all_goals
      have hb2 := (below_drewN (Below.refl u6.heap.size u6) nq).trans hb
      clear k7 k8 l7 l8 hb
      go_wp2_with fail
      refine ⟨fun w'' => ∃ m, w'' = v7.drewN m, ⟨0, rfl⟩, ?_⟩
      repeat (quiet_step (fail))
      refine wpQuiet_nil ?_
      intro _ hw'
      obtain ⟨nq2, rfl⟩ := hw'
      obtain ⟨u7, hu⟩ : ∃ x, x = v7.drewN nq2 := ⟨_, rfl⟩
      have hb3 : Below u6.heap.size u6 u7 := by rw [hu]; exact below_drewN hb2 nq2
      rw [← hu]
      have HZ := hide hz
      have X7 := hide (below_blk hb3 X7.out (lt_blk X7.out))
      have X8 := hide (below_blk hb3 X8.out (lt_blk X8.out))
      have Y4 := hide (below_blk hb3 Y4.out (lt_blk Y4.out))
      have Y6 := hide (below_blk hb3 Y6.out (lt_blk Y6.out))
      have HB := hide (HB.out.trans (hb3.mono HB.out.size))
      clear hu hb2 hb3 hz
    rotate_left
    · have k0 := cell_blk Y4.out 0
      have k1 := cell_blk Y4.out 1
      have k2 := cell_blk Y4.out 2
      have f0 := froz_blk Y4.out 0
      have f1 := froz_blk Y4.out 1
      have f2 := froz_blk Y4.out 2
      have l6 := lt_blk Y4.out
      go_wp2_with fail
      exact exit_spotE rfl (set3c (set3b (set3a Y4.out _) _) _) rfl rfl rfl (.inr ⟨HO.out.trans (all3_n3 (minor_n1 HZ.out)), rfl, below_spot HB.out (show w.heap.size ≤ w.heap.size + 1 + 1 by omega) _ _ _⟩)
    have Hp2 := HZ
    have k7 := cell_blk X7.out 1
    have k8 := cell_blk X8.out 0
    have l7 := lt_blk X7.out
    have l8 := lt_blk X8.out
    go_wp2_with fail
    refine region_call 6 _ (by kernel_rfl) (by decide) rfl (by kernel_rfl) (by kernel_rfl) (by kernel_rfl) (by kernel_rfl) (by kernel_rfl) (by kernel_rfl) (C := fun w' => ∃ m, w' = u7.drewN m) ⟨1, rfl⟩ ?_
    simp only [List.take_succ_cons, List.take_zero, List.drop_succ_cons, List.drop_zero]
    repeat (quiet_step (fail))
    refine wpQuiet_nil ?_
    intro _ hw'
    obtain ⟨nq, rfl⟩ := hw'
    go_wp2_with fail
    refine (qmul_O FA.out.2.1 FB.out.1 B (u7.drewN nq) (Nat.le_trans hB HB.out.size) (HT.out.on (below_drewN HB.out nq) hB)).mono ?_
    rintro e v8 (⟨q2, hz, rfl, hb⟩ | ⟨hz, rfl, hb⟩)
    all_goals
      have hb2 := (below_drewN (Below.refl u7.heap.size u7) nq).trans hb
      clear k7 k8 l7 l8 hb
      go_wp2_with fail
      refine ⟨fun w'' => ∃ m, w'' = v8.drewN m, ⟨0, rfl⟩, ?_⟩
      repeat (quiet_step (fail))
      refine wpQuiet_nil ?_
      intro _ hw'
      obtain ⟨nq2, rfl⟩ := hw'
      obtain ⟨u8, hu⟩ : ∃ x, x = v8.drewN nq2 := ⟨_, rfl⟩
      have hb3 : Below u7.heap.size u7 u8 := by rw [hu]; exact below_drewN hb2 nq2
      rw [← hu]
      have HZ := hide hz
      have X7 := hide (below_blk hb3 X7.out (lt_blk X7.out))
      have X8 := hide (below_blk hb3 X8.out (lt_blk X8.out))
      have Y4 := hide (below_blk hb3 Y4.out (lt_blk Y4.out))
      have Y6 := hide (below_blk hb3 Y6.out (lt_blk Y6.out))
      have HB := hide (HB.out.trans (hb3.mono HB.out.size))
      clear hu hb2 hb3 hz
    rotate_left
    · have k0 := cell_blk Y4.out 0
      have k1 := cell_blk Y4.out 1
      have k2 := cell_blk Y4.out 2
      have f0 := froz_blk Y4.out 0
      have f1 := froz_blk Y4.out 1
      have f2 := froz_blk Y4.out 2
      have l6 := lt_blk Y4.out
      go_wp2_with fail
      exact exit_spotE rfl (set3c (set3b (set3a Y4.out _) _) _) rfl rfl rfl (.inr ⟨HO.out.trans (all3_n3 (minor_n2 HZ.out)), rfl, below_spot HB.out (show w.heap.size ≤ w.heap.size + 1 + 1 by omega) _ _ _⟩)
    have Hq2 := HZ
    go_wp2_with fail
    have HD := hide (fun w hB hT => qsub_O (mulO_some Hp2.out).2 (mulO_some Hq2.out).2 B w hB hT)
    refine (HD.out _ (Nat.le_trans hB HB.out.size) (HT.out.on HB.out hB)).mono ?_
    rintro e v9 (⟨z2, hz, rfl, hb⟩ | ⟨hz, rfl, hb⟩)
    all_goals
      have X7 := hide (below_blk hb X7.out (lt_blk X7.out))
      have X8 := hide (below_blk hb X8.out (lt_blk X8.out))
      have Y4 := hide (below_blk hb Y4.out (lt_blk Y4.out))
      have Y6 := hide (below_blk hb Y6.out (lt_blk Y6.out))
      have HB := hide (HB.out.trans (hb.mono HB.out.size))
      have HZ := hide ((minor_ok Hp2.out Hq2.out).trans hz)
      have j0 := cell_blk Y6.out 2
      have j1 := froz_blk Y6.out 2
      have j2 := lt_blk Y6.out
      clear hb hz HD
    rotate_left
    · have S4 := hide (set_other (c := w.heap.size + 3) (o := 2) Y4.out (by omega) (.string ⟨#[]⟩))
      have k0 := cell_blk S4.out 0
      have k1 := cell_blk S4.out 1
      have k2 := cell_blk S4.out 2
      have f0 := froz_blk S4.out 0
      have f1 := froz_blk S4.out 1
      have f2 := froz_blk S4.out 2
      have l6 := lt_blk S4.out
      go_wp2_with fail
      exact exit_spotE rfl (set3c (set3b (set3a S4.out _) _) _) rfl rfl rfl (.inr ⟨HO.out.trans (all3_n3 HZ.out), rfl, below_spot (HB.out.setCell (p := ⟨w.heap.size + 3, 2, none⟩) (Nat.le_add_right _ _) (.string ⟨#[]⟩)) (show w.heap.size ≤ w.heap.size + 1 + 1 by omega) _ _ _⟩)
    have Y4 := hide (set_other (c := w.heap.size + 3) (o := 2) Y4.out (by omega) (.string (T z2)))
    have ne7 : w.heap.size + 3 ≠ b7 := NE7.out
    have ne8 : w.heap.size + 3 ≠ b8 := NE8.out
    have X7 := hide (set_other (c := w.heap.size + 3) (o := 2) X7.out ne7 (.string (T z2)))
    have X8 := hide (set_other (c := w.heap.size + 3) (o := 2) X8.out ne8 (.string (T z2)))
    have Y6 := hide (set3c Y6.out (.string (T z2)))
    have HB := hide (HB.out.setCell (p := ⟨w.heap.size + 3, 2, none⟩) (Nat.le_add_right _ _) (.string (T z2)))
    have HM2 := HZ
    clear ne7 ne8
    go_wp2_with fail
    clear j0 j1 j2
    obtain ⟨u9, hu⟩ : ∃ x, x = v9.setCell ⟨w.heap.size + 3, 2, none⟩ (.string (T z2)) := ⟨_, rfl⟩
    rw [← hu] at X7 X8 Y4 Y6 HB
    show Code.rounds _ _ _ _ _ (v9.setCell ⟨w.heap.size + 3, 2, none⟩ (.string (T z2)))
    rw [← hu, rounds_succ]
    clear hu
    have k0 := cell_blk Y6.out 0
    have k1 := cell_blk Y6.out 1
    have k2 := cell_blk Y6.out 2
    have l6 := lt_blk Y6.out
    go_wp2_with fail
    refine (HOF.out _ _ _ _).mono ?_
    rintro e w4 ⟨rfl, rfl⟩
    clear k0 k1 k2 l6
    have X5 := hide (heap2 u9 (arrO (T z0) (T z1) (T z2)) (spotO (T z0) (T z1) (T z2)))
    have R6 := hide (below_blk X5.out.2.2.2 Y4.out (lt_blk Y4.out))
    have RB := hide (HB.out.trans (X5.out.2.2.2.mono HB.out.size))
    have k0 := cell_blk R6.out 0
    have k1 := cell_blk R6.out 1
    have k2 := cell_blk R6.out 2
    have f0 := froz_blk R6.out 0
    have f1 := froz_blk R6.out 1
    have f2 := froz_blk R6.out 2
    have l6 := lt_blk R6.out
    go_wp2_with fail
    exact exit_spotE rfl (set3c (set3b (set3a R6.out _) _) _) rfl rfl rfl (.inl ⟨⟨z0, z1, z2⟩, HO.out.trans (by rw [HM0.out, HM1.out, HM2.out]; rfl), rfl, below_spot RB.out (show w.heap.size ≤ w.heap.size + 1 + 1 by omega) _ _ _⟩)
end Go.Proofs.YtbfojhneajedmaaGreatDoor
namespace Go.Proofs.YtbfojhneajedmaaGreatDoor
open Go.RowKit Go.KP Go.KI Go.Shelf
attribute [local go_sem] Oper.semAt_some vidx0 vidx1 vidx2

set_option maxRecDepth 100000 in
set_option maxHeartbeats 4000000 in
theorem vCross_O {a b : V3} (fa : fitsV a) (fb : fitsV b) (B : Nat) (w : World) (hB : B ≤ w.heap.size) (hT : PQ B w) :
    Calls Tryz.prog 44 #[vecV a, vecV b] w (ResV w (crossO a b)) := by
  have HT := hide hT
  have HC := hide (fun w hB hT => vboth_T fa fb B w hB hT)
  have HD := hide (fun w hB hT => vcross_in fa fb B w hB hT)
  have X0 := hide (heap3 w (vecO a) (vecO b) (spotO ⟨#[]⟩ ⟨#[]⟩ ⟨#[]⟩))
  obtain ⟨O, hO⟩ : ∃ O, O = crossO a b := ⟨_, rfl⟩
  rw [← hO] at HD ⊢
  clear hO hT fa fb
  go_enter Tryz.func44, Tryz.ntmps44
  go_wp2_with fail
  refine (HC.out _ (Nat.le_trans hB X0.out.2.2.2.2.size) (HT.out.on X0.out.2.2.2.2 hB)).mono ?_
  rintro e w1 ⟨rfl, hb1⟩
  have HB1 := hide (X0.out.2.2.2.2.trans (hb1.mono X0.out.2.2.2.2.size))
  have G1 := hide (below_blk hb1 X0.out.1 (lt_blk X0.out.1))
  have G2 := hide (below_blk hb1 X0.out.2.1 (lt_blk X0.out.2.1))
  have G4 := hide (below_blk hb1 X0.out.2.2.1 (lt_blk X0.out.2.2.1))
  have k0 := cell_blk G1.out 0
  have k1 := cell_blk G1.out 1
  have k2 := cell_blk G1.out 2
  have m0 := cell_blk G2.out 0
  have m1 := cell_blk G2.out 1
  have m2 := cell_blk G2.out 2
  clear hb1
  go_wp2_with fail
  refine (HD.out _ (Nat.le_trans hB HB1.out.size) (HT.out.on HB1.out hB)).mono ?_
  rintro e w3 (⟨z, hz, rfl, hb3⟩ | ⟨hz, rfl, hb3⟩)
  all_goals
    have HZ := hide hz
    have HB3 := hide (HB1.out.trans (hb3.mono HB1.out.size))
    have G5 := hide (below_blk hb3 G4.out (lt_blk G4.out))
    clear hb3 hz k0 k1 k2 m0 m1 m2
    have k0 := cell_blk G5.out 0
    have k1 := cell_blk G5.out 1
    have k2 := cell_blk G5.out 2
    have f0 := froz_blk G5.out 0
    have f1 := froz_blk G5.out 1
    have f2 := froz_blk G5.out 2
    have l6 := lt_blk G5.out
    go_wp2_with fail
    first
      | exact exit_spotE rfl (set3c (set3b (set3a G5.out _) _) _) rfl rfl rfl (.inl ⟨_, HZ.out, rfl, below_spot HB3.out (show w.heap.size ≤ w.heap.size + 1 + 1 by omega) _ _ _⟩)
      | exact exit_spotE rfl (set3c (set3b (set3a G5.out _) _) _) rfl rfl rfl (.inr ⟨HZ.out, rfl, below_spot HB3.out (show w.heap.size ≤ w.heap.size + 1 + 1 by omega) _ _ _⟩)
set_option maxRecDepth 100000 in
theorem eqZero (c : V3) (w : World) : (Op.equalIn 10000 24 (vecV c) (.agg #[.string ⟨#[48]⟩, .string ⟨#[48]⟩, .string ⟨#[48]⟩])).run Tryz.prog w = .ok (decide (c = vzero)) w := by
  have h := eqSpot_T c vzero w
  unfold vecV at h
  rw [show vzero.x = 0 from rfl, show vzero.y = 0 from rfl, show vzero.z = 0 from rfl, T0] at h
  exact h
/-- Parallel, where the products fit. -/
theorem vParallel_T {a b c : V3} (fa : fitsV a) (fb : fitsV b) (hc : crossO a b = some c) {is : Bool} (his : is = decide (c = vzero)) (B : Nat) (w : World) (hB : B ≤ w.heap.size) (hT : PQ B w) :
    Calls Tryz.prog 42 #[vecV a, vecV b] w (Ret w (.tuple #[.bool is, .int .i64 0])) := by
  have HT := hide hT
  have HD := hide (fun w hB hT => (vCross_O fa fb B w hB hT).mono fun _ _ h => ResV.of hc h)
  have X0 := hide (heap2 w (vecO a) (vecO b))
  have he := eqZero c
  rw [← his] at he
  clear hc his hT fa fb
  go_enter Tryz.func42, Tryz.ntmps42
  go_wp2_with fail
  refine (HD.out _ (Nat.le_trans hB X0.out.2.2.2.size) (HT.out.on X0.out.2.2.2 hB)).mono ?_
  rintro e w1 ⟨rfl, hb1⟩
  have HB1 := hide ((X0.out.2.2.2.trans (hb1.mono X0.out.2.2.2.size)).trans ((heap1 w1 (vecO c)).2.2.mono (X0.out.2.2.2.trans (hb1.mono X0.out.2.2.2.size)).size))
  clear hb1
  go_wp2_with fail
  refine bodyPost_ret (results_tmp2 rfl _ _ _) rfl ?_
  exact ⟨rfl, HB1.out⟩
end Go.Proofs.YtbfojhneajedmaaGreatDoor
namespace Go.Proofs.YtbfojhneajedmaaGreatDoor
open Go.RowKit Go.KP Go.KI Go.Shelf
attribute [local go_sem] Oper.semAt_some

set_option maxRecDepth 100000 in
set_option maxHeartbeats 16000000 in
theorem hMeets_to {k f o : Int} {a b : V3} {wd dp : Int} (h : Mem k f o a b wd dp) {q : V3} (hq : szV 36 q) {r : Bool} (hr : r = decide (meetsP a b q)) (B : Nat) (w : World) (hB : B ≤ w.heap.size) (hT : PQ B w) :
    Calls Tryz.prog 25 #[memV k f o a b wd dp, vecV q] w (Ret w (.tuple #[.bool r, .int .i64 0])) := by
  have HT := hide hT
  have fq : fitsV q := szV_fits hq (by rw [most_eq]; omega)
  have HC := hide (fun w hB hT => hCheck_ok h B w hB hT)
  have HQ := hide (fun w hB hT => vchk_T fq B w hB hT)
  have HL := hide (fun w hB hT => hlong_no hq B w hB hT)
  have HS1 := hide (fun w hB hT => h.sub B w hB hT)
  have st : szV 73 (vsub q a) := szV_sub hq h.ha
  have ft : fitsV (vsub q a) := szV_fits st (by rw [most_eq]; omega)
  have HS2 := hide (fun w hB hT => (vSub_O fq h.fa B w hB hT).mono fun _ _ hr => ResV.of (sub2_sz hq h.ha (by rw [most_eq]; omega)) hr)
  have HP := hide (fun w hB hT => vParallel_T h.fd ft (cross_sz h.szd st (by rw [most_eq]; omega)).1 rfl B w hB hT)
  have HC1 := hide (fun w hB hT => vCompare_T h.fa fq (cmpsV_of h.ha hq (by rw [most_eq]; omega)) B w hB hT)
  have HC2 := hide (fun w hB hT => vCompare_T fq h.fb (cmpsV_of hq h.hb (by rw [most_eq]; omega)) B w hB hT)
  have hm : meetsP a b q ↔ (decide (vcross (vsub b a) (vsub q a) = vzero) = true ∧ (vcmp a q = 0 ∨ vcmp q b = 0 ∨ vcmp a q = vcmp q b)) := by
    unfold meetsP
    rw [decide_eq_true_iff]
  obtain ⟨P, hP⟩ : ∃ P, P = decide (vcross (vsub b a) (vsub q a) = vzero) := ⟨_, rfl⟩
  obtain ⟨x, hx⟩ : ∃ x, x = vcmp a q := ⟨_, rfl⟩
  obtain ⟨y, hy⟩ : ∃ x, x = vcmp q b := ⟨_, rfl⟩
  rw [← hP] at HP hm
  rw [← hx, ← hy] at hm
  rw [← hx] at HC1
  rw [← hy] at HC2
  obtain ⟨d, hd⟩ : ∃ d, d = vsub b a := ⟨_, rfl⟩
  obtain ⟨t, ht⟩ : ∃ d, d = vsub q a := ⟨_, rfl⟩
  rw [← hd] at HS1 HP
  rw [← ht] at HS2 HP
  have X0 := hide (heap2 w (memO k f o a b wd dp) (vecO q))
  have hway : (P = false ∧ r = false) ∨ (P = true ∧ x = 0 ∧ r = true) ∨ (P = true ∧ (x == 0) = false ∧ y = 0 ∧ r = true) ∨ (P = true ∧ (x == 0) = false ∧ (y == 0) = false ∧ (x == y) = r) := by
    cases P
    · exact .inl ⟨rfl, by rw [hr, decide_eq_false_iff_not, hm]; rintro ⟨e, _⟩; cases e⟩
    · by_cases x0 : x = 0
      · exact .inr (.inl ⟨rfl, x0, by rw [hr, decide_eq_true_iff, hm]; exact ⟨rfl, .inl x0⟩⟩)
      · by_cases y0 : y = 0
        · exact .inr (.inr (.inl ⟨rfl, by simpa using x0, y0, by rw [hr, decide_eq_true_iff, hm]; exact ⟨rfl, .inr (.inl y0)⟩⟩))
        · refine .inr (.inr (.inr ⟨rfl, by simpa using x0, by simpa using y0, ?_⟩))
          rw [hr]
          by_cases e : x = y
          · rw [decide_eq_true (hm.2 ⟨rfl, .inr (.inr e)⟩), e]
            simp
          · rw [decide_eq_false (fun z => by rcases (hm.1 z).2 with u | u | u <;> contradiction)]
            simpa using e
  clear h hq fq st ft hr hm hP hx hy hd ht hT
  rcases hway with ⟨rfl, rfl⟩ | hway
  · skip
    go_enter Tryz.func25, Tryz.ntmps25
    go_wp2_with fail
    refine (HC.out _ (Nat.le_trans hB X0.out.2.2.2.size) (HT.out.on X0.out.2.2.2 hB)).mono ?_
    rintro e w1 ⟨rfl, hb1⟩
    have G1 := hide (below_blk hb1 X0.out.1 (lt_blk X0.out.1))
    have G2 := hide (below_blk hb1 X0.out.2.1 (lt_blk X0.out.2.1))
    have HB1 := hide (X0.out.2.2.2.trans (hb1.mono X0.out.2.2.2.size))
    clear hb1
    have c0 := cell_blk G2.out 0
    have c1 := cell_blk G2.out 1
    have c2 := cell_blk G2.out 2
    have l2 := lt_blk G2.out
    go_wp2_with fail
    refine (HQ.out _ (Nat.le_trans hB HB1.out.size) (HT.out.on HB1.out hB)).mono ?_
    rintro e w2 ⟨rfl, hb2⟩
    have G1 := hide (below_blk hb2 G1.out (lt_blk G1.out))
    have G2 := hide (below_blk hb2 G2.out (lt_blk G2.out))
    have HB2 := hide (HB1.out.trans (hb2.mono HB1.out.size))
    clear hb2 c0 c1 c2 l2
    have c0 := cell_blk G2.out 0
    have c1 := cell_blk G2.out 1
    have c2 := cell_blk G2.out 2
    have l2 := lt_blk G2.out
    go_wp2_with fail
    refine (HL.out _ (Nat.le_trans hB HB2.out.size) (HT.out.on HB2.out hB)).mono ?_
    rintro e w3 ⟨rfl, hb3⟩
    have G1 := hide (below_blk hb3 G1.out (lt_blk G1.out))
    have G2 := hide (below_blk hb3 G2.out (lt_blk G2.out))
    have HB3 := hide (HB2.out.trans (hb3.mono HB2.out.size))
    clear hb3 c0 c1 c2 l2
    have k3 := cell_blk G1.out 3
    have k4 := cell_blk G1.out 4
    have k5 := cell_blk G1.out 5
    have k6 := cell_blk G1.out 6
    have k7 := cell_blk G1.out 7
    have k8 := cell_blk G1.out 8
    have l1 := lt_blk G1.out
    go_wp2_with fail
    refine (HS1.out _ (Nat.le_trans hB HB3.out.size) (HT.out.on HB3.out hB)).mono ?_
    rintro e w4 ⟨rfl, hb4⟩
    have X4 := hide (heap1 w4 (vecO d))
    have G1 := hide (below_blk (hb4.trans (X4.out.2.2.mono hb4.size)) G1.out (lt_blk G1.out))
    have G2 := hide (below_blk (hb4.trans (X4.out.2.2.mono hb4.size)) G2.out (lt_blk G2.out))
    have G3 := hide X4.out.1
    have HB4 := hide (HB3.out.trans ((hb4.trans (X4.out.2.2.mono hb4.size)).mono HB3.out.size))
    clear hb4 k3 k4 k5 k6 k7 k8 l1
    have k3 := cell_blk G1.out 3
    have k4 := cell_blk G1.out 4
    have k5 := cell_blk G1.out 5
    have c0 := cell_blk G2.out 0
    have c1 := cell_blk G2.out 1
    have c2 := cell_blk G2.out 2
    have l1 := lt_blk G1.out
    have l2 := lt_blk G2.out
    go_wp2_with fail
    refine (HS2.out _ (Nat.le_trans hB HB4.out.size) (HT.out.on HB4.out hB)).mono ?_
    rintro e w5 ⟨rfl, hb5⟩
    have X5 := hide (heap1 w5 (vecO t))
    have G1 := hide (below_blk (hb5.trans (X5.out.2.2.mono hb5.size)) G1.out (lt_blk G1.out))
    have G2 := hide (below_blk (hb5.trans (X5.out.2.2.mono hb5.size)) G2.out (lt_blk G2.out))
    have G3 := hide (below_blk (hb5.trans (X5.out.2.2.mono hb5.size)) G3.out (lt_blk G3.out))
    have HB5 := hide (HB4.out.trans ((hb5.trans (X5.out.2.2.mono hb5.size)).mono HB4.out.size))
    clear hb5 k3 k4 k5 c0 c1 c2 l1 l2
    have c0 := cell_blk G3.out 0
    have c1 := cell_blk G3.out 1
    have c2 := cell_blk G3.out 2
    have l2 := lt_blk G3.out
    go_wp2_with fail
    refine (HP.out _ (Nat.le_trans hB HB5.out.size) (HT.out.on HB5.out hB)).mono ?_
    rintro e w6 ⟨rfl, hb6⟩
    have G1 := hide (below_blk hb6 G1.out (lt_blk G1.out))
    have G2 := hide (below_blk hb6 G2.out (lt_blk G2.out))
    have HB6 := hide (HB5.out.trans (hb6.mono HB5.out.size))
    clear hb6 c0 c1 c2 l2 G3
    go_wp2_with fail
    refine bodyPost_ret (results_tmp2 rfl _ _ _) rfl ?_
    exact ⟨rfl, HB6.out⟩
  rcases hway with ⟨rfl, rfl, rfl⟩ | ⟨rfl, hx, rfl, rfl⟩ | ⟨rfl, hx, hy, hxy⟩
  all_goals
    go_enter Tryz.func25, Tryz.ntmps25
    go_wp2_with fail
    refine (HC.out _ (Nat.le_trans hB X0.out.2.2.2.size) (HT.out.on X0.out.2.2.2 hB)).mono ?_
    rintro e w1 ⟨rfl, hb1⟩
    have G1 := hide (below_blk hb1 X0.out.1 (lt_blk X0.out.1))
    have G2 := hide (below_blk hb1 X0.out.2.1 (lt_blk X0.out.2.1))
    have HB1 := hide (X0.out.2.2.2.trans (hb1.mono X0.out.2.2.2.size))
    clear hb1
    have c0 := cell_blk G2.out 0
    have c1 := cell_blk G2.out 1
    have c2 := cell_blk G2.out 2
    have l2 := lt_blk G2.out
    go_wp2_with fail
    refine (HQ.out _ (Nat.le_trans hB HB1.out.size) (HT.out.on HB1.out hB)).mono ?_
    rintro e w2 ⟨rfl, hb2⟩
    have G1 := hide (below_blk hb2 G1.out (lt_blk G1.out))
    have G2 := hide (below_blk hb2 G2.out (lt_blk G2.out))
    have HB2 := hide (HB1.out.trans (hb2.mono HB1.out.size))
    clear hb2 c0 c1 c2 l2
    have c0 := cell_blk G2.out 0
    have c1 := cell_blk G2.out 1
    have c2 := cell_blk G2.out 2
    have l2 := lt_blk G2.out
    go_wp2_with fail
    refine (HL.out _ (Nat.le_trans hB HB2.out.size) (HT.out.on HB2.out hB)).mono ?_
    rintro e w3 ⟨rfl, hb3⟩
    have G1 := hide (below_blk hb3 G1.out (lt_blk G1.out))
    have G2 := hide (below_blk hb3 G2.out (lt_blk G2.out))
    have HB3 := hide (HB2.out.trans (hb3.mono HB2.out.size))
    clear hb3 c0 c1 c2 l2
    have k3 := cell_blk G1.out 3
    have k4 := cell_blk G1.out 4
    have k5 := cell_blk G1.out 5
    have k6 := cell_blk G1.out 6
    have k7 := cell_blk G1.out 7
    have k8 := cell_blk G1.out 8
    have l1 := lt_blk G1.out
    go_wp2_with fail
    refine (HS1.out _ (Nat.le_trans hB HB3.out.size) (HT.out.on HB3.out hB)).mono ?_
    rintro e w4 ⟨rfl, hb4⟩
    have X4 := hide (heap1 w4 (vecO d))
    have G1 := hide (below_blk (hb4.trans (X4.out.2.2.mono hb4.size)) G1.out (lt_blk G1.out))
    have G2 := hide (below_blk (hb4.trans (X4.out.2.2.mono hb4.size)) G2.out (lt_blk G2.out))
    have G3 := hide X4.out.1
    have HB4 := hide (HB3.out.trans ((hb4.trans (X4.out.2.2.mono hb4.size)).mono HB3.out.size))
    clear hb4 k3 k4 k5 k6 k7 k8 l1
    have k3 := cell_blk G1.out 3
    have k4 := cell_blk G1.out 4
    have k5 := cell_blk G1.out 5
    have c0 := cell_blk G2.out 0
    have c1 := cell_blk G2.out 1
    have c2 := cell_blk G2.out 2
    have l1 := lt_blk G1.out
    have l2 := lt_blk G2.out
    go_wp2_with fail
    refine (HS2.out _ (Nat.le_trans hB HB4.out.size) (HT.out.on HB4.out hB)).mono ?_
    rintro e w5 ⟨rfl, hb5⟩
    have X5 := hide (heap1 w5 (vecO t))
    have G1 := hide (below_blk (hb5.trans (X5.out.2.2.mono hb5.size)) G1.out (lt_blk G1.out))
    have G2 := hide (below_blk (hb5.trans (X5.out.2.2.mono hb5.size)) G2.out (lt_blk G2.out))
    have G3 := hide (below_blk (hb5.trans (X5.out.2.2.mono hb5.size)) G3.out (lt_blk G3.out))
    have HB5 := hide (HB4.out.trans ((hb5.trans (X5.out.2.2.mono hb5.size)).mono HB4.out.size))
    clear hb5 k3 k4 k5 c0 c1 c2 l1 l2
    have c0 := cell_blk G3.out 0
    have c1 := cell_blk G3.out 1
    have c2 := cell_blk G3.out 2
    have l2 := lt_blk G3.out
    go_wp2_with fail
    refine (HP.out _ (Nat.le_trans hB HB5.out.size) (HT.out.on HB5.out hB)).mono ?_
    rintro e w6 ⟨rfl, hb6⟩
    have G1 := hide (below_blk hb6 G1.out (lt_blk G1.out))
    have G2 := hide (below_blk hb6 G2.out (lt_blk G2.out))
    have HB6 := hide (HB5.out.trans (hb6.mono HB5.out.size))
    clear hb6 c0 c1 c2 l2 G3
    have k3 := cell_blk G1.out 3
    have k4 := cell_blk G1.out 4
    have k5 := cell_blk G1.out 5
    have c0 := cell_blk G2.out 0
    have c1 := cell_blk G2.out 1
    have c2 := cell_blk G2.out 2
    have l1 := lt_blk G1.out
    have l2 := lt_blk G2.out
    go_wp2_with fail
    refine (HC1.out _ (Nat.le_trans hB HB6.out.size) (HT.out.on HB6.out hB)).mono ?_
    rintro e w7 ⟨rfl, hb7⟩
    have G1 := hide (below_blk hb7 G1.out (lt_blk G1.out))
    have G2 := hide (below_blk hb7 G2.out (lt_blk G2.out))
    have HB7 := hide (HB6.out.trans (hb7.mono HB6.out.size))
    clear hb7 k3 k4 k5 c0 c1 c2 l1 l2
    have k6 := cell_blk G1.out 6
    have k7 := cell_blk G1.out 7
    have k8 := cell_blk G1.out 8
    have c0 := cell_blk G2.out 0
    have c1 := cell_blk G2.out 1
    have c2 := cell_blk G2.out 2
    have l1 := lt_blk G1.out
    have l2 := lt_blk G2.out
    go_wp2_with fail
    refine (HC2.out _ (Nat.le_trans hB HB7.out.size) (HT.out.on HB7.out hB)).mono ?_
    rintro e w8 ⟨rfl, hb8⟩
    have HB8 := hide (HB7.out.trans (hb8.mono HB7.out.size))
    clear hb8 k6 k7 k8 c0 c1 c2 l1 l2
    go_wp2_with fail
    refine bodyPost_ret (results_tmp2 rfl _ _ _) rfl ?_
    exact ⟨rfl, HB8.out⟩
end Go.Proofs.YtbfojhneajedmaaGreatDoor
namespace Go.Proofs.YtbfojhneajedmaaGreatDoor
open Go.RowKit Go.KP Go.KI Go.Shelf
attribute [local go_sem] Oper.semAt_some

theorem heap4d (w : World) (o1 o2 o3 o4 : Obj) : ((((w.alloc o1).alloc o2).alloc o3).alloc o4).heap[w.heap.size + 3]? = some o4 := by
  obtain ⟨_, _, _, a4, _⟩ := heap3 w o1 o2 o3
  obtain ⟨b1, _, _⟩ := heap1 (((w.alloc o1).alloc o2).alloc o3) o4
  rw [a4] at b1
  exact b1
set_option maxRecDepth 100000 in
set_option maxHeartbeats 4000000 in
theorem hofS_bad {g : Nat} (k f o : Int) (a b : S3) (wd dp : Int) (ha : tiny3 a) (hb : tiny3 b) (he : memE k f o a b wd dp ≠ 0) (B : Nat) (w : World) (hB : B ≤ w.heap.size) (hT : PQ B w) :
    Calls Tryz.prog 61 #[.agg #[.func (.func g) #[] #[]], memTV k f o a b wd dp] w (Ret w (.tuple #[noV, .int .i64 1])) := by
  have HT := hide hT
  have HC := hide (fun w hB hT => hCheck_any k f o a b wd dp ha hb B w hB hT)
  have hne : (memE k f o a b wd dp != 0) = true := by simpa using he
  obtain ⟨E, hE⟩ : ∃ E, E = memE k f o a b wd dp := ⟨_, rfl⟩
  rw [← hE] at HC hne
  have X0 := hide (heap4 w (.cells #[.func (.func g) #[] #[]] 100) (memTO k f o a b wd dp) (spotO ⟨#[]⟩ ⟨#[]⟩ ⟨#[]⟩) (spotO ⟨#[]⟩ ⟨#[]⟩ ⟨#[]⟩))
  have X4 := hide (heap4d w (.cells #[.func (.func g) #[] #[]] 100) (memTO k f o a b wd dp) (spotO ⟨#[]⟩ ⟨#[]⟩ ⟨#[]⟩) (spotO ⟨#[]⟩ ⟨#[]⟩ ⟨#[]⟩))
  clear hE he ha hb hT
  go_enter Tryz.func61, Tryz.ntmps61
  go_wp2_with fail
  refine (HC.out _ (Nat.le_trans hB X0.out.2.2.2.size) (HT.out.on X0.out.2.2.2 hB)).mono ?_
  rintro e w1 ⟨rfl, hb1⟩
  have G0 := hide (below_blk hb1 (X0.out.2.2.1) (lt_blk (X0.out.2.2.1)))
  have G1 := hide (below_blk hb1 (X4.out) (lt_blk (X4.out)))
  have HB1 := hide (Below.trans (X0.out.2.2.2) (hb1.mono (X0.out.2.2.2).size))
  clear hb1
  have q0_0 := cell_blk G0.out 0
  have q0_1 := cell_blk G0.out 1
  have q0_2 := cell_blk G0.out 2
  have q0_l := lt_blk G0.out
  have q1_0 := cell_blk G1.out 0
  have q1_1 := cell_blk G1.out 1
  have q1_2 := cell_blk G1.out 2
  have q1_l := lt_blk G1.out
  have f0 := froz_blk G0.out 0
  have f1 := froz_blk G0.out 1
  have f2 := froz_blk G0.out 2
  go_wp2_with fail
  exact exit_spotE rfl (set3c (set3b (set3a G0.out _) _) _) rfl rfl rfl ⟨rfl, below_spot HB1.out (show w.heap.size ≤ w.heap.size + 1 + 1 by omega) _ _ _⟩
set_option maxRecDepth 100000 in
set_option maxHeartbeats 4000000 in
theorem hofN_bad {g : Nat} (k f o : Int) (a b : S3) (wd dp : Int) (ha : tiny3 a) (hb : tiny3 b) (he : memE k f o a b wd dp ≠ 0) (B : Nat) (w : World) (hB : B ≤ w.heap.size) (hT : PQ B w) :
    Calls Tryz.prog 67 #[.agg #[.func (.func g) #[] #[]], memTV k f o a b wd dp] w (Ret w (.tuple #[.string ⟨#[]⟩, .int .i64 1])) := by
  have HT := hide hT
  have HC := hide (fun w hB hT => hCheck_any k f o a b wd dp ha hb B w hB hT)
  have hne : (memE k f o a b wd dp != 0) = true := by simpa using he
  obtain ⟨E, hE⟩ : ∃ E, E = memE k f o a b wd dp := ⟨_, rfl⟩
  rw [← hE] at HC hne
  have X0 := hide (heap2 w (.cells #[.func (.func g) #[] #[]] 103) (memTO k f o a b wd dp))
  clear hE he ha hb hT
  go_enter Tryz.func67, Tryz.ntmps67
  go_wp2_with fail
  refine (HC.out _ (Nat.le_trans hB X0.out.2.2.2.size) (HT.out.on X0.out.2.2.2 hB)).mono ?_
  rintro e w1 ⟨rfl, hb1⟩
  have HB1 := hide (Below.trans (X0.out.2.2.2) (hb1.mono (X0.out.2.2.2).size))
  clear hb1
  go_wp2_with fail
  refine bodyPost_ret (results_tmp2 rfl _ _ _) rfl ?_
  exact ⟨rfl, HB1.out⟩
set_option maxRecDepth 100000 in
set_option maxHeartbeats 4000000 in
theorem hDirection_bad (k f o : Int) (a b : S3) (wd dp : Int) (ha : tiny3 a) (hb : tiny3 b) (he : memE k f o a b wd dp ≠ 0) (B : Nat) (w : World) (hB : B ≤ w.heap.size) (hT : PQ B w) :
    Calls Tryz.prog 19 #[memTV k f o a b wd dp] w (Ret w (.tuple #[noV, .int .i64 1])) := by
  have HT := hide hT
  have HQ := hide (fun w hB hT => hofS_bad (g := 60) k f o a b wd dp ha hb he B w hB hT)
  have X0 := hide (heap2 w (memTO k f o a b wd dp) (spotO ⟨#[]⟩ ⟨#[]⟩ ⟨#[]⟩))
  clear he ha hb hT
  go_enter Tryz.func19, Tryz.ntmps19
  go_wp2_with fail
  refine (HQ.out _ (Nat.le_trans hB X0.out.2.2.2.size) (HT.out.on X0.out.2.2.2 hB)).mono ?_
  rintro e w1 ⟨rfl, hb1⟩
  have G0 := hide (below_blk hb1 (X0.out.2.1) (lt_blk (X0.out.2.1)))
  have HB1 := hide (Below.trans (X0.out.2.2.2) (hb1.mono (X0.out.2.2.2).size))
  clear hb1
  have q0_0 := cell_blk G0.out 0
  have q0_1 := cell_blk G0.out 1
  have q0_2 := cell_blk G0.out 2
  have q0_l := lt_blk G0.out
  have f0 := froz_blk G0.out 0
  have f1 := froz_blk G0.out 1
  have f2 := froz_blk G0.out 2
  go_wp2_with fail
  exact exit_spotE rfl (set3c (set3b (set3a G0.out _) _) _) rfl rfl rfl ⟨rfl, below_spot HB1.out (show w.heap.size ≤ w.heap.size + 1 by omega) _ _ _⟩
set_option maxRecDepth 100000 in
set_option maxHeartbeats 4000000 in
theorem hSide_bad (k f o : Int) (a b : S3) (wd dp : Int) (ha : tiny3 a) (hb : tiny3 b) (he : memE k f o a b wd dp ≠ 0) (B : Nat) (w : World) (hB : B ≤ w.heap.size) (hT : PQ B w) :
    Calls Tryz.prog 21 #[memTV k f o a b wd dp] w (Ret w (.tuple #[noV, .int .i64 1])) := by
  have HT := hide hT
  have HQ := hide (fun w hB hT => hofS_bad (g := 63) k f o a b wd dp ha hb he B w hB hT)
  have X0 := hide (heap2 w (memTO k f o a b wd dp) (spotO ⟨#[]⟩ ⟨#[]⟩ ⟨#[]⟩))
  clear he ha hb hT
  go_enter Tryz.func21, Tryz.ntmps21
  go_wp2_with fail
  refine (HQ.out _ (Nat.le_trans hB X0.out.2.2.2.size) (HT.out.on X0.out.2.2.2 hB)).mono ?_
  rintro e w1 ⟨rfl, hb1⟩
  have G0 := hide (below_blk hb1 (X0.out.2.1) (lt_blk (X0.out.2.1)))
  have HB1 := hide (Below.trans (X0.out.2.2.2) (hb1.mono (X0.out.2.2.2).size))
  clear hb1
  have q0_0 := cell_blk G0.out 0
  have q0_1 := cell_blk G0.out 1
  have q0_2 := cell_blk G0.out 2
  have q0_l := lt_blk G0.out
  have f0 := froz_blk G0.out 0
  have f1 := froz_blk G0.out 1
  have f2 := froz_blk G0.out 2
  go_wp2_with fail
  exact exit_spotE rfl (set3c (set3b (set3a G0.out _) _) _) rfl rfl rfl ⟨rfl, below_spot HB1.out (show w.heap.size ≤ w.heap.size + 1 by omega) _ _ _⟩
set_option maxRecDepth 100000 in
set_option maxHeartbeats 4000000 in
theorem hRise_bad (k f o : Int) (a b : S3) (wd dp : Int) (ha : tiny3 a) (hb : tiny3 b) (he : memE k f o a b wd dp ≠ 0) (B : Nat) (w : World) (hB : B ≤ w.heap.size) (hT : PQ B w) :
    Calls Tryz.prog 23 #[memTV k f o a b wd dp] w (Ret w (.tuple #[.string ⟨#[]⟩, .int .i64 1])) := by
  have HT := hide hT
  have HQ := hide (fun w hB hT => hofN_bad (g := 66) k f o a b wd dp ha hb he B w hB hT)
  have X0 := hide (heap1 w (memTO k f o a b wd dp))
  clear he ha hb hT
  go_enter Tryz.func23, Tryz.ntmps23
  go_wp2_with fail
  refine (HQ.out _ (Nat.le_trans hB X0.out.2.2.size) (HT.out.on X0.out.2.2 hB)).mono ?_
  rintro e w1 ⟨rfl, hb1⟩
  have HB1 := hide (Below.trans (X0.out.2.2) (hb1.mono (X0.out.2.2).size))
  clear hb1
  go_wp2_with fail
  refine bodyPost_ret (results_tmp2 rfl _ _ _) rfl ?_
  exact ⟨rfl, HB1.out⟩
set_option maxRecDepth 100000 in
set_option maxHeartbeats 4000000 in
theorem hMeets_bad (k f o : Int) (a b : S3) (wd dp : Int) (ha : tiny3 a) (hb : tiny3 b) (he : memE k f o a b wd dp ≠ 0) (q : S3) (B : Nat) (w : World) (hB : B ≤ w.heap.size) (hT : PQ B w) :
    Calls Tryz.prog 25 #[memTV k f o a b wd dp, s3V q] w (Ret w (.tuple #[.bool false, .int .i64 1])) := by
  have HT := hide hT
  have HC := hide (fun w hB hT => hCheck_any k f o a b wd dp ha hb B w hB hT)
  have hne : (memE k f o a b wd dp != 0) = true := by simpa using he
  obtain ⟨E, hE⟩ : ∃ E, E = memE k f o a b wd dp := ⟨_, rfl⟩
  rw [← hE] at HC hne
  have X0 := hide (heap2 w (memTO k f o a b wd dp) (s3O q))
  clear hE he ha hb hT
  go_enter Tryz.func25, Tryz.ntmps25
  go_wp2_with fail
  refine (HC.out _ (Nat.le_trans hB X0.out.2.2.2.size) (HT.out.on X0.out.2.2.2 hB)).mono ?_
  rintro e w1 ⟨rfl, hb1⟩
  have HB1 := hide (Below.trans (X0.out.2.2.2) (hb1.mono (X0.out.2.2.2).size))
  clear hb1
  go_wp2_with fail
  refine bodyPost_ret (results_tmp2 rfl _ _ _) rfl ?_
  exact ⟨rfl, HB1.out⟩
set_option maxRecDepth 100000 in
set_option maxHeartbeats 4000000 in
theorem hMeets_off (k f o : Int) (a b : S3) (wd dp : Int) (ha : tiny3 a) (hb : tiny3 b) (he : memE k f o a b wd dp = 0) (q : S3) (hq : tiny3 q) (hqe : chkS q ≠ 0) (B : Nat) (w : World) (hB : B ≤ w.heap.size) (hT : PQ B w) :
    Calls Tryz.prog 25 #[memTV k f o a b wd dp, s3V q] w (Ret w (.tuple #[.bool false, .int .i64 (chkS q)])) := by
  have HT := hide hT
  have HC := hide (fun w hB hT => hCheck_any k f o a b wd dp ha hb B w hB hT)
  have HQ := hide (fun w hB hT => vchk_S hq B w hB hT)
  rw [he] at HC
  have hne : (chkS q != 0) = true := by simpa using hqe
  obtain ⟨E, hE⟩ : ∃ E, E = chkS q := ⟨_, rfl⟩
  rw [← hE] at HQ hne ⊢
  have X0 := hide (heap2 w (memTO k f o a b wd dp) (s3O q))
  clear hE he ha hb hT hq hqe
  go_enter Tryz.func25, Tryz.ntmps25
  go_wp2_with fail
  refine (HC.out _ (Nat.le_trans hB X0.out.2.2.2.size) (HT.out.on X0.out.2.2.2 hB)).mono ?_
  rintro e w1 ⟨rfl, hb1⟩
  have G0 := hide (below_blk hb1 (X0.out.2.1) (lt_blk (X0.out.2.1)))
  have HB1 := hide (Below.trans (X0.out.2.2.2) (hb1.mono (X0.out.2.2.2).size))
  clear hb1
  have q0_0 := cell_blk G0.out 0
  have q0_1 := cell_blk G0.out 1
  have q0_2 := cell_blk G0.out 2
  have q0_l := lt_blk G0.out
  go_wp2_with fail
  refine (HQ.out _ (Nat.le_trans hB HB1.out.size) (HT.out.on HB1.out hB)).mono ?_
  rintro e w2 ⟨rfl, hb2⟩
  clear q0_0 q0_1 q0_2 q0_l
  have G0 := hide (below_blk hb2 G0.out (lt_blk G0.out))
  have HB2 := hide (Below.trans (HB1.out) (hb2.mono (HB1.out).size))
  clear hb2
  have q0_0 := cell_blk G0.out 0
  have q0_1 := cell_blk G0.out 1
  have q0_2 := cell_blk G0.out 2
  have q0_l := lt_blk G0.out
  go_wp2_with fail
  refine bodyPost_ret (results_tmp2 rfl _ _ _) rfl ?_
  exact ⟨rfl, HB2.out⟩
end Go.Proofs.YtbfojhneajedmaaGreatDoor
namespace Go.KI
open Go

/-- Is a number between two others? -/
def withinP (a b n : Rat) : Prop := (cmpR a n ≤ 0 ∧ cmpR n b ≤ 0) ∨ (0 ≤ cmpR a n ∧ 0 ≤ cmpR n b)
instance (a b n : Rat) : Decidable (withinP a b n) := inferInstanceAs (Decidable (_ ∨ _))
theorem cmpR_le {x y : Rat} : cmpR x y ≤ 0 ↔ x ≤ y := by
  rcases cmpR_cases x y with ⟨e, h⟩ | ⟨e, h⟩ | ⟨e, h⟩ <;> rw [e]
  · exact ⟨fun _ => Rat.le_of_lt h, fun _ => by decide⟩
  · exact ⟨fun _ => by rw [h]; exact Rat.le_refl, fun _ => by decide⟩
  · exact ⟨fun h2 => absurd h2 (by decide), fun h2 => absurd h (Rat.not_lt.2 h2)⟩
theorem cmpR_ge {x y : Rat} : 0 ≤ cmpR x y ↔ y ≤ x := by
  rcases cmpR_cases x y with ⟨e, h⟩ | ⟨e, h⟩ | ⟨e, h⟩ <;> rw [e]
  · exact ⟨fun h2 => absurd h2 (by decide), fun h2 => absurd h (Rat.not_lt.2 h2)⟩
  · exact ⟨fun _ => by rw [h]; exact Rat.le_refl, fun _ => by decide⟩
  · exact ⟨fun _ => Rat.le_of_lt h, fun _ => by decide⟩
theorem within_iff {a b n : Rat} : withinP a b n ↔ ((a ≤ n ∧ n ≤ b) ∨ (n ≤ a ∧ b ≤ n)) := by
  unfold withinP
  rw [cmpR_le, cmpR_le, cmpR_ge, cmpR_ge]
/-- A spot on the line of an axis is at some share. -/
theorem share_of {p q r : V3} (hne : p ≠ q) (hc : vcross (vsub q p) (vsub r p) = vzero) : ∃ s : Rat, r = vadd p (vmul (vsub q p) (vall s)) := by
  obtain ⟨px, py, pz⟩ := p
  obtain ⟨qx, qy, qz⟩ := q
  obtain ⟨rx, ry, rz⟩ := r
  unfold vcross vsub vzero at hc
  rw [V3.mk.injEq] at hc
  obtain ⟨c1, c2, c3⟩ := hc
  dsimp only at c1 c2 c3
  unfold vadd vmul vsub vall
  dsimp only
  by_cases hx : qx - px = 0
  · by_cases hy : qy - py = 0
    · by_cases hz : qz - pz = 0
      · exact absurd (V3.ext (by grind) (by grind) (by grind)) hne
      · refine ⟨(rz - pz) / (qz - pz), V3.ext ?_ ?_ ?_⟩ <;> dsimp only <;> grind
    · refine ⟨(ry - py) / (qy - py), V3.ext ?_ ?_ ?_⟩ <;> dsimp only <;> grind
  · refine ⟨(rx - px) / (qx - px), V3.ext ?_ ?_ ?_⟩ <;> dsimp only <;> grind
theorem within_share {a b s : Rat} : (0 ≤ s ∧ s ≤ 1) → withinP a b (a + (b - a) * s) := by
  rintro ⟨h0, h1⟩
  rw [within_iff]
  rcases Rat.le_total (a := a) (b := b) with h | h
  · left
    have k1 : 0 ≤ (b - a) * s := Rat.mul_nonneg (by grind) h0
    have k2 : 0 ≤ (b - a) * (1 - s) := Rat.mul_nonneg (by grind) (by grind)
    constructor <;> grind
  · right
    have k1 : 0 ≤ (a - b) * s := Rat.mul_nonneg (by grind) h0
    have k2 : 0 ≤ (a - b) * (1 - s) := Rat.mul_nonneg (by grind) (by grind)
    constructor <;> grind
theorem share_within {a b s : Rat} (hne : a ≠ b) (h : withinP a b (a + (b - a) * s)) : 0 ≤ s ∧ s ≤ 1 := by
  rw [within_iff] at h
  rcases Rat.le_total (a := a) (b := b) with hl | hl
  · have hp : 0 < b - a := Rat.not_le.1 (fun h2 => hne (by grind))
    have k : 0 ≤ (b - a) * s ∧ (b - a) * s ≤ b - a := by
      rcases h with ⟨u, v⟩ | ⟨u, v⟩
      · constructor <;> grind
      · constructor <;> grind
    constructor
    · rcases Rat.le_total (a := 0) (b := s) with g | g
      · exact g
      · have := Rat.mul_nonneg (Rat.le_of_lt hp) (show 0 ≤ -s by grind)
        have h3 : (b - a) * s = 0 := by grind
        rcases Rat.mul_eq_zero.1 h3 with e | e <;> grind
    · rcases Rat.le_total (a := s) (b := 1) with g | g
      · exact g
      · have := Rat.mul_nonneg (Rat.le_of_lt hp) (show 0 ≤ s - 1 by grind)
        have h3 : (b - a) * (s - 1) = 0 := by grind
        rcases Rat.mul_eq_zero.1 h3 with e | e <;> grind
  · have hp : 0 < a - b := Rat.not_le.1 (fun h2 => hne (by grind))
    have k : 0 ≤ (a - b) * s ∧ (a - b) * s ≤ a - b := by
      rcases h with ⟨u, v⟩ | ⟨u, v⟩
      · constructor <;> grind
      · constructor <;> grind
    constructor
    · rcases Rat.le_total (a := 0) (b := s) with g | g
      · exact g
      · have := Rat.mul_nonneg (Rat.le_of_lt hp) (show 0 ≤ -s by grind)
        have h3 : (a - b) * s = 0 := by grind
        rcases Rat.mul_eq_zero.1 h3 with e | e <;> grind
    · rcases Rat.le_total (a := s) (b := 1) with g | g
      · exact g
      · have := Rat.mul_nonneg (Rat.le_of_lt hp) (show 0 ≤ s - 1 by grind)
        have h3 : (a - b) * (s - 1) = 0 := by grind
        rcases Rat.mul_eq_zero.1 h3 with e | e <;> grind
/-- Both ways to say that a spot is on an axis agree. -/
theorem meets_within {p q r : V3} (hne : p ≠ q) : meetsP p q r ↔ (vcross (vsub q p) (vsub r p) = vzero ∧ withinP p.x q.x r.x ∧ withinP p.y q.y r.y ∧ withinP p.z q.z r.z) := by
  by_cases hc : vcross (vsub q p) (vsub r p) = vzero
  · obtain ⟨s, rfl⟩ := share_of hne hc
    rw [meets_share hne s]
    constructor
    · intro h
      exact ⟨hc, within_share h, within_share h, within_share h⟩
    · rintro ⟨_, h1, h2, h3⟩
      by_cases hx : p.x = q.x
      · by_cases hy : p.y = q.y
        · have hz : p.z ≠ q.z := fun e => hne (V3.ext hx hy e)
          exact share_within hz h3
        · exact share_within hy h2
      · exact share_within hx h1
  · constructor
    · intro h
      exact absurd h.1 hc
    · intro h
      exact absurd h.1 hc
end Go.KI
namespace Go.Proofs.YtbfojhneajedmaaGreatDoor
open Go.RowKit Go.KP Go.KI Go.Shelf
attribute [local go_sem] Oper.semAt_some

/-- What ints returns: the parts, if both are short. -/
def intsV (l : List UInt8) : Value :=
  if 9 < (KI.ahead 47 (digs l)).length ∨ 9 < (if 47 ∈ digs l then KI.behind 47 (digs l) else []).length then .tuple #[.int .i64 0, .int .i64 0, .bool false]
  else .tuple #[.int .i64 (if isNeg l then -(dv (KI.ahead 47 (digs l)) : Int) else (dv (KI.ahead 47 (digs l)) : Int)), .int .i64 (if 47 ∈ digs l then (dv (KI.behind 47 (digs l)) : Int) else 1), .bool true]

theorem ret3v {f : Func} {R : Ending → World → Prop} {a : Act} {W : World} {t0 t1 t2 : Tmp} {v0 v1 v2 : Value} (hf : f.results = #[.tmp t0, .tmp t1, .tmp t2]) (h0 : a.tmps[t0]? = some v0) (h1 : a.tmps[t1]? = some v1) (h2 : a.tmps[t2]? = some v2) (hd : a.defers = []) (hR : R (.returned (.tuple #[v0, v1, v2])) W) :
    bodyPost Tryz.prog f R .ret a W := by
  refine bodyPost_ret ?_ hd hR
  simp [results, hf, go_sem, h0, h1, h2]

set_option maxRecDepth 100000 in
set_option maxHeartbeats 4000000 in
theorem r2ints_any (s : ByteArray) (hs : s.size ≤ 1000000) (hn : ∀ c ∈ KI.ahead 47 (digs s.data.toList), isDg c = true) (hd : 47 ∈ digs s.data.toList → ∀ c ∈ KI.behind 47 (digs s.data.toList), isDg c = true) (w : World) :
    Calls Tryz.prog 145 #[.string s] w (Ret w (intsV s.data.toList)) := by
  obtain ⟨V, hV⟩ : ∃ V, V = intsV s.data.toList := ⟨_, rfl⟩
  rw [← hV]
  have HS := hide (fun w => r2split_any s hs w)
  obtain ⟨nn, hnn⟩ : ∃ x, x = KI.ahead 47 (digs s.data.toList) := ⟨_, rfl⟩
  obtain ⟨dd, hdd⟩ : ∃ x, x = (if 47 ∈ digs s.data.toList then KI.behind 47 (digs s.data.toList) else []) := ⟨_, rfl⟩
  obtain ⟨neg, hneg⟩ : ∃ x, x = isNeg s.data.toList := ⟨_, rfl⟩
  obtain ⟨sl, hsl⟩ : ∃ x, x = decide (47 ∈ digs s.data.toList) := ⟨_, rfl⟩
  have hd2 : ∀ c ∈ dd, isDg c = true := by
    rw [hdd]
    intro c hc
    split at hc
    · next h => exact hd h c hc
    · cases hc
  have hV2 : V = if 9 < nn.length ∨ 9 < dd.length then .tuple #[.int .i64 0, .int .i64 0, .bool false]
      else .tuple #[.int .i64 (if neg then -(dv nn : Int) else (dv nn : Int)), .int .i64 (if sl then (dv dd : Int) else 1), .bool true] := by
    rw [hV, intsV, ← hnn, ← hdd, ← hneg]
    split
    · rfl
    · by_cases h : 47 ∈ digs s.data.toList
      · rw [hsl, hdd]
        simp [h]
      · rw [hsl, hdd]
        simp [h]
  unfold splitR at HS
  rw [← hnn, ← hdd, ← hneg, ← hsl] at HS
  rw [← hnn] at hn
  clear hsl hneg hdd hnn hd hV hs
  obtain ⟨NN, hNN⟩ : ∃ x, x = strB nn := ⟨_, rfl⟩
  obtain ⟨DD, hDD⟩ : ∃ x, x = strB dd := ⟨_, rfl⟩
  have hNs : NN.size = nn.length := by rw [hNN, strB_size]
  have hDs : DD.size = dd.length := by rw [hDD, strB_size]
  have HM := hide (fun (h : NN.size ≤ 18) (w : World) => r2small_any NN (by rw [hNN, strB_list]; exact hn) h w)
  have HM2 := hide (fun (h : DD.size ≤ 18) (w : World) => r2small_any DD (by rw [hDD, strB_list]; exact hd2) h w)
  have e1 : NN.data.toList = nn := by rw [hNN, strB_list]
  have e2 : DD.data.toList = dd := by rw [hDD, strB_list]
  rw [e1] at HM
  rw [e2] at HM2
  rw [← hNN, ← hDD] at HS
  rw [← hNs, ← hDs] at hV2
  have hm1 : NN.size ≤ 9 → dv nn < 10 ^ 9 := by
    intro h
    exact Nat.lt_of_lt_of_le (dv_lt _ hn) (Nat.pow_le_pow_right (by omega) (by omega))
  have hm2 : DD.size ≤ 9 → dv dd < 10 ^ 9 := by
    intro h
    exact Nat.lt_of_lt_of_le (dv_lt _ hd2) (Nat.pow_le_pow_right (by omega) (by omega))
  clear hNN hDD hNs hDs e1 e2 hn hd2
  obtain ⟨x, hx⟩ : ∃ x, x = dv nn := ⟨_, rfl⟩
  obtain ⟨y, hy⟩ : ∃ x, x = dv dd := ⟨_, rfl⟩
  rw [← hx] at hm1 hV2 HM
  rw [← hy] at hm2 hV2 HM2
  clear hx hy
  by_cases g1 : 9 < NN.size
  · rw [if_pos (.inl g1)] at hV2
    have HV := hide hV2
    have g1i : (9 : Int) < (NN.size : Int) := by omega
    clear hV2 hm1 hm2 HM HM2 g1
    go_enter Tryz.func145, Tryz.ntmps145
    go_wp2_with fail
    refine (HS.out _).mono ?_
    rintro e w1 ⟨rfl, hb1⟩
    have HB1 := hide hb1
    clear hb1
    go_wp2_with fail
    refine ret3v rfl rfl rfl rfl rfl ?_
    exact ⟨by rw [HV.out]; rfl, HB1.out⟩
  have g1i : (NN.size : Int) ≤ 9 := by omega
  by_cases g2 : 9 < DD.size
  · rw [if_pos (.inr g2)] at hV2
    have HV := hide hV2
    have g2i : (9 : Int) < (DD.size : Int) := by omega
    clear hV2 hm1 hm2 HM HM2 g1 g2
    go_enter Tryz.func145, Tryz.ntmps145
    go_wp2_with fail
    refine (HS.out _).mono ?_
    rintro e w1 ⟨rfl, hb1⟩
    have HB1 := hide hb1
    clear hb1
    go_wp2_with fail
    refine ret3v rfl rfl rfl rfl rfl ?_
    exact ⟨by rw [HV.out]; rfl, HB1.out⟩
  have g2i : (DD.size : Int) ≤ 9 := by omega
  rw [if_neg (by omega)] at hV2
  have HM3 := hide (HM.out (by omega))
  have HM4 := hide (HM2.out (by omega))
  have hx1 : (x : Int) < 1000000000 := by have := hm1 (by omega); omega
  have hy1 : (y : Int) < 1000000000 := by have := hm2 (by omega); omega
  have hx0 : (0 : Int) ≤ (x : Int) := by omega
  have HV := hide hV2
  clear hV2 hm1 hm2 HM HM2
  have f1 : ((9 : Int) < (NN.size : Int)) = False := eq_false (by omega)
  have f2 : ((9 : Int) < (DD.size : Int)) = False := eq_false (by omega)
  have f3 : (9 < NN.size) = False := eq_false g1
  have f4 : (9 < DD.size) = False := eq_false g2
  clear g1 g2 g1i g2i
  cases sl <;> cases neg
  · go_enter Tryz.func145, Tryz.ntmps145
    go_wp2_with fail
    refine (HS.out _).mono ?_
    rintro e w1 ⟨rfl, hb1⟩
    have HB1 := hide hb1
    clear hb1
    go_wp2_with fail
    refine (HM3.out _).mono ?_
    rintro e w2 ⟨rfl, hb2⟩
    have HB2 := hide (HB1.out.trans (hb2.mono HB1.out.size))
    clear hb2
    go_wp2_with fail
    refine ret3v rfl rfl rfl rfl rfl ?_
    exact ⟨by rw [HV.out]; rfl, HB2.out⟩
  · go_enter Tryz.func145, Tryz.ntmps145
    go_wp2_with fail
    refine (HS.out _).mono ?_
    rintro e w1 ⟨rfl, hb1⟩
    have HB1 := hide hb1
    clear hb1
    go_wp2_with fail
    refine (HM3.out _).mono ?_
    rintro e w2 ⟨rfl, hb2⟩
    have HB2 := hide (HB1.out.trans (hb2.mono HB1.out.size))
    clear hb2
    go_wp2_with fail
    refine ret3v rfl rfl rfl rfl rfl ?_
    exact ⟨by rw [HV.out]; rfl, HB2.out⟩
  all_goals
    go_enter Tryz.func145, Tryz.ntmps145
    go_wp2_with fail
    refine (HS.out _).mono ?_
    rintro e w1 ⟨rfl, hb1⟩
    have HB1 := hide hb1
    clear hb1
    go_wp2_with fail
    refine (HM3.out _).mono ?_
    rintro e w2 ⟨rfl, hb2⟩
    have HB2 := hide (HB1.out.trans (hb2.mono HB1.out.size))
    clear hb2
    go_wp2_with fail
    refine (HM4.out _).mono ?_
    rintro e w3 ⟨rfl, hb3⟩
    have HB3 := hide (HB2.out.trans (hb3.mono HB2.out.size))
    clear hb3
    go_wp2_with fail
    refine ret3v rfl rfl rfl rfl rfl ?_
    exact ⟨by rw [HV.out]; rfl, HB3.out⟩
end Go.Proofs.YtbfojhneajedmaaGreatDoor
namespace Go.KI
open Go
theorem ratS_head {q : Rat} : (ratS q).head? = some 45 ↔ q.num < 0 := by
  have h : ∀ z : Int, (Lib.itoa z).head? = some 45 ↔ z < 0 := fun z => by
    rcases itoa_cases z with ⟨h1, h⟩ | ⟨h1, h⟩ <;> rw [h]
    · exact ⟨fun _ => h1, fun _ => rfl⟩
    · exact ⟨fun e => absurd e (dec_head45 _), fun e => by omega⟩
  unfold ratS
  split
  · exact h _
  · rw [← h q.num]
    cases hz : Lib.itoa q.num with
    | nil => exact absurd hz (by
        rcases itoa_cases q.num with ⟨_, h⟩ | ⟨_, h⟩ <;> rw [h]
        · simp
        · exact decDigits_ne _)
    | cons c r => rfl
end Go.KI
namespace Go.Proofs.YtbfojhneajedmaaGreatDoor
open Go.RowKit Go.KP Go.KI Go.Shelf
attribute [local go_sem] Oper.semAt_some

end Go.Proofs.YtbfojhneajedmaaGreatDoor
namespace Go.Proofs.YtbfojhneajedmaaGreatDoor
open Go.RowKit Go.KP Go.KI Go.Shelf
attribute [local go_sem] Oper.semAt_some

theorem list_is {s : ByteArray} {l m : List UInt8} (h : s.data.toList = l) : (s.toList == m) = decide (l = m) := by
  by_cases e : l = m
  · rw [(lit_eq h).1 e, decide_eq_true e]
  · rw [(lit_eq h).2 e, decide_eq_false e]
/-- An integer's text. -/
def iB (z : Int) : ByteArray := strB (Lib.itoa z)
theorem iB_list (z : Int) : (iB z).data.toList = Lib.itoa z := strB_list _
theorem iB_size {z : Int} (h : fits z) : (iB z).size ≤ 301 := fits_size (iB_list z) h
theorem iB_nonneg {z : Int} (h : 0 ≤ z) : (iB z).data.toList = Lib.decDigits z.natAbs := by
  rw [iB_list]
  rcases itoa_cases z with ⟨a, _⟩ | ⟨_, b⟩
  · omega
  · exact b
theorem iB_head (z : Int) : ∃ h : 0 < (iB z).size, (((((iB z)[0]'h).toNat : Nat) : Int) == 45) = decide (z < 0) := by
  have hne : (iB z).data.toList ≠ [] := by
    rw [iB_list]
    rcases itoa_cases z with ⟨_, a⟩ | ⟨_, a⟩ <;> rw [a]
    · simp
    · exact decDigits_ne _
  obtain ⟨hp, hh⟩ := bytes_head hne
  refine ⟨hp, ?_⟩
  rw [iB_list] at hh
  have h2 := head_itoa z
  rw [hh] at h2
  by_cases h : z < 0
  · have h3 := h2.2 h
    injection h3 with h3
    rw [h3, decide_eq_true h]
    rfl
  · rw [decide_eq_false h]
    simp only [beq_eq_false_iff_ne, ne_eq]
    intro e
    refine h (h2.1 ?_)
    congr 1
    apply UInt8.toNat_inj.1
    have e2 : (45 : UInt8).toNat = 45 := rfl
    omega
theorem iB_neg_drop {z : Int} (h : z < 0) : (iB z).extract 1 (iB z).size = iB (-z) := by
  rw [ext_drop, iB_list]
  rcases itoa_cases z with ⟨_, a⟩ | ⟨a, _⟩
  · rw [a]
    apply bytes_eq
    rw [strB_list, iB_nonneg (by omega), List.drop_succ_cons, List.drop_zero]
    congr 1
    omega
  · omega
theorem iB_pos_neg {z : Int} (h : 0 < z) : (⟨#[45]⟩ : ByteArray) ++ iB z = iB (-z) := by
  apply bytes_eq
  rw [iB_list]
  rcases itoa_cases (-z) with ⟨_, a⟩ | ⟨a, _⟩
  · rw [a]
    have e : ((⟨#[45]⟩ : ByteArray) ++ iB z).data.toList = 45 :: (iB z).data.toList := by simp
    rw [e, iB_nonneg (by omega)]
    congr 2
    omega
  · omega
theorem iB_zero_test (z : Int) : ((iB z).toList == [48]) = decide (z = 0) := by
  rw [list_is (iB_list z)]
  refine decide_eq_decide.2 ⟨fun e => itoa_inj (e.trans itoa_zero.symm), fun e => by rw [e, itoa_zero]⟩
theorem iB_one_test (z : Int) : ((iB z).toList == [49]) = decide (z = 1) := by
  rw [list_is (iB_list z)]
  refine decide_eq_decide.2 ⟨fun e => itoa_inj (e.trans itoa_one.symm), fun e => by rw [e, itoa_one]⟩
theorem iB1 : iB 1 = ⟨#[49]⟩ := bytes_eq (by rw [iB_list, itoa_one])
theorem iB_both {x y : Int} (f1 : fits x) (f2 : fits y) : chkI (iB x).data.toList = 0 ∧ chkI (iB y).data.toList = 0 ∧ bothI (iB x).data.toList (iB y).data.toList = 0 ∧ (iB x).size ≤ 1000000 ∧ (iB y).size ≤ 1000000 ∧ valI (iB x).data.toList = x ∧ valI (iB y).data.toList = y := by
  have c1 : chkI (iB x).data.toList = 0 := by rw [iB_list]; exact chk_fits f1
  have c2 : chkI (iB y).data.toList = 0 := by rw [iB_list]; exact chk_fits f2
  have l1 := iB_size f1
  have l2 := iB_size f2
  exact ⟨c1, c2, by unfold bothI; rw [if_pos c1, c2], by omega, by omega, by rw [iB_list, val_itoa], by rw [iB_list, val_itoa]⟩
theorem resI_yes {z : Int} (h : fits z) : pairV (resS z) (resE z) = .tuple #[.string (iB z), .int .i64 0] := by
  unfold resS resE
  rw [if_pos h, if_pos h]
  rfl
theorem resI_no {z : Int} (h : ¬ fits z) : pairV (resS z) (resE z) = .tuple #[.string ⟨#[]⟩, .int .i64 4] := by
  unfold resS resE
  rw [if_neg h, if_neg h]
  rfl
end Go.Proofs.YtbfojhneajedmaaGreatDoor
