/-
  Plain laws of free parts and pieces: what is free and the gaps divide the bar; what is laid lies well and early; fewer pieces and a smaller kerf.
-/
import Derived.Test.YtfljmbdnnjjmoaaDoorSQ
import Derived.Test.YtfljmbdnnjjmoaaDoorS5
namespace Go.Proofs.YtfljmbdnnjjmoaaDoor
open Go.KP

/-- The lengths of parts together. -/
def sumP : List (Int × Int) → Int
  | [] => 0
  | (f, t) :: r => (t - f) + sumP r
theorem okFrom_mono : ∀ (l : List (Int × Int)) (ln q q2 : Int), q2 ≤ q → okFrom ln q l → okFrom ln q2 l := by
  intro l ln q q2 hq h
  cases l with
  | nil => trivial
  | cons x r => obtain ⟨f, t⟩ := x; exact ⟨by have := h.1; omega, h.2⟩
theorem emit_sum : ∀ (gs : List (Int × Int)) (ln p : Int), p ≤ ln → okFrom ln p gs → sumP (emit p (gs ++ [(ln, ln)])) + sumP gs = ln - p := by
  intro gs
  induction gs with
  | nil =>
    intro ln p hp _
    simp only [List.nil_append, emit]
    split <;> simp [sumP] <;> omega
  | cons g r ih =>
    intro ln p hp h
    obtain ⟨f, t⟩ := g
    obtain ⟨h1, h2, h3, h4⟩ := h
    have := ih ln t h3 (okFrom_mono _ _ _ _ (by omega) h4)
    simp only [List.cons_append, emit, sumP]
    split
    · simp only [sumP]; omega
    · omega
theorem okFrom_ge : ∀ (l : List (Int × Int)) (ln q : Int), okFrom ln q l → ∀ g ∈ l, q ≤ g.1 := by
  intro l
  induction l with
  | nil => intro _ _ _ g hg; cases hg
  | cons x r ih =>
    intro ln q h g hg
    obtain ⟨f, t⟩ := x
    rcases List.mem_cons.1 hg with rfl | hg
    · exact h.1
    · have := ih ln (t + 1) h.2.2.2 g hg
      have h1 := h.1
      have h2 := h.2.1
      omega
theorem emit_ge : ∀ (gs : List (Int × Int)) (ln p : Int), okFrom ln p gs → ∀ x ∈ emit p (gs ++ [(ln, ln)]), p ≤ x.1 := by
  intro gs
  induction gs with
  | nil =>
    intro ln p _ x hx
    simp only [List.nil_append, emit] at hx
    split at hx
    · simp at hx; rw [hx]; exact Int.le_refl _
    · cases hx
  | cons g r ih =>
    intro ln p h x hx
    obtain ⟨f, t⟩ := g
    obtain ⟨h1, h2, h3, h4⟩ := h
    have key := ih ln t (okFrom_mono _ _ _ _ (by omega) h4)
    simp only [List.cons_append, emit] at hx
    split at hx
    · rcases List.mem_cons.1 hx with rfl | hx
      · exact Int.le_refl _
      · have := key x hx; omega
    · have := key x hx; omega
def meets (x g : Int × Int) : Bool := decide (x.1 < g.2) && decide (g.1 < x.2)
theorem emit_apart : ∀ (gs : List (Int × Int)) (ln p : Int), okFrom ln p gs → ∀ x ∈ emit p (gs ++ [(ln, ln)]), ∀ g ∈ gs, meets x g = false := by
  intro gs
  induction gs with
  | nil => intro _ _ _ _ _ g hg; cases hg
  | cons g r ih =>
    intro ln p h x hx y hy
    obtain ⟨f, t⟩ := g
    obtain ⟨h1, h2, h3, h4⟩ := h
    have h4' := okFrom_mono _ _ _ _ (show t ≤ t + 1 by omega) h4
    have key := ih ln t h4'
    have kge := emit_ge r ln t h4'
    have gge := okFrom_ge r ln (t + 1) h4
    have hx2 : x = (p, f) ∨ x ∈ emit t (r ++ [(ln, ln)]) := by
      simp only [List.cons_append, emit] at hx
      split at hx
      · rcases List.mem_cons.1 hx with rfl | hx
        · exact .inl rfl
        · exact .inr hx
      · exact .inr hx
    rcases hx2 with rfl | hx2
    · rcases List.mem_cons.1 hy with rfl | hy
      · simp [meets]
      · have := gge y hy
        simp [meets]; omega
    · rcases List.mem_cons.1 hy with rfl | hy
      · have := kge x hx2
        simp [meets]; omega
      · exact key x hx2 y hy
theorem parts_sum {ln : Int} {gs : List (Int × Int)} (h0 : 0 ≤ ln) (h : okFrom ln 0 gs) : sumP (parts ln gs) + sumP gs = ln := by
  have := emit_sum gs ln 0 h0 h
  simpa [parts] using this
theorem parts_apart {ln : Int} {gs : List (Int × Int)} (h : okFrom ln 0 gs) (i : Nat) (hi : i < (parts ln gs).length) : gs.any (fun g => meets (gF (parts ln gs) i, gT (parts ln gs) i) g) = false := by
  rw [List.any_eq_false]
  intro g hg
  have := emit_apart gs ln 0 h (parts ln gs)[i] (List.getElem_mem hi) g hg
  have e : (gF (parts ln gs) i, gT (parts ln gs) i) = (parts ln gs)[i] := by simp [gF, gT, hi]
  rw [e, this]
  simp
theorem partsOk_next : ∀ (l : List (Int × Int)) (ln q : Int), partsOk ln q l → ∀ i, i + 1 < l.length → gT l i < gF l (i + 1) := by
  intro l
  induction l with
  | nil => intro _ _ _ i hi; simp at hi
  | cons x r ih =>
    intro ln q h i hi
    obtain ⟨f, t⟩ := x
    cases i with
    | zero =>
      have := partsOk_at r ln (t + 1) h.2.2.2 0 (by simpa using hi)
      simp only [gF, gT] at this ⊢
      simp
      omega
    | succ i =>
      have := ih ln (t + 1) h.2.2.2 i (by simpa using hi)
      simpa [gF, gT] using this
theorem sumP_take (l : List (Int × Int)) (k : Nat) (h : k < l.length) : sumP (l.take (k + 1)) = sumP (l.take k) + (gT l k - gF l k) := by
  have key : ∀ a : List (Int × Int), ∀ x : Int × Int, sumP (a ++ [x]) = sumP a + (x.2 - x.1) := by
    intro a x
    induction a with
    | nil => obtain ⟨f, t⟩ := x; simp [sumP]
    | cons y r ih => obtain ⟨f, t⟩ := y; simp only [List.cons_append, sumP, ih]; omega
  rw [List.take_succ_eq_append_getElem h, key]
  simp [gF, gT, h]
theorem sumP_bound (l : List (Int × Int)) (ln : Int) (h : ∀ i, i < l.length → 0 ≤ gF l i ∧ gF l i < gT l i ∧ gT l i ≤ ln) (hl : ln ≤ 65536) : ∀ k, k ≤ l.length → 0 ≤ sumP (l.take k) ∧ sumP (l.take k) ≤ 65536 * (k : Int) := by
  intro k
  induction k with
  | zero => intro _; simp [sumP]
  | succ k ih =>
    intro hk
    have h1 := ih (by omega)
    have h2 := h k (by omega)
    rw [sumP_take l k (by omega)]
    omega
theorem okFrom_at2 : ∀ (l : List (Int × Int)) (ln q : Int), okFrom ln q l → 0 ≤ q → ∀ i, i < l.length → 0 ≤ gF l i ∧ gF l i < gT l i ∧ gT l i ≤ ln := by
  intro l
  induction l with
  | nil => intro _ _ _ _ i hi; simp at hi
  | cons x r ih =>
    intro ln q h hq i hi
    obtain ⟨f, t⟩ := x
    cases i with
    | zero => simp only [gF, gT]; simp; exact ⟨by have := h.1; omega, h.2.1, h.2.2.1⟩
    | succ i =>
      have := ih ln (t + 1) h.2.2.2 (by have := h.1; have := h.2.1; omega) i (by simpa using hi)
      simpa [gF, gT] using this

/-- Where pieces begin that are filled into one part. -/
theorem fill_pos (t k : Int) : ∀ (ls : List Int) (p : Int), (∀ i, i < (fill t k p ls).1.length → i < ls.length ∧ (fill t k p ls).1[i]?.getD 0 = p + sumK k (ls.take i) ∧ p + sumK k (ls.take i) + ls[i]?.getD 0 ≤ t) ∧
    (fill t k p ls).2 = ls.drop (fill t k p ls).1.length ∧ ((fill t k p ls).1.length < ls.length → t < p + sumK k (ls.take (fill t k p ls).1.length) + ls[(fill t k p ls).1.length]?.getD 0) ∧ (fill t k p ls).1.length ≤ ls.length := by
  intro ls
  induction ls with
  | nil => intro p; simp [fill]
  | cons n r ih =>
    intro p
    simp only [fill]
    by_cases h : p + n ≤ t
    · rw [if_pos h]
      obtain ⟨h1, h2, h3, h4⟩ := ih (p + (n + k))
      refine ⟨fun i hi => ?_, by simpa using h2, fun hl => ?_, by simpa using h4⟩
      · cases i with
        | zero => simp [sumK, h]
        | succ i =>
          obtain ⟨g1, g2, g3⟩ := h1 i (by simpa using hi)
          simp only [List.getElem?_cons_succ, List.take_succ_cons, sumK, List.length_cons]
          exact ⟨by omega, by rw [g2]; omega, by omega⟩
      · have := h3 (by simpa using hl)
        simp only [List.length_cons, List.take_succ_cons, List.getElem?_cons_succ, sumK]
        omega
    · rw [if_neg h]
      simp [sumK]
      omega
theorem sumK_step {k : Int} (ls : List Int) (j : Nat) (h : j < ls.length) : sumK k (ls.take (j + 1)) = sumK k (ls.take j) + (ls[j]?.getD 0 + k) := by
  rw [List.take_succ_eq_append_getElem h]
  have key : ∀ a : List Int, ∀ y : Int, sumK k (a ++ [y]) = sumK k a + (y + k) := by
    intro a y
    induction a with
    | nil => simp [sumK]
    | cons x r ih => simp only [List.cons_append, sumK, ih]; omega
  rw [key]
  simp [h]
/-- A piece of length n that begins at x lies in a part. -/
def inPart (x n : Int) (p : Int × Int) : Bool := decide (p.1 ≤ x) && decide (x + n ≤ p.2)
theorem inPart_iff {x n : Int} {p : Int × Int} : inPart x n p = true ↔ p.1 ≤ x ∧ x + n ≤ p.2 := by simp [inPart]
/-- What is said of pieces that lie at ats. -/
structure Lies (k : Int) (ps : List (Int × Int)) (ls ats : List Int) : Prop where
  len : ats.length ≤ ls.length
  part : ∀ i, i < ats.length → ∃ p ∈ ps, inPart (ats[i]?.getD 0) (ls[i]?.getD 0) p = true
  next : ∀ i, i + 1 < ats.length → ats[i]?.getD 0 + ls[i]?.getD 0 ≤ ats[i + 1]?.getD 0 ∧
    ∀ p ∈ ps, inPart (ats[i]?.getD 0) (ls[i]?.getD 0) p = true → inPart (ats[i + 1]?.getD 0) (ls[i + 1]?.getD 0) p = true → ats[i]?.getD 0 + ls[i]?.getD 0 + k ≤ ats[i + 1]?.getD 0
  early : ∀ i, i < ats.length → ∀ x, x < ats[i]?.getD 0 → ∀ p ∈ ps, inPart x (ls[i]?.getD 0) p = true →
    ∃ j, i = j + 1 ∧ (x < ats[j]?.getD 0 + ls[j]?.getD 0 ∨ inPart (ats[j]?.getD 0) (ls[j]?.getD 0) p = true ∧ x < ats[j]?.getD 0 + ls[j]?.getD 0 + k)
theorem lies (k : Int) (hk : 0 ≤ k) (ln : Int) : ∀ (ps : List (Int × Int)) (ls : List Int) (q : Int), partsOk ln q ps → (∀ x ∈ ls, 1 ≤ x) →
    Lies k ps ls (fits k ps ls).1 ∧ (fits k ps ls).2 = ls.drop (fits k ps ls).1.length := by
  intro ps
  induction ps with
  | nil =>
    intro ls q _ _
    simp only [fits]
    exact ⟨⟨by simp, fun i hi => by simp at hi, fun i hi => by simp at hi, fun i hi => by simp at hi⟩, by simp⟩
  | cons p0 r ih =>
    intro ls q hok hpos
    obtain ⟨f, t⟩ := p0
    obtain ⟨o1, o2, o3, o4⟩ := hok
    obtain ⟨f1, f2, f3, f4⟩ := fill_pos t k ls f
    simp only [fits]
    obtain ⟨A, hA⟩ : ∃ A, A = (fill t k f ls).1 := ⟨_, rfl⟩
    rw [← hA] at f1 f2 f3 f4 ⊢
    rw [f2]
    obtain ⟨g, hg2⟩ := ih (ls.drop A.length) (t + 1) o4 (fun x hx => hpos x (List.mem_of_mem_drop hx))
    obtain ⟨B, hB⟩ : ∃ B, B = (fits k r (ls.drop A.length)).1 := ⟨_, rfl⟩
    rw [← hB] at g hg2 ⊢
    have hpos' : ∀ i, i < ls.length → 1 ≤ ls[i]?.getD 0 := fun i hi => by
      have := hpos ls[i] (List.getElem_mem hi)
      simpa [hi] using this
    have lA : ∀ i, i < A.length → (A ++ B)[i]?.getD 0 = A[i]?.getD 0 := fun i hi => by rw [List.getElem?_append_left hi]
    have lB : ∀ i, (A ++ B)[A.length + i]?.getD 0 = B[i]?.getD 0 := fun i => by rw [List.getElem?_append_right (by omega)]; simp
    have lL : ∀ i, (ls.drop A.length)[i]?.getD 0 = ls[A.length + i]?.getD 0 := fun i => by rw [List.getElem?_drop]
    have hsum : ∀ i, i ≤ ls.length → 0 ≤ sumK k (ls.take i) := fun i _ => sumK_nonneg hk _ (fun x hx => hpos x (List.mem_of_mem_take hx))
    have rge : ∀ p ∈ r, t < p.1 := fun p hp => by
      obtain ⟨i, hi, rfl⟩ := List.mem_iff_getElem.1 hp
      have := partsOk_at r ln (t + 1) o4 i hi
      simp only [gF, gT, hi, List.getElem?_eq_getElem, Option.getD_some] at this
      omega
    have Bge : ∀ i, i < B.length → t < B[i]?.getD 0 := fun i hi => by
      obtain ⟨p, hp, hin⟩ := g.part i hi
      have := inPart_iff.1 hin
      have := rge p hp
      omega
    have Aat : ∀ i, i < A.length → f ≤ A[i]?.getD 0 ∧ A[i]?.getD 0 = f + sumK k (ls.take i) ∧ A[i]?.getD 0 + ls[i]?.getD 0 ≤ t := fun i hi => by
      obtain ⟨a1, a2, a3⟩ := f1 i hi
      have := hsum i (by omega)
      omega
    refine ⟨⟨by have := g.len; simp at this ⊢; omega, fun i hi => ?_, fun i hi => ?_, fun i hi x hx p hp hin => ?_⟩, by rw [hg2]; simp [List.drop_drop]⟩
    · rcases Nat.lt_or_ge i A.length with h | h
      · rw [lA i h]
        have := Aat i h
        exact ⟨(f, t), by simp, inPart_iff.2 ⟨by omega, by omega⟩⟩
      · obtain ⟨j, rfl⟩ : ∃ j, i = A.length + j := ⟨i - A.length, by omega⟩
        obtain ⟨p, hp, hin⟩ := g.part j (by simp at hi; omega)
        rw [lL] at hin
        rw [lB]
        exact ⟨p, by simp [hp], hin⟩
    · rcases Nat.lt_or_ge (i + 1) A.length with h | h
      · rw [lA i (by omega), lA (i + 1) h]
        have a1 := Aat i (by omega)
        have a2 := Aat (i + 1) h
        have := sumK_step (k := k) ls i (by omega)
        exact ⟨by omega, fun _ _ _ _ => by omega⟩
      · rcases Nat.lt_or_ge i A.length with h' | h'
        · rw [lA i h', show i + 1 = A.length + 0 by omega, lB 0]
          have a1 := Aat i h'
          have b1 := Bge 0 (by simp at hi; omega)
          have l1 := hpos' i (by omega)
          refine ⟨by omega, fun p hp h1 h2 => ?_⟩
          have h1' := inPart_iff.1 h1
          have h2' := inPart_iff.1 h2
          rcases List.mem_cons.1 hp with rfl | hp
          · have := hpos' (A.length + 0) (by have := g.len; simp at this hi; omega)
            simp only at h2'
            omega
          · have := rge p hp
            omega
        · obtain ⟨j, rfl⟩ : ∃ j, i = A.length + j := ⟨i - A.length, by omega⟩
          have hj := g.next j (by simp at hi; omega)
          rw [lL, lL] at hj
          rw [show A.length + j + 1 = A.length + (j + 1) by omega, lB, lB]
          refine ⟨hj.1, fun p hp h1 h2 => ?_⟩
          rcases List.mem_cons.1 hp with rfl | hp
          · have h1' := inPart_iff.1 h1
            have b1 := Bge j (by simp at hi; omega)
            have := hpos' (A.length + j) (by have := g.len; simp at this hi; omega)
            simp only at h1'
            omega
          · exact hj.2 p hp h1 h2
    · have hin' := inPart_iff.1 hin
      rcases Nat.lt_or_ge i A.length with h | h
      · rw [lA i h] at hx
        have a1 := Aat i h
        have l1 := hpos' i (by omega)
        rcases List.mem_cons.1 hp with rfl | hp
        · simp only at hin'
          cases i with
          | zero => simp [sumK] at a1; omega
          | succ j =>
            refine ⟨j, rfl, .inr ?_⟩
            have a2 := Aat j (by omega)
            have := sumK_step (k := k) ls j (by omega)
            rw [lA j (by omega)]
            exact ⟨inPart_iff.2 ⟨by simp only; omega, by simp only; omega⟩, by omega⟩
        · have := rge p hp
          omega
      · obtain ⟨j, rfl⟩ : ∃ j, i = A.length + j := ⟨i - A.length, by omega⟩
        rw [lB] at hx
        have hjB : j < B.length := by simp at hi; omega
        have hlen : A.length + j < ls.length := by have := g.len; simp at this; omega
        have l1 := hpos' (A.length + j) hlen
        rcases List.mem_cons.1 hp with rfl | hp
        · simp only at hin'
          cases j with
          | zero =>
            have h3 := f3 (by omega)
            simp only [Nat.add_zero] at hin' hlen l1
            rcases Nat.eq_zero_or_pos A.length with h0 | h0
            · rw [h0] at h3 hin'
              simp [sumK] at h3
              omega
            · obtain ⟨m, hm⟩ : ∃ m, A.length = m + 1 := ⟨A.length - 1, by omega⟩
              have a2 := Aat m (by omega)
              have := sumK_step (k := k) ls m (by omega)
              refine ⟨m, by omega, .inr ?_⟩
              rw [lA m (by omega)]
              rw [hm] at h3 hin'
              exact ⟨inPart_iff.2 ⟨by simp only; omega, by simp only; omega⟩, by omega⟩
          | succ j =>
            have b1 := Bge j (by omega)
            have := hpos' (A.length + j) (by omega)
            refine ⟨A.length + j, by omega, .inl ?_⟩
            rw [lB]
            omega
        · obtain ⟨m, hm, hor⟩ := g.early j hjB x hx p hp (by rw [lL]; exact hin)
          rw [lL] at hor
          refine ⟨A.length + m, by omega, ?_⟩
          rw [lB]
          exact hor

theorem idxFrom_spec {α : Type} (p : α → Bool) : ∀ (l : List α) (k : Nat), (idxFrom p k l = -1 ∧ ∀ x ∈ l, p x = false) ∨ ∃ j : Nat, ∃ h : j < l.length, idxFrom p k l = (k : Int) + j ∧ p l[j] = true ∧ ∀ i, (hi : i < j) → p (l[i]'(by omega)) = false := by
  intro l
  induction l with
  | nil => intro k; exact .inl ⟨rfl, fun x hx => by cases hx⟩
  | cons x r ih =>
    intro k
    unfold idxFrom
    cases h : p x with
    | true => exact .inr ⟨0, by simp, by simp, by simpa using h, fun i hi => by omega⟩
    | false =>
      simp only [Bool.false_eq_true, if_false]
      rcases ih (k + 1) with ⟨h1, h2⟩ | ⟨j, hj, h1, h2, h3⟩
      · exact .inl ⟨h1, fun y hy => by rcases List.mem_cons.1 hy with rfl | hy; exact h; exact h2 y hy⟩
      · refine .inr ⟨j + 1, by simpa using hj, by rw [h1]; omega, by simpa using h2, fun i hi => ?_⟩
        cases i with
        | zero => simpa using h
        | succ i => simpa using h3 i (by omega)
theorem idx_spec {α : Type} (p : α → Bool) (l : List α) : (idx p l = -1 ∧ ∀ x ∈ l, p x = false) ∨ ∃ j : Nat, ∃ h : j < l.length, idx p l = j ∧ p l[j] = true ∧ ∀ i, (hi : i < j) → p (l[i]'(by omega)) = false := by
  rcases idxFrom_spec p l 0 with h | ⟨j, h, h1, h2⟩
  · exact .inl h
  · exact .inr ⟨j, h, by unfold idx; rw [h1]; omega, h2⟩
/-- In which part a piece lies; -1 if in none. -/
def partOf (ps : List (Int × Int)) (x n : Int) : Int := idx (inPart x n) ps
def lastOf (ps : List (Int × Int)) (ls ats : List Int) (i : Nat) : Int := if i = 0 then -1 else partOf ps (ats[i - 1]?.getD 0) (ls[i - 1]?.getD 0)
/-- Piece i lies well. -/
def laidAt (ps : List (Int × Int)) (ls ats : List Int) (k : Int) (i : Nat) : Bool :=
  !(decide (partOf ps (ats[i]?.getD 0) (ls[i]?.getD 0) < 0) || (decide (0 < i) && (decide (ats[i]?.getD 0 < ats[i - 1]?.getD 0 + ls[i - 1]?.getD 0) ||
    (decide (partOf ps (ats[i]?.getD 0) (ls[i]?.getD 0) = lastOf ps ls ats i) && decide (ats[i]?.getD 0 < ats[i - 1]?.getD 0 + ls[i - 1]?.getD 0 + k)))))
def laidB (ps : List (Int × Int)) (ls ats : List Int) (k : Int) : Bool := decide (ls.length = ats.length) && (List.range ats.length).all (laidAt ps ls ats k)
theorem partOf_in {ps : List (Int × Int)} {x n : Int} (h : ∃ p ∈ ps, inPart x n p = true) : ∃ j : Nat, ∃ hj : j < ps.length, partOf ps x n = j ∧ inPart x n ps[j] = true := by
  rcases idx_spec (inPart x n) ps with ⟨_, h2⟩ | ⟨j, hj, h1, h2, _⟩
  · obtain ⟨p, hp, hin⟩ := h
    rw [h2 p hp] at hin
    cases hin
  · exact ⟨j, hj, h1, h2⟩
theorem partsOk_lt : ∀ (l : List (Int × Int)) (ln q : Int), partsOk ln q l → ∀ j i (hi : i < l.length) (hj : j < i), (l[j]'(by omega)).2 < l[i].1 := by
  intro l
  induction l with
  | nil => intro _ _ _ j i hi; simp at hi
  | cons x r ih =>
    intro ln q h j i hi hj
    obtain ⟨f, t⟩ := x
    cases i with
    | zero => omega
    | succ i =>
      cases j with
      | zero =>
        have := partsOk_at r ln (t + 1) h.2.2.2 i (by simpa using hi)
        simp only [gF, gT] at this
        have hir : i < r.length := by simpa using hi
        have e : r[i]? = some r[i] := List.getElem?_eq_getElem hir
        rw [e] at this
        simp at this ⊢
        omega
      | succ j => simpa using ih ln (t + 1) h.2.2.2 j i (by simpa using hi) (by omega)
theorem partOf_uniq {ps : List (Int × Int)} {ln q : Int} (hok : partsOk ln q ps) {x n : Int} (hn : 1 ≤ n) {j : Nat} (hj : j < ps.length) (h : inPart x n ps[j] = true) : partOf ps x n = j := by
  rcases idx_spec (inPart x n) ps with ⟨_, h2⟩ | ⟨i, hi, h1, h2, h3⟩
  · rw [h2 _ (List.getElem_mem hj)] at h
    cases h
  · have a := inPart_iff.1 h
    have b := inPart_iff.1 h2
    rcases Nat.lt_trichotomy i j with hij | hij | hij
    · have := partsOk_lt ps ln q hok i j hj hij
      omega
    · subst hij; exact h1
    · have := partsOk_lt ps ln q hok j i hi hij
      omega
/-- What fits is laid well. -/
theorem laid_true {k ln q : Int} {ps : List (Int × Int)} {ls : List Int} (hk : 0 ≤ k) (hok : partsOk ln q ps) (hpos : ∀ x ∈ ls, 1 ≤ x) (h : (fits k ps ls).2 = []) : laidB ps ls (fits k ps ls).1 k = true := by
  obtain ⟨g, hd⟩ := lies k hk ln ps ls q hok hpos
  rw [h] at hd
  have hlen : ls.length ≤ (fits k ps ls).1.length := List.drop_eq_nil_iff.1 hd.symm
  obtain ⟨T, hT⟩ : ∃ T, T = (fits k ps ls).1 := ⟨_, rfl⟩
  rw [← hT] at g hlen ⊢
  have hlen2 : ls.length = T.length := by have := g.len; omega
  unfold laidB
  rw [Bool.and_eq_true, decide_eq_true_eq]
  refine ⟨hlen2, List.all_eq_true.2 fun i hi => ?_⟩
  rw [List.mem_range] at hi
  obtain ⟨j, hj, e1, e2⟩ := partOf_in (g.part i hi)
  unfold laidAt
  rw [e1]
  have n0 : ¬ ((j : Int) < 0) := by omega
  cases i with
  | zero => simp [n0]
  | succ i =>
    obtain ⟨j2, hj2, e3, e4⟩ := partOf_in (g.part i (by omega))
    obtain ⟨g1, g2⟩ := g.next i hi
    have e5 : lastOf ps ls T (i + 1) = j2 := by simp only [lastOf, Nat.add_eq_zero_iff, Nat.one_ne_zero, and_false, if_false, Nat.add_sub_cancel]; exact e3
    rw [e5]
    simp only [Nat.add_sub_cancel]
    by_cases hjj : j = j2
    · subst hjj
      have := g2 _ (List.getElem_mem hj) e4 e2
      simp [n0]
      omega
    · simp [n0]
      refine ⟨by omega, .inl ?_⟩
      omega
/-- Nothing can begin earlier. -/
theorem laid_false {k ln q : Int} {ps : List (Int × Int)} {ls : List Int} (hk : 0 ≤ k) (hok : partsOk ln q ps) (hpos : ∀ x ∈ ls, 1 ≤ x) (h : (fits k ps ls).2 = []) (i : Nat) (hi : i < ls.length) (d : Int) (hd : 1 ≤ d) :
    laidB ps (ls.take (i + 1)) (((fits k ps ls).1.take (i + 1)).set i ((fits k ps ls).1[i]?.getD 0 - d)) k = false := by
  obtain ⟨g, hd2⟩ := lies k hk ln ps ls q hok hpos
  rw [h] at hd2
  have hlen : ls.length ≤ (fits k ps ls).1.length := List.drop_eq_nil_iff.1 hd2.symm
  obtain ⟨T, hT⟩ : ∃ T, T = (fits k ps ls).1 := ⟨_, rfl⟩
  rw [← hT] at g hlen ⊢
  have hlen2 : ls.length = T.length := by have := g.len; omega
  have hx : ∀ b : Bool, (b = true → False) → b = false := by intro b; cases b <;> simp
  refine hx _ fun hb => ?_
  unfold laidB at hb
  rw [Bool.and_eq_true, List.all_eq_true] at hb
  have hi2 := hb.2 i (List.mem_range.2 (by simp; omega))
  obtain ⟨E, hE⟩ : ∃ E, E = (T.take (i + 1)).set i (T[i]?.getD 0 - d) := ⟨_, rfl⟩
  rw [← hE] at hi2
  have eE : E[i]?.getD 0 = T[i]?.getD 0 - d := by
    rw [hE, List.getElem?_set_self (by simp; omega)]
    rfl
  have eE2 : ∀ j, j < i → E[j]?.getD 0 = T[j]?.getD 0 := fun j hj => by
    rw [hE, List.getElem?_set_ne (by omega), List.getElem?_take]
    simp [show j < i + 1 by omega]
  have eL : ∀ j, j ≤ i → (ls.take (i + 1))[j]?.getD 0 = ls[j]?.getD 0 := fun j hj => by
    rw [List.getElem?_take]
    simp [show j < i + 1 by omega]
  have hpos' : ∀ i, i < ls.length → 1 ≤ ls[i]?.getD 0 := fun i hi => by
    have := hpos ls[i] (List.getElem_mem hi)
    simpa [hi] using this
  unfold laidAt at hi2
  rw [eE, eL i (Nat.le_refl _)] at hi2
  simp only [Bool.not_eq_true', Bool.or_eq_false_iff, decide_eq_false_iff_not] at hi2
  obtain ⟨h1, h2⟩ := hi2
  rcases idx_spec (inPart (T[i]?.getD 0 - d) (ls[i]?.getD 0)) ps with ⟨e1, _⟩ | ⟨j, hj, e1, e2, _⟩
  · rw [show partOf ps (T[i]?.getD 0 - d) (ls[i]?.getD 0) = -1 from e1] at h1
    omega
  · obtain ⟨m, rfl, hor⟩ := g.early i (by omega) (T[i]?.getD 0 - d) (by omega) ps[j] (List.getElem_mem hj) e2
    simp only [Nat.add_sub_cancel] at h2
    rw [eE2 m (by omega), eL m (by omega)] at h2
    have h3 : decide (0 < m + 1) = true := by simp
    rw [h3, Bool.true_and, Bool.or_eq_false_iff, decide_eq_false_iff_not] at h2
    rcases hor with hor | ⟨o1, o2⟩
    · exact h2.1 hor
    · have e3 : partOf ps (T[m]?.getD 0) (ls[m]?.getD 0) = j := partOf_uniq hok (hpos' m (by omega)) hj o1
      have e4 : lastOf ps (ls.take (m + 1 + 1)) E (m + 1) = j := by
        simp only [lastOf, Nat.add_eq_zero_iff, Nat.one_ne_zero, and_false, if_false, Nat.add_sub_cancel]
        rw [eE2 m (by omega), eL m (by omega)]
        exact e3
      have e5 : partOf ps (T[m + 1]?.getD 0 - d) (ls[m + 1]?.getD 0) = j := e1
      rw [e4, e5] at h2
      simp only [decide_true, Bool.true_and, decide_eq_false_iff_not] at h2
      exact h2.2 o2
theorem fits_one (k n : Int) : ∀ ps : List (Int × Int), (fits k ps [n]).2.isEmpty = ps.any (fun p => decide (n ≤ p.2 - p.1)) := by
  intro ps
  have hnil : ∀ ps : List (Int × Int), (fits k ps []).2 = [] := by
    intro ps
    induction ps with
    | nil => rfl
    | cons p r ih => obtain ⟨f, t⟩ := p; simp only [fits, fill, ih]
  induction ps with
  | nil => rfl
  | cons p r ih =>
    obtain ⟨f, t⟩ := p
    simp only [fits, fill, List.any_cons]
    by_cases h : f + n ≤ t
    · rw [if_pos h]
      have : decide (n ≤ t - f) = true := by simp; omega
      rw [this]
      simp [hnil]
    · rw [if_neg h]
      have : decide (n ≤ t - f) = false := by simp; omega
      rw [this, Bool.false_or]
      exact ih
theorem fits_one_of {k ln q : Int} {ps : List (Int × Int)} {ls : List Int} (hk : 0 ≤ k) (hok : partsOk ln q ps) (hpos : ∀ x ∈ ls, 1 ≤ x) (h : (fits k ps ls).2 = []) (i : Nat) (hi : i < ls.length) :
    ps.any (fun p => decide (ls[i]?.getD 0 ≤ p.2 - p.1)) = true := by
  obtain ⟨g, hd2⟩ := lies k hk ln ps ls q hok hpos
  rw [h] at hd2
  have hlen : ls.length ≤ (fits k ps ls).1.length := List.drop_eq_nil_iff.1 hd2.symm
  obtain ⟨p, hp, hin⟩ := g.part i (by omega)
  have := inPart_iff.1 hin
  exact List.any_eq_true.2 ⟨p, hp, by simp; omega⟩

/-- All pieces find a place. -/
def allFit (k : Int) (ps : List (Int × Int)) (ls : List Int) : Prop := (fits k ps ls).2 = []
theorem allFit_nil (k : Int) : ∀ ps : List (Int × Int), allFit k ps [] := by
  intro ps
  unfold allFit
  induction ps with
  | nil => rfl
  | cons p r ih => obtain ⟨f, t⟩ := p; simp only [fits, fill, ih]
theorem allFit_here {k f t n : Int} {r : List (Int × Int)} {ls : List Int} (h : f + n ≤ t) : allFit k ((f, t) :: r) (n :: ls) ↔ allFit k ((f + (n + k), t) :: r) ls := by
  unfold allFit
  simp only [fits, fill]
  rw [if_pos h]
theorem allFit_next {k f t n : Int} {r : List (Int × Int)} {ls : List Int} (h : ¬ f + n ≤ t) : allFit k ((f, t) :: r) (n :: ls) ↔ allFit k r (n :: ls) := by
  unfold allFit
  simp only [fits, fill]
  rw [if_neg h]
theorem allFit_none {k n : Int} {ls : List Int} : ¬ allFit k [] (n :: ls) := by
  unfold allFit
  simp [fits]
/-- Parts a that begin no later than b's. -/
def Earlier (a b : List (Int × Int)) : Prop := ∃ (pre : List (Int × Int)) (f f2 t : Int) (r : List (Int × Int)), b = (f, t) :: r ∧ a = pre ++ (f2, t) :: r ∧ f2 ≤ f
theorem allFit_less (k k2 : Int) (hk : 0 ≤ k) (h2 : k2 ≤ k) : ∀ (N : Nat) (ls : List Int) (a b : List (Int × Int)) (ls2 : List Int), ls.length + a.length + b.length ≤ N → (∀ x ∈ ls, 1 ≤ x) → ls2.Sublist ls → Earlier a b → allFit k b ls → allFit k2 a ls2 := by
  intro N
  induction N with
  | zero =>
    rintro ls a b ls2 hN hpos hs ⟨pre, f, f2, t, r, rfl, rfl, hf⟩ h
    simp at hN
  | succ N ih =>
    rintro ls a b ls2 hN hpos hs ⟨pre, f, f2, t, r, rfl, rfl, hf⟩ h
    cases ls with
    | nil =>
      rw [List.sublist_nil.1 hs]
      exact allFit_nil _ _
    | cons n ls =>
      have hn : 1 ≤ n := hpos n (by simp)
      have hpos2 : ∀ x ∈ ls, 1 ≤ x := fun x hx => hpos x (by simp [hx])
      simp only [List.length_cons, List.length_append] at hN
      by_cases hfit : f + n ≤ t
      · have h1 := (allFit_here hfit).1 h
        rcases List.sublist_cons_iff.1 hs with hs2 | ⟨r2, rfl, hs2⟩
        · exact ih ls _ _ ls2 (by simp; omega) hpos2 hs2 ⟨pre, _, f2, t, r, rfl, rfl, by omega⟩ h1
        · cases pre with
          | nil =>
            simp only [List.nil_append]
            rw [allFit_here (by omega)]
            exact ih ls _ _ r2 (by simp at hN ⊢; omega) hpos2 hs2 ⟨[], _, _, t, r, rfl, rfl, by omega⟩ h1
          | cons q pre =>
            obtain ⟨qf, qt⟩ := q
            simp only [List.cons_append]
            by_cases hq : qf + n ≤ qt
            · rw [allFit_here hq]
              exact ih ls _ _ r2 (by simp at hN ⊢; omega) hpos2 hs2 ⟨(qf + (n + k2), qt) :: pre, _, f2, t, r, rfl, rfl, by omega⟩ h1
            · rw [allFit_next hq]
              exact ih (n :: ls) _ ((f, t) :: r) (n :: r2) (by simp at hN ⊢; omega) hpos hs ⟨pre, f, f2, t, r, rfl, rfl, hf⟩ h
      · have h1 := (allFit_next hfit).1 h
        cases r with
        | nil => exact (allFit_none h1).elim
        | cons q r =>
          obtain ⟨qf, qt⟩ := q
          exact ih (n :: ls) _ ((qf, qt) :: r) ls2 (by simp at hN ⊢; omega) hpos hs ⟨pre ++ [(f2, t)], qf, qf, qt, r, rfl, by simp, Int.le_refl _⟩ h1
theorem allFit_fewer {k k2 : Int} (hk : 0 ≤ k) (h2 : k2 ≤ k) {ps : List (Int × Int)} {ls ls2 : List Int} (hpos : ∀ x ∈ ls, 1 ≤ x) (hs : ls2.Sublist ls) (h : allFit k ps ls) : allFit k2 ps ls2 := by
  cases ps with
  | nil =>
    cases ls with
    | nil => rw [List.sublist_nil.1 hs]; exact allFit_nil _ _
    | cons n r => exact (allFit_none h).elim
  | cons q r =>
    obtain ⟨f, t⟩ := q
    exact allFit_less k k2 hk h2 _ ls _ ((f, t) :: r) ls2 (Nat.le_refl _) hpos hs ⟨[], f, f, t, r, rfl, rfl, Int.le_refl _⟩ h
end Go.Proofs.YtfljmbdnnjjmoaaDoor
