/-
  Plain laws of pieces that fit.
-/
import Derived.Test.YtfljmbdnnjjmoaaDoorSP
namespace Go.Proofs.YtfljmbdnnjjmoaaDoor
open Go.KP

def sumK (k : Int) : List Int → Int
  | [] => 0
  | x :: r => (x + k) + sumK k r
theorem sumK_nonneg {k : Int} (hk : 0 ≤ k) : ∀ ls : List Int, (∀ x ∈ ls, 1 ≤ x) → 0 ≤ sumK k ls := by
  intro ls
  induction ls with
  | nil => intro _; simp [sumK]
  | cons x r ih =>
    intro h
    have h1 := h x (by simp)
    have h2 := ih (fun y hy => h y (by simp [hy]))
    simp only [sumK]
    omega
/-- What is laid into one part. -/
theorem fill_used (t k : Int) (_hk : 0 ≤ k) : ∀ (ls : List Int) (p : Int), (fill t k p ls).2 = ls ∧ (fill t k p ls).1 = [] ∨ p + (sumK k ls - sumK k (fill t k p ls).2) ≤ t + k := by
  intro ls
  induction ls with
  | nil => intro p; exact .inl ⟨rfl, rfl⟩
  | cons x r ih =>
    intro p
    simp only [fill]
    by_cases h : p + x ≤ t
    · rw [if_pos h]
      refine .inr ?_
      simp only [sumK]
      rcases ih (p + (x + k)) with ⟨h1, _⟩ | h1
      · rw [h1]; omega
      · omega
    · rw [if_neg h]
      exact .inl ⟨rfl, rfl⟩
theorem fits_cap (k : Int) (hk : 0 ≤ k) : ∀ (ps : List (Int × Int)) (ls : List Int), (∀ p ∈ ps, p.1 < p.2) → sumK k ls - sumK k (fits k ps ls).2 ≤ capOf k ps := by
  intro ps
  induction ps with
  | nil => intro ls _; simp [fits, capOf]
  | cons p r ih =>
    intro ls h
    obtain ⟨f, t⟩ := p
    have h1 : f < t := h (f, t) (by simp)
    have h2 := ih (fill t k f ls).2 (fun q hq => h q (by simp [hq]))
    simp only [fits, capOf]
    rcases fill_used t k hk ls f with ⟨h3, _⟩ | h3
    · rw [h3] at h2 ⊢; omega
    · omega
theorem fill_whole (t k : Int) (hk : 0 ≤ k) : ∀ (ls : List Int) (p : Int), (∀ x ∈ ls, 1 ≤ x) → ((fill t k p ls).2 = [] ↔ (ls = [] ∨ p + sumK k ls ≤ t + k)) := by
  intro ls
  induction ls with
  | nil => intro p _; simp [fill]
  | cons x r ih =>
    intro p h
    have hx := h x (by simp)
    have hr : ∀ y ∈ r, 1 ≤ y := fun y hy => h y (by simp [hy])
    have h0 := sumK_nonneg hk r hr
    simp only [fill, sumK]
    by_cases hp : p + x ≤ t
    · rw [if_pos hp]
      simp only
      rw [ih (p + (x + k)) hr]
      constructor
      · rintro (rfl | h1)
        · right; simp [sumK]; omega
        · right; omega
      · rintro (h1 | h1)
        · cases h1
        · by_cases he : r = []
          · exact .inl he
          · right; omega
    · rw [if_neg hp]
      simp only
      constructor
      · intro h1; cases h1
      · rintro (h1 | h1)
        · cases h1
        · omega
theorem parts_nil {ln : Int} (h : 0 < ln) : parts ln [] = [(0, ln)] := by simp [parts, emit, h]
theorem partsOk_pos : ∀ (l : List (Int × Int)) (ln q : Int), partsOk ln q l → ∀ p ∈ l, p.1 < p.2 := by
  intro l
  induction l with
  | nil => intro _ _ _ p hp; simp at hp
  | cons x r ih =>
    intro ln q h p hp
    obtain ⟨f, t⟩ := x
    obtain ⟨_, h2, _, h4⟩ := h
    rcases List.mem_cons.1 hp with rfl | hp
    · exact h2
    · exact ih _ _ h4 p hp
theorem cap_le {ln k : Int} {gs : List (Int × Int)} {ls : List Int} (hk : 0 ≤ k) (ho : partsOk ln 0 (parts ln gs)) (h : (fits k (parts ln gs) ls).2.isEmpty = true) : sumK k ls ≤ capOf k (parts ln gs) := by
  have h1 := fits_cap k hk (parts ln gs) ls (partsOk_pos _ _ _ ho)
  rw [List.isEmpty_iff.1 h] at h1
  simpa [sumK] using h1
theorem cap_whole {ln k : Int} {ls : List Int} (hk : 0 ≤ k) (hl : 0 < ln) (hp : ∀ x ∈ ls, 1 ≤ x) : (fits k (parts ln []) ls).2.isEmpty = decide (sumK k ls ≤ ln + k) := by
  rw [parts_nil hl]
  simp only [fits]
  have h := fill_whole ln k hk ls 0 hp
  rw [Bool.eq_iff_iff, List.isEmpty_iff, h, decide_eq_true_eq]
  constructor
  · rintro (rfl | h1)
    · simp [sumK]; omega
    · omega
  · intro h1
    exact .inr (by omega)
end Go.Proofs.YtfljmbdnnjjmoaaDoor
