/-
  stock: plain facts of gaps, free parts, capacities and pieces. No program in sight.
-/
import Derived.Test.YtfljmbdnnjjmoaaDoorGen
namespace Go.Proofs.YtfljmbdnnjjmoaaDoor
open Go.KP

def btw (n a b : Int) : Bool := decide (a ≤ n) && decide (n ≤ b)
theorem btw_iff {n a b : Int} : btw n a b = true ↔ a ≤ n ∧ n ≤ b := by simp [btw]
def headOk (wd dp ln ct cs : Int) : Bool := btw wd 1 1000 && btw dp 1 1000 && btw ln 1 65536 && btw ct 0 4096 && btw cs 0 1073741824
def badGap (ln f t : Int) : Bool := decide (f < 0) || decide (ln < t) || decide (t ≤ f)
def prevBad (p : Option Int) (f : Int) : Bool := match p with | none => false | some q => decide (f ≤ q)
def gapErr (ln : Int) : Option Int → List (Int × Int) → Int
  | _, [] => 0
  | p, (f, t) :: r => if badGap ln f t then 2 else if prevBad p f then 10 else gapErr ln (some t) r
def chk (wd dp ln ct cs : Int) (gs : List (Int × Int)) : Int := if headOk wd dp ln ct cs then (if 16 < gs.length then 4 else gapErr ln none gs) else 2
def gPrev (gs : List (Int × Int)) (k : Nat) : Option Int := if k = 0 then none else some (gT gs (k - 1))
theorem gapErr_at (ln : Int) (gs : List (Int × Int)) (k : Nat) (h : k < gs.length) :
    gapErr ln (gPrev gs k) (gs.drop k) = if badGap ln (gF gs k) (gT gs k) then 2 else if prevBad (gPrev gs k) (gF gs k) then 10 else gapErr ln (gPrev gs (k + 1)) (gs.drop (k + 1)) := by
  rw [List.drop_eq_getElem_cons h]
  have e : gs[k]?.getD (0, 0) = gs[k] := by simp [h]
  have e2 : gPrev gs (k + 1) = some gs[k].2 := by simp [gPrev, gT, h]
  rw [e2]
  simp only [gF, gT, e]
  rfl
/-- The free parts from a place on, the bar's end being a last gap. -/
def emit : Int → List (Int × Int) → List (Int × Int)
  | _, [] => []
  | p, (f, t) :: r => if p < f then (p, f) :: emit t r else emit t r
def parts (ln : Int) (gs : List (Int × Int)) : List (Int × Int) := emit 0 (gs ++ [(ln, ln)])
theorem emit_at (p : Int) (l : List (Int × Int)) (k : Nat) (h : k < l.length) : emit p (l.drop k) = if p < gF l k then (p, gF l k) :: emit (gT l k) (l.drop (k + 1)) else emit (gT l k) (l.drop (k + 1)) := by
  rw [List.drop_eq_getElem_cons h]
  have e : l[k]?.getD (0, 0) = l[k] := by simp [h]
  simp only [gF, gT, e]
  rfl
theorem drop_cons {l r : List (Int × Int)} {c : Nat} {x : Int × Int} (h : l.drop c = x :: r) : c < l.length ∧ gF l c = x.1 ∧ gT l c = x.2 ∧ l.drop (c + 1) = r := by
  have hc : c < l.length := by
    rcases Nat.lt_or_ge c l.length with h1 | h1
    · exact h1
    · rw [List.drop_eq_nil_of_le h1] at h; cases h
  rw [List.drop_eq_getElem_cons hc] at h
  injection h with h1 h2
  refine ⟨hc, ?_, ?_, h2⟩ <;> simp [gF, gT, hc, h1]
theorem emit_len : ∀ (l : List (Int × Int)) (p : Int), (emit p l).length ≤ l.length := by
  intro l
  induction l with
  | nil => intro p; exact Nat.le_refl _
  | cons x r ih =>
    intro p
    obtain ⟨f, t⟩ := x
    have := ih t
    unfold emit
    split <;> simp <;> omega
theorem parts_len (ln : Int) (gs : List (Int × Int)) : (parts ln gs).length ≤ gs.length + 1 := by
  have := emit_len (gs ++ [(ln, ln)]) 0
  simpa [parts] using this

/-- Gaps in order, from a place on, up to the bar's end. -/
def okFrom (ln : Int) : Int → List (Int × Int) → Prop
  | _, [] => True
  | q, (f, t) :: r => q ≤ f ∧ f < t ∧ t ≤ ln ∧ okFrom ln (t + 1) r
theorem gapErr_zero : ∀ (gs : List (Int × Int)) (ln : Int) (p : Option Int), gapErr ln p gs = 0 ↔ okFrom ln (match p with | none => 0 | some q => max 0 (q + 1)) gs := by
  intro gs
  induction gs with
  | nil => intro ln p; simp [gapErr, okFrom]
  | cons g r ih =>
    intro ln p
    obtain ⟨f, t⟩ := g
    unfold gapErr okFrom
    by_cases hb : badGap ln f t = true
    · rw [if_pos hb]
      simp only [badGap, Bool.or_eq_true, decide_eq_true_eq] at hb
      cases p <;> simp <;> omega
    · have hb' := hb
      simp only [badGap, Bool.or_eq_true, decide_eq_true_eq] at hb'
      rw [if_neg hb]
      have hm : max 0 (t + 1) = t + 1 := by omega
      cases p with
      | none =>
        simp only [prevBad, Bool.false_eq_true, if_false]
        rw [ih]
        simp only [hm]
        constructor
        · intro h; exact ⟨by omega, by omega, by omega, h⟩
        · intro h; exact h.2.2.2
      | some q =>
        simp only [prevBad, decide_eq_true_eq]
        by_cases hq : f ≤ q
        · rw [if_pos hq]
          constructor
          · intro h; cases h
          · intro h; omega
        · rw [if_neg hq, ih]
          simp only [hm]
          constructor
          · intro h; exact ⟨by omega, by omega, by omega, h⟩
          · intro h; exact h.2.2.2
theorem chk_zero {wd dp ln ct cs : Int} {gs : List (Int × Int)} : chk wd dp ln ct cs gs = 0 ↔ headOk wd dp ln ct cs = true ∧ gs.length ≤ 16 ∧ okFrom ln 0 gs := by
  unfold chk
  have h := gapErr_zero gs ln none
  simp only at h
  split
  · rename_i hh
    split
    · simp; omega
    · rw [h]; simp [hh]; omega
  · rename_i hh; simp [hh]
theorem chk_len {wd dp ln ct cs : Int} {gs : List (Int × Int)} (h : chk wd dp ln ct cs gs = 0) : 1 ≤ ln ∧ ln ≤ 65536 := by
  have := (chk_zero.1 h).1
  simp only [headOk, Bool.and_eq_true, btw_iff] at this
  omega

/-- Parts in order, from a place on. -/
def partsOk (ln : Int) : Int → List (Int × Int) → Prop
  | _, [] => True
  | q, (f, t) :: r => q ≤ f ∧ f < t ∧ t ≤ ln ∧ partsOk ln (t + 1) r
theorem partsOk_mono : ∀ (l : List (Int × Int)) (ln q q2 : Int), q2 ≤ q → partsOk ln q l → partsOk ln q2 l := by
  intro l ln q q2 hq h
  cases l with
  | nil => trivial
  | cons x r => obtain ⟨f, t⟩ := x; exact ⟨by have := h.1; omega, h.2⟩
theorem emit_ok : ∀ (gs : List (Int × Int)) (ln p q : Int), q ≤ p → p ≤ ln → okFrom ln q gs → (∀ f t r, gs = (f, t) :: r → p ≤ f) → partsOk ln p (emit p (gs ++ [(ln, ln)])) := by
  intro gs
  induction gs with
  | nil =>
    intro ln p q _ hp _ _
    simp only [List.nil_append, emit]
    split
    · exact ⟨by omega, by omega, by omega, trivial⟩
    · trivial
  | cons g r ih =>
    intro ln p q hq hp hok hf
    obtain ⟨f, t⟩ := g
    obtain ⟨h1, h2, h3, h4⟩ := hok
    have hpf := hf f t r rfl
    have ihr := ih ln t (t + 1)
    have hr : partsOk ln (t) (emit t (r ++ [(ln, ln)])) := by
      have key : ∀ f2 t2 r2, r = (f2, t2) :: r2 → t ≤ f2 := by
        intro f2 t2 r2 e
        subst e
        have := h4.1
        omega
      refine ih ln t t (by omega) h3 ?_ key
      cases r with
      | nil => trivial
      | cons x r2 => obtain ⟨f2, t2⟩ := x; exact ⟨by have := h4.1; omega, h4.2⟩
    simp only [List.cons_append, emit]
    split
    · refine ⟨by omega, by omega, by omega, ?_⟩
      exact partsOk_mono _ _ _ _ (by omega) hr
    · exact partsOk_mono _ _ _ _ (by omega) hr
theorem parts_ok {ln : Int} {gs : List (Int × Int)} (h0 : 0 ≤ ln) (h : okFrom ln 0 gs) : partsOk ln 0 (parts ln gs) :=
  emit_ok gs ln 0 0 (by omega) h0 h (fun f t r e => by subst e; exact h.1)
theorem partsOk_at : ∀ (l : List (Int × Int)) (ln q : Int), partsOk ln q l → ∀ k, k < l.length → q ≤ gF l k ∧ gF l k < gT l k ∧ gT l k ≤ ln := by
  intro l
  induction l with
  | nil => intro ln q _ k hk; simp at hk
  | cons x r ih =>
    intro ln q h k hk
    obtain ⟨f, t⟩ := x
    cases k with
    | zero => simpa [gF, gT] using ⟨h.1, h.2.1, h.2.2.1⟩
    | succ k =>
      have h1 := ih ln (t + 1) h.2.2.2 k (by simpa using hk)
      have h2 := h.1
      have h3 := h.2.1
      simp only [gF, gT, List.getElem?_cons_succ] at h1 ⊢
      exact ⟨by omega, h1.2⟩

def capOf (kerf : Int) : List (Int × Int) → Int
  | [] => 0
  | (f, t) :: r => (t - f + kerf) + capOf kerf r
theorem capOf_append (kerf : Int) (a b : List (Int × Int)) : capOf kerf (a ++ b) = capOf kerf a + capOf kerf b := by
  induction a with
  | nil => simp [capOf]
  | cons x r ih => obtain ⟨f, t⟩ := x; simp only [List.cons_append, capOf, ih]; omega
theorem capOf_take (kerf : Int) (l : List (Int × Int)) (k : Nat) (h : k < l.length) : capOf kerf (l.take (k + 1)) = capOf kerf (l.take k) + (gT l k - gF l k + kerf) := by
  rw [List.take_succ_eq_append_getElem h, capOf_append]
  simp [capOf, gF, gT, h]
theorem capOf_bound (l : List (Int × Int)) (ln q kerf : Int) (h : partsOk ln q l) (hq : 0 ≤ q) (h0 : 0 ≤ kerf) (h1 : kerf ≤ 100) : ∀ k, k ≤ l.length → 0 ≤ capOf kerf (l.take k) ∧ capOf kerf (l.take k) ≤ (ln + 100) * (k : Int) := by
  intro k
  induction k with
  | zero => intro _; simp [capOf]
  | succ k ih =>
    intro hk
    rw [capOf_take _ _ _ (by omega)]
    have h2 := partsOk_at l ln q h k (by omega)
    have h3 := ih (by omega)
    have e : (ln + 100) * ((k + 1 : Nat) : Int) = (ln + 100) * (k : Int) + (ln + 100) := by rw [Int.natCast_add, Int.mul_add]; simp
    rw [e]
    omega

def kerfErr (c kerf : Int) : Int := if c = 0 then (if btw kerf 0 100 then 0 else 2) else 1
/-- Pieces laid into one part from a place on: where they begin; what is left. -/
def fill (t kerf : Int) : Int → List Int → List Int × List Int
  | _, [] => ([], [])
  | p, n :: r => if p + n ≤ t then (p :: (fill t kerf (p + (n + kerf)) r).1, (fill t kerf (p + (n + kerf)) r).2) else ([], n :: r)
def fits (kerf : Int) : List (Int × Int) → List Int → List Int × List Int
  | [], ls => ([], ls)
  | (f, t) :: ps, ls => ((fill t kerf f ls).1 ++ (fits kerf ps (fill t kerf f ls).2).1, (fits kerf ps (fill t kerf f ls).2).2)
theorem fits_at (kerf : Int) (l : List (Int × Int)) (k : Nat) (h : k < l.length) (ls : List Int) :
    fits kerf (l.drop k) ls = ((fill (gT l k) kerf (gF l k) ls).1 ++ (fits kerf (l.drop (k + 1)) (fill (gT l k) kerf (gF l k) ls).2).1, (fits kerf (l.drop (k + 1)) (fill (gT l k) kerf (gF l k) ls).2).2) := by
  rw [List.drop_eq_getElem_cons h]
  have e : l[k]?.getD (0, 0) = l[k] := by simp [h]
  simp only [gF, gT, e]
  rfl
theorem fill_at (t kerf p : Int) (ls : List Int) (j : Nat) (h : j < ls.length) :
    fill t kerf p (ls.drop j) = if p + ls[j]?.getD 0 ≤ t then (p :: (fill t kerf (p + (ls[j]?.getD 0 + kerf)) (ls.drop (j + 1))).1, (fill t kerf (p + (ls[j]?.getD 0 + kerf)) (ls.drop (j + 1))).2) else ([], ls.drop j) := by
  have e : ls[j]?.getD 0 = ls[j] := by simp [h]
  rw [e, List.drop_eq_getElem_cons h]
  rfl
theorem fill_end (t kerf p : Int) (ls : List Int) (j : Nat) (h : ls.length ≤ j) : fill t kerf p (ls.drop j) = ([], []) := by
  rw [List.drop_eq_nil_of_le h]
  rfl
def fitErr (c kerf : Int) (ls : List Int) : Int := if kerfErr c kerf = 0 then (if 64 < ls.length then 4 else if ls.any (fun x => !btw x 1 65536) then 2 else 0) else kerfErr c kerf
end Go.Proofs.YtfljmbdnnjjmoaaDoor
