/-
  Lines of bars, read: plain facts of words. No program in sight.
-/
import Derived.Test.YtfljmbdnnjjmoaaDoorT0
import Derived.Lib.SplitLaws
namespace Go.Proofs.YtfljmbdnnjjmoaaDoor
open Go

def ntb (c : UInt8) (x : UInt8) : Bool := x != c
theorem ntb_ne {c x : UInt8} (h : x ≠ c) : ntb c x = true := by simpa [ntb] using h
theorem ntb_eq (c : UInt8) : ntb c c = false := by simp [ntb]
theorem ntb_iff {c x : UInt8} : ntb c x = true ↔ x ≠ c := by simp [ntb]
/-- Text cut at each place of a byte. -/
def spl (c : UInt8) : List UInt8 → List (List UInt8)
  | [] => [[]]
  | x :: r => if x = c then [] :: spl c r else match spl c r with | [] => [[x]] | w :: ws => (x :: w) :: ws
def restW (c : UInt8) (l : List UInt8) : List (List UInt8) := match l.dropWhile (ntb c) with | [] => [] | _ :: r => spl c r
theorem spl_eq (c : UInt8) : ∀ l : List UInt8, spl c l = l.takeWhile (ntb c) :: restW c l := by
  intro l
  induction l with
  | nil => rfl
  | cons x r ih =>
    unfold spl restW
    by_cases h : x = c
    · subst h
      rw [if_pos rfl, List.takeWhile_cons_of_neg (by simp [ntb_eq]), List.dropWhile_cons_of_neg (by simp [ntb_eq])]
    · rw [if_neg h, List.takeWhile_cons_of_pos (ntb_ne h), List.dropWhile_cons_of_pos (ntb_ne h), ih]
      rfl
theorem index_one_cons (x c : UInt8) (l : List UInt8) : Lib.index (x :: l) [c] = if x = c then 0 else if Lib.index l [c] = -1 then -1 else Lib.index l [c] + 1 := by
  rw [Lib.index]
  by_cases h : x = c
  · subst h
    rw [if_pos rfl, if_pos (by simp [List.isPrefixOf])]
  · rw [if_neg h, if_neg (by simp [List.isPrefixOf, Ne.symm h])]
    simp
theorem index_tw (c : UInt8) : ∀ l : List UInt8, Lib.index l [c] = if c ∈ l then ((l.takeWhile (ntb c)).length : Int) else -1 := by
  intro l
  induction l with
  | nil => rfl
  | cons x r ih =>
    rw [index_one_cons]
    by_cases h : x = c
    · subst h
      rw [if_pos rfl, if_pos (by simp), List.takeWhile_cons_of_neg (by simp [ntb_eq])]
      rfl
    · rw [if_neg h, ih, List.takeWhile_cons_of_pos (ntb_ne h)]
      by_cases hm : c ∈ r
      · have hm2 : c ∈ x :: r := List.mem_cons_of_mem _ hm
        rw [if_pos hm, if_pos hm2, if_neg (by omega)]
        simp
      · have hm2 : c ∉ x :: r := fun h2 => by
          rcases List.mem_cons.1 h2 with h3 | h3
          · exact h h3.symm
          · exact hm h3
        rw [if_neg hm, if_pos rfl, if_neg hm2]
theorem dw_drop {α : Type} (p : α → Bool) : ∀ l : List α, l.dropWhile p = l.drop (l.takeWhile p).length := by
  intro l
  induction l with
  | nil => rfl
  | cons a r ih =>
    by_cases hp : p a = true
    · rw [List.dropWhile_cons_of_pos hp, List.takeWhile_cons_of_pos hp, ih]
      rfl
    · rw [List.dropWhile_cons_of_neg hp, List.takeWhile_cons_of_neg hp]
      rfl
theorem tw_none (c : UInt8) : ∀ (l : List UInt8), c ∉ l → l.takeWhile (ntb c) = l ∧ l.dropWhile (ntb c) = [] := by
  intro l
  induction l with
  | nil => intro _; exact ⟨rfl, rfl⟩
  | cons a r ih =>
    intro h
    have ha : a ≠ c := fun e => h (by simp [e])
    obtain ⟨h1, h2⟩ := ih (fun h2 => h (List.mem_cons_of_mem _ h2))
    rw [List.takeWhile_cons_of_pos (ntb_ne ha), List.dropWhile_cons_of_pos (ntb_ne ha), h1, h2]
    exact ⟨rfl, rfl⟩
theorem dw_some (c : UInt8) (l : List UInt8) (h : c ∈ l) : ∃ r, l.dropWhile (ntb c) = c :: r := by
  induction l with
  | nil => simp at h
  | cons x t ih =>
    by_cases hx : x = c
    · subst hx
      exact ⟨t, List.dropWhile_cons_of_neg (by simp [ntb_eq])⟩
    · rw [List.dropWhile_cons_of_pos (ntb_ne hx)]
      rcases List.mem_cons.1 h with h1 | h1
      · exact absurd h1.symm hx
      · exact ih h1
theorem cut_one (c : UInt8) (l : List UInt8) : Lib.cut l [c] = if c ∈ l then (l.takeWhile (ntb c), (l.dropWhile (ntb c)).drop 1, true) else (l, [], false) := by
  unfold Lib.cut
  rw [index_tw]
  by_cases h : c ∈ l
  · rw [if_pos h, if_pos h, if_pos (by omega)]
    have e : ((l.takeWhile (ntb c)).length : Int).toNat = (l.takeWhile (ntb c)).length := by omega
    rw [e, dw_drop, List.drop_drop]
    have e2 : l.take (l.takeWhile (ntb c)).length = l.takeWhile (ntb c) := (List.prefix_iff_eq_take.1 (List.takeWhile_prefix _)).symm
    rw [e2]
    rfl
  · rw [if_neg h, if_neg h, if_neg (by omega)]
theorem splitK_spl (c : UInt8) : ∀ (k : Nat) (l : List UInt8), l.count c = k → Lib.splitK [c] 0 k l = spl c l := by
  intro k
  induction k with
  | zero =>
    intro l h
    have hm : c ∉ l := List.count_eq_zero.1 h
    rw [spl_eq, (tw_none c l hm).1]
    unfold restW
    rw [(tw_none c l hm).2]
    rfl
  | succ k ih =>
    intro l h
    have hm : c ∈ l := List.count_pos_iff.1 (by omega)
    obtain ⟨r, hr⟩ := dw_some c l hm
    have hidx := index_tw c l
    rw [if_pos hm] at hidx
    rw [Lib.splitK, if_neg (by rw [hidx]; simp), hidx, spl_eq]
    have e : ((l.takeWhile (ntb c)).length : Int).toNat = (l.takeWhile (ntb c)).length := by omega
    have e2 : l.take (l.takeWhile (ntb c)).length = l.takeWhile (ntb c) := (List.prefix_iff_eq_take.1 (List.takeWhile_prefix _)).symm
    have e3 : l.drop ((l.takeWhile (ntb c)).length + [c].length) = r := by
      have := dw_drop (ntb c) l
      rw [hr] at this
      rw [show (l.takeWhile (ntb c)).length + [c].length = (l.takeWhile (ntb c)).length + 1 from rfl, ← List.drop_drop, ← this]
      rfl
    have hc : r.count c = k := by
      have h1 := List.takeWhile_append_dropWhile (p := ntb c) (l := l)
      rw [← h1, List.count_append, hr, List.count_cons_self] at h
      have h2 : (l.takeWhile (ntb c)).count c = 0 := List.count_eq_zero.2 (fun hx => by
        have := List.all_eq_true.1 (List.all_takeWhile (p := ntb c) (l := l)) c hx
        rw [ntb_eq] at this
        cases this)
      omega
    rw [e, Nat.add_zero, e2, e3, ih r hc]
    unfold restW
    rw [hr]

def mapO {α β : Type} (f : α → Option β) : List α → Option (List β)
  | [] => some []
  | a :: r => match f a with | none => none | some b => (mapO f r).map fun l => b :: l
/-- The gap that a word is. -/
def gapW (w : List UInt8) : Option (Int × Int) :=
  if (Lib.cut w [45]).2.2 = true then match numL (Lib.cut w [45]).1, numL (Lib.cut w [45]).2.1 with | some x, some y => some ((x : Int), (y : Int)) | _, _ => none else none
/-- What words are: k numbers, then gaps. -/
def barW : Nat → List (List UInt8) → Option (List Int × List (Int × Int))
  | 0, ws => (mapO gapW ws).map fun g => ([], g)
  | _ + 1, [] => none
  | k + 1, w :: ws => match numL w with | none => none | some v => (barW k ws).map fun p => ((v : Int) :: p.1, p.2)
/-- The same of a text that is empty or begins with a space. -/
def barS (k : Nat) : List UInt8 → Option (List Int × List (Int × Int))
  | [] => barW k []
  | c :: r => if c = 32 then barW k (spl 32 r) else none
def consN (v : Int) (p : List Int × List (Int × Int)) : List Int × List (Int × Int) := (v :: p.1, p.2)
def consG (g : Int × Int) (p : List Int × List (Int × Int)) : List Int × List (Int × Int) := (p.1, g :: p.2)
theorem barW_rest (k : Nat) (r : List UInt8) : barW k (restW 32 r) = barS k (r.dropWhile (ntb 32)) := by
  unfold restW
  by_cases h : (32 : UInt8) ∈ r
  · obtain ⟨t, ht⟩ := dw_some 32 r h
    rw [ht]
    simp [barS]
  · rw [(tw_none 32 r h).2]
    rfl
theorem barS_num (k : Nat) (r : List UInt8) : barS (k + 1) (32 :: r) = match numL (r.takeWhile (ntb 32)) with | none => none | some v => (barS k (r.dropWhile (ntb 32))).map (consN v) := by
  have h : barS (k + 1) (32 :: r) = barW (k + 1) (r.takeWhile (ntb 32) :: restW 32 r) := by
    rw [← spl_eq]
    simp [barS]
  rw [h]
  simp only [barW]
  cases numL (r.takeWhile (ntb 32)) with
  | none => rfl
  | some v =>
    simp only
    rw [barW_rest]
    rfl
theorem barS_gap (r : List UInt8) : barS 0 (32 :: r) = match gapW (r.takeWhile (ntb 32)) with | none => none | some g => (barS 0 (r.dropWhile (ntb 32))).map (consG g) := by
  have h : barS 0 (32 :: r) = barW 0 (r.takeWhile (ntb 32) :: restW 32 r) := by
    rw [← spl_eq]
    simp [barS]
  rw [h]
  simp only [barW, mapO]
  cases gapW (r.takeWhile (ntb 32)) with
  | none => rfl
  | some v =>
    simp only
    rw [← barW_rest]
    simp only [barW]
    cases mapO gapW (restW 32 r) <;> rfl

/-- A text that a predicate's run stops at. -/
def Stops (p : UInt8 → Bool) (z : List UInt8) : Prop := z = [] ∨ ∃ c t, z = c :: t ∧ p c = false
theorem twa {p : UInt8 → Bool} : ∀ {a z : List UInt8}, (∀ x ∈ a, p x = true) → Stops p z → (a ++ z).takeWhile p = a ∧ (a ++ z).dropWhile p = z := by
  intro a
  induction a with
  | nil =>
    intro z _ h
    rcases h with rfl | ⟨c, t, rfl, hc⟩
    · exact ⟨rfl, rfl⟩
    · exact ⟨List.takeWhile_cons_of_neg (by simp [hc]), List.dropWhile_cons_of_neg (by simp [hc])⟩
  | cons x a ih =>
    intro z h hz
    obtain ⟨h1, h2⟩ := ih (fun y hy => h y (List.mem_cons_of_mem _ hy)) hz
    have hx := h x (by simp)
    rw [List.cons_append, List.takeWhile_cons_of_pos hx, List.dropWhile_cons_of_pos hx, h1, h2]
    exact ⟨rfl, rfl⟩
theorem dw_stops (p : UInt8 → Bool) : ∀ l : List UInt8, Stops p (l.dropWhile p) := by
  intro l
  induction l with
  | nil => exact .inl rfl
  | cons a r ih =>
    by_cases hp : p a = true
    · rw [List.dropWhile_cons_of_pos hp]
      exact ih
    · rw [List.dropWhile_cons_of_neg hp]
      exact .inr ⟨a, r, rfl, by simpa using hp⟩
theorem tw_dg (p : UInt8 → Bool) : ∀ (l : List UInt8), ∀ x ∈ l.takeWhile p, p x = true := by
  intro l
  induction l with
  | nil => intro x hx; simp at hx
  | cons a r ih =>
    intro x hx
    by_cases hp : p a = true
    · rw [List.takeWhile_cons_of_pos hp] at hx
      rcases List.mem_cons.1 hx with rfl | hx
      · exact hp
      · exact ih x hx
    · rw [List.takeWhile_cons_of_neg hp] at hx
      simp at hx
theorem dg_not {c : UInt8} (h : isDg c = true) : ntb 32 c = true ∧ ntb 45 c = true := by
  have h1 := isDg_iff.1 h
  refine ⟨ntb_ne (fun e => ?_), ntb_ne (fun e => ?_)⟩
  · subst e
    have : (32 : UInt8).toNat = 32 := rfl
    omega
  · subst e
    have : (45 : UInt8).toNat = 45 := rfl
    omega
theorem stops_dg {c : UInt8} {z : List UInt8} (hc : isDg c = false) (h : Stops (ntb c) z) : Stops isDg z := by
  rcases h with rfl | ⟨x, t, rfl, hx⟩
  · exact .inl rfl
  · refine .inr ⟨x, t, rfl, ?_⟩
    have : x = c := by simpa [ntb] using hx
    rw [this, hc]
theorem rnumL_of {a z : List UInt8} {v : Nat} (h : numL a = some v) (hz : Stops isDg z) : rnumL (a ++ z) = (v, a.length) := by
  have := (twa (numL_dg h).2.1 hz).1
  unfold rnumL
  rw [this, h]
theorem rnumL_pos {r : List UInt8} {v i : Nat} (h : rnumL r = (v, i)) (hi : 0 < i) : ∃ a z, r = a ++ z ∧ numL a = some v ∧ a.length = i ∧ Stops isDg z ∧ z = r.drop i := by
  unfold rnumL at h
  cases hn : numL (r.takeWhile isDg) with
  | none =>
    rw [hn] at h
    simp only [Prod.mk.injEq] at h
    omega
  | some u =>
    rw [hn] at h
    simp only [Prod.mk.injEq] at h
    refine ⟨_, _, (List.takeWhile_append_dropWhile (p := isDg) (l := r)).symm, by rw [hn, h.1], h.2, dw_stops isDg r, ?_⟩
    rw [dw_drop, h.2]
/-- A number at a place where one is wanted: none. -/
theorem num_none {r : List UInt8} (h : (rnumL r).2 = 0) : numL (r.takeWhile (ntb 32)) = none := by
  cases hn : numL (r.takeWhile (ntb 32)) with
  | none => rfl
  | some v =>
    exfalso
    have h1 := rnumL_of hn (stops_dg (by decide) (dw_stops (ntb 32) r))
    rw [List.takeWhile_append_dropWhile] at h1
    rw [h1] at h
    exact (numL_dg hn).1 (List.eq_nil_of_length_eq_zero h)
theorem barS_bad {k : Nat} {z : List UInt8} (h : ¬ Stops (ntb 32) z) : barS k z = none := by
  cases z with
  | nil => exact absurd (.inl rfl) h
  | cons c t =>
    unfold barS
    by_cases hc : c = 32
    · exact absurd (.inr ⟨c, t, rfl, by rw [hc]; exact ntb_eq 32⟩) h
    · exact if_neg hc
theorem dec_stops (p : UInt8 → Bool) (z : List UInt8) : Stops p z ∨ ∃ c t, z = c :: t ∧ p c = true := by
  cases z with
  | nil => exact .inl (.inl rfl)
  | cons c t =>
    cases h : p c with
    | true => exact .inr ⟨c, t, rfl, h⟩
    | false => exact .inl (.inr ⟨c, t, rfl, h⟩)
theorem not_stops {p : UInt8 → Bool} {c : UInt8} {t : List UInt8} (h : p c = true) : ¬ Stops p (c :: t) := by
  rintro (h1 | ⟨d, u, h1, h2⟩)
  · cases h1
  · injection h1 with h3 h4
    rw [← h3, h] at h2
    cases h2
/-- One number more is read. -/
theorem num_step {r : List UInt8} {v i : Nat} (k : Nat) (h : rnumL r = (v, i)) (hi : 0 < i) : barS (k + 1) (32 :: r) = (barS k (r.drop i)).map (consN v) := by
  obtain ⟨a, z, hr, ha, hal, hz, hzd⟩ := rnumL_pos h hi
  rw [barS_num, ← hzd]
  have had := (numL_dg ha).2.1
  rcases dec_stops (ntb 32) z with hs | ⟨c, t, rfl, hc⟩
  · obtain ⟨h1, h2⟩ := twa (fun x hx => (dg_not (had x hx)).1) hs
    rw [hr, h1, h2, ha]
  · have h1 : numL (r.takeWhile (ntb 32)) = none := by
      cases hn : numL (r.takeWhile (ntb 32)) with
      | none => rfl
      | some u =>
        exfalso
        have h3 := rnumL_of hn (stops_dg (by decide) (dw_stops (ntb 32) r))
        rw [List.takeWhile_append_dropWhile, h] at h3
        simp only [Prod.mk.injEq] at h3
        have h4 : r.dropWhile (ntb 32) = c :: t := by rw [dw_drop, ← h3.2, ← hzd]
        exact not_stops hc (h4 ▸ dw_stops (ntb 32) r)
    rw [h1, barS_bad (not_stops hc)]
    rfl
theorem gapW_some {w : List UInt8} {g : Int × Int} (h : gapW w = some g) : ∃ f t x y, w = f ++ 45 :: t ∧ numL f = some x ∧ numL t = some y ∧ g = ((x : Int), (y : Int)) := by
  unfold gapW at h
  rw [cut_one] at h
  by_cases hm : (45 : UInt8) ∈ w
  · rw [if_pos hm] at h
    simp only [if_true] at h
    obtain ⟨t, ht⟩ := dw_some 45 w hm
    rw [ht] at h
    simp only [List.drop_succ_cons, List.drop_zero] at h
    cases h1 : numL (w.takeWhile (ntb 45)) with
    | none => rw [h1] at h; cases h
    | some x =>
      cases h2 : numL t with
      | none => rw [h1, h2] at h; cases h
      | some y =>
        rw [h1, h2] at h
        injection h with h
        refine ⟨_, t, x, y, ?_, h1, h2, h.symm⟩
        rw [← ht, List.takeWhile_append_dropWhile]
  · rw [if_neg hm] at h
    simp at h
theorem gapW_of {f t : List UInt8} {x y : Nat} (hf : numL f = some x) (ht : numL t = some y) : gapW (f ++ 45 :: t) = some ((x : Int), (y : Int)) := by
  obtain ⟨h1, h2⟩ := twa (p := ntb 45) (a := f) (z := 45 :: t) (fun c hc => (dg_not ((numL_dg hf).2.1 c hc)).2) (.inr ⟨45, t, rfl, ntb_eq 45⟩)
  unfold gapW
  have hm : (45 : UInt8) ∈ f ++ 45 :: t := by simp
  have hc := cut_one 45 (f ++ 45 :: t)
  rw [if_pos hm, h1, h2] at hc
  rw [hc]
  simp only [if_true, List.drop_succ_cons, List.drop_zero, hf, ht]
/-- A gap that is one, as the reference reads it. -/
theorem gap_good {r : List UInt8} {g : Int × Int} (h : gapW (r.takeWhile (ntb 32)) = some g) :
    ∃ x y i j : Nat, g = ((x : Int), (y : Int)) ∧ rnumL r = (x, i) ∧ 0 < i ∧ r[i]? = some 45 ∧ rnumL (r.drop (i + 1)) = (y, j) ∧ 0 < j ∧ (r.drop (i + 1)).drop j = r.dropWhile (ntb 32) := by
  obtain ⟨f, t, x, y, hw, hf, ht, hg⟩ := gapW_some h
  have hr := List.takeWhile_append_dropWhile (p := ntb 32) (l := r)
  have hs := dw_stops (ntb 32) r
  obtain ⟨z, hz⟩ : ∃ z, z = r.dropWhile (ntb 32) := ⟨_, rfl⟩
  rw [← hz] at hr hs ⊢
  rw [hw, List.append_assoc, List.cons_append] at hr
  have h1 := rnumL_of (z := 45 :: (t ++ z)) hf (.inr ⟨45, _, rfl, by decide⟩)
  have h2 := rnumL_of ht (stops_dg (by decide) hs)
  have e : r.drop (f.length + 1) = t ++ z := by
    rw [← hr, ← List.drop_drop]
    simp
  refine ⟨x, y, f.length, t.length, hg, by rw [← hr]; exact h1, ?_, ?_, by rw [e]; exact h2, ?_, ?_⟩
  · exact List.length_pos_iff.2 (numL_dg hf).1
  · rw [← hr]
    simp
  · exact List.length_pos_iff.2 (numL_dg ht).1
  · rw [e]
    simp
theorem gap_step {r : List UInt8} {x y i j : Nat} (h1 : rnumL r = (x, i)) (hi : 0 < i) (h45 : r[i]? = some 45) (h2 : rnumL (r.drop (i + 1)) = (y, j)) (hj : 0 < j) :
    barS 0 (32 :: r) = (barS 0 ((r.drop (i + 1)).drop j)).map (consG ((x : Int), (y : Int))) := by
  rw [barS_gap]
  cases hn : gapW (r.takeWhile (ntb 32)) with
  | some g =>
    obtain ⟨x2, y2, i2, j2, hg, a1, a2, a3, a4, a5, a6⟩ := gap_good hn
    rw [h1] at a1
    injection a1 with e1 e2
    subst e1; subst e2
    rw [h2] at a4
    injection a4 with e1 e2
    subst e1; subst e2
    rw [a6, hg]
  | none =>
    rcases dec_stops (ntb 32) ((r.drop (i + 1)).drop j) with hs | ⟨c, t, he, hc⟩
    · exfalso
      obtain ⟨a, z, ha, hna, hal, _, hzd⟩ := rnumL_pos h1 hi
      obtain ⟨b, q, hb, hnb, hbl, _, hqd⟩ := rnumL_pos h2 hj
      rw [← hqd] at hs
      have hz : z = 45 :: (b ++ q) := by
        have hlt : i < r.length := by
          rcases Nat.lt_or_ge i r.length with h | h
          · exact h
          · rw [List.getElem?_eq_none h] at h45
            cases h45
        rw [hzd, List.drop_eq_getElem_cons hlt, hb]
        congr 1
        rw [List.getElem?_eq_getElem hlt] at h45
        injection h45
      have hw : r = (a ++ 45 :: b) ++ q := by rw [ha, hz]; simp
      have hall : ∀ x ∈ a ++ 45 :: b, ntb 32 x = true := by
        intro x hx
        rcases List.mem_append.1 hx with hx | hx
        · exact (dg_not ((numL_dg hna).2.1 x hx)).1
        · rcases List.mem_cons.1 hx with rfl | hx
          · decide
          · exact (dg_not ((numL_dg hnb).2.1 x hx)).1
      have ht := (twa hall hs).1
      rw [← hw] at ht
      rw [ht, gapW_of hna hnb] at hn
      cases hn
    · rw [he, barS_bad (not_stops hc)]
      rfl
theorem gap_none {r : List UInt8} (h : (rnumL r).2 = 0 ∨ r[(rnumL r).2]? ≠ some 45 ∨ (rnumL (r.drop ((rnumL r).2 + 1))).2 = 0) : barS 0 (32 :: r) = none := by
  rw [barS_gap]
  cases hn : gapW (r.takeWhile (ntb 32)) with
  | none => rfl
  | some g =>
    exfalso
    obtain ⟨x2, y2, i2, j2, hg, a1, a2, a3, a4, a5, a6⟩ := gap_good hn
    rw [a1] at h
    rcases h with h | h | h
    · simp at h; omega
    · exact h a3
    · simp only at h
      rw [a4] at h
      simp at h
      omega
/-- What a line says. -/
def barL (l : List UInt8) : Option (List Int × List (Int × Int)) := barW 5 (spl 32 l)
theorem barL_eq (l : List UInt8) : barL l = barS 5 (32 :: l) := by simp [barL, barS]
end Go.Proofs.YtfljmbdnnjjmoaaDoor
