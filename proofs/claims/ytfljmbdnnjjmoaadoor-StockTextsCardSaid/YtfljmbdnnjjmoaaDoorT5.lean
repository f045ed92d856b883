/-
  Texts of bars: what they say. No walk.
-/
import Derived.Test.YtfljmbdnnjjmoaaDoorT4
namespace Go.Proofs.YtfljmbdnnjjmoaaDoor
open Go.RowKit Go.KP Go.Shelf

/-- What lines say: each ends. -/
def textW : List (List UInt8) → Option (List (List Int × List (Int × Int)))
  | [] => none
  | w :: r => if r = [] then (if w = [] then some [] else none) else match barL w with | none => none | some b => (textW r).map fun l => b :: l
def textL (l : List UInt8) : Option (List (List Int × List (Int × Int))) := textW (spl 10 l)
theorem textL_nil : textL [] = some [] := rfl
theorem textL_end {l : List UInt8} (h0 : l ≠ []) (h : (10 : UInt8) ∉ l) : textL l = none := by
  obtain ⟨h1, h2⟩ := tw_none 10 l h
  have hr : restW 10 l = [] := by unfold restW; rw [h2]
  unfold textL
  rw [spl_eq, hr, h1]
  simp [textW, h0]
theorem textL_line {l : List UInt8} (h : (10 : UInt8) ∈ l) : textL l = match barL (l.takeWhile (ntb 10)) with | none => none | some b => (textL ((l.dropWhile (ntb 10)).drop 1)).map fun x => b :: x := by
  obtain ⟨r, hr⟩ := dw_some 10 l h
  have h1 : restW 10 l = spl 10 r := by unfold restW; rw [hr]
  have h2 : spl 10 r ≠ [] := by rw [spl_eq]; simp
  unfold textL
  rw [spl_eq, h1, hr]
  simp only [textW, if_neg h2, List.drop_succ_cons, List.drop_zero]
def toBr (p : List Int × List (Int × Int)) : Br := ⟨p.1.getD 0 0, p.1.getD 1 0, p.1.getD 2 0, p.1.getD 3 0, p.1.getD 4 0, .slice none 0 0, p.2⟩
def parsedE (l : List UInt8) : Int := if 65536 < l.length then 4 else match textL l with | none => 3 | some bs => chks (bs.map toBr)
def parsedL (l : List UInt8) : List Br := if parsedE l = 0 then (match textL l with | none => [] | some bs => bs.map toBr) else []
/-- Lists of bars that read alike. -/
def AlikeAll (a b : List Br) : Prop := a.length = b.length ∧ ∀ i, i < b.length → Alike (bAt a i) (bAt b i)
theorem Alike.symm {a b : Br} (h : Alike a b) : Alike b a := ⟨h.wd.symm, h.dp.symm, h.ln.symm, h.ct.symm, h.cs.symm, h.gs.symm⟩
theorem Alike.trans {a b c : Br} (h : Alike a b) (h2 : Alike b c) : Alike a c := ⟨h.wd.trans h2.wd, h.dp.trans h2.dp, h.ln.trans h2.ln, h.ct.trans h2.ct, h.cs.trans h2.cs, h.gs.trans h2.gs⟩
theorem Alike.chk {a b : Br} (h : Alike a b) : a.chk = b.chk := by
  unfold Br.chk
  rw [h.wd, h.dp, h.ln, h.ct, h.cs, h.gs]
theorem AlikeAll.both {a b c : List Br} (h : AlikeAll a c) (h2 : AlikeAll b c) : AlikeAll a b :=
  ⟨h.1.trans h2.1.symm, fun i hi => (h.2 i (by rw [← h2.1]; exact hi)).trans (h2.2 i (by rw [← h2.1]; exact hi)).symm⟩
theorem alike_chks {a b : List Br} (h : AlikeAll a b) : chks a = chks b := by
  have key : ∀ (a b : List Br), AlikeAll a b → firstErr a = firstErr b := by
    intro a
    induction a with
    | nil =>
      intro b h
      rw [List.eq_nil_of_length_eq_zero h.1.symm]
    | cons x r ih =>
      intro b h
      cases b with
      | nil => have := h.1; simp at this
      | cons y t =>
        have h0 := h.2 0 (by simp)
        have h1 : AlikeAll r t := ⟨by have := h.1; simpa using this, fun i hi => by
          have := h.2 (i + 1) (by simpa using hi)
          simpa [bAt] using this⟩
        have h2 : x.chk = y.chk := by
          have : Alike x y := by simpa [bAt] using h0
          exact this.chk
        simp only [firstErr]
        rw [h2, ih t h1]
  unfold chks
  rw [h.1, key a b h]
theorem alike_snoc {a b : List Br} (h : AlikeAll a b) {x y : Br} (hx : Alike x y) : AlikeAll (a ++ [x]) (b ++ [y]) := by
  refine ⟨by simp [h.1], fun i hi => ?_⟩
  unfold bAt
  by_cases h1 : i < b.length
  · rw [List.getElem?_append_left (by rw [h.1]; exact h1), List.getElem?_append_left h1]
    exact h.2 i h1
  · have h2 : i = b.length := by simp at hi; omega
    subst h2
    have e : (a ++ [x])[b.length]? = some x := by rw [← h.1]; simp
    rw [e]
    simpa using hx
/-- What a reader of texts returns. -/
def ParseAt (l : List UInt8) (r : Value) (w' : World) : Prop := ∃ m L, r = .tuple #[m, .int .i64 (parsedE l)] ∧ BarsAt w'.heap.size w' m L ∧ AlikeAll L (parsedL l)
theorem parse_fail {l : List UInt8} {e : Int} (h : parsedE l = e) (hne : e ≠ 0) (w : World) : ParseAt l (.tuple #[.slice none 0 0, .int .i64 e]) w := by
  refine ⟨_, [], by rw [h], bars_nil _ _, ?_⟩
  unfold parsedL
  rw [h, if_neg hne]
  exact ⟨rfl, fun i hi => by simp at hi⟩
end Go.Proofs.YtfljmbdnnjjmoaaDoor
