/-
  The laws' arguments opened: a list of bars.
-/
import Derived.Test.YtfljmbdnnjjmoaaDoorLC
namespace Go.Proofs.YtfljmbdnnjjmoaaDoor
open Go.Joins Go.ChangeShapes Go.WideShapes Go.RowKit Go.Deep Go.KP

theorem list_of {α : Type} (z : α) (P : Nat → α → Prop) : ∀ n : Nat, (∀ i, i < n → ∃ x, P i x) → ∃ l : List α, l.length = n ∧ ∀ i, i < n → P i (l[i]?.getD z) := by
  intro n
  induction n with
  | zero => intro _; exact ⟨[], rfl, fun i hi => by omega⟩
  | succ n ih =>
    intro h
    obtain ⟨l, hl, hp⟩ := ih (fun i hi => h i (by omega))
    obtain ⟨x, hx⟩ := h n (by omega)
    refine ⟨l ++ [x], by simp [hl], fun i hi => ?_⟩
    by_cases hin : i = n
    · subst hin
      have e : (l ++ [x])[i]?.getD z = x := by rw [← hl]; simp
      rw [e]
      exact hx
    · have e : (l ++ [x])[i]?.getD z = l[i]?.getD z := by rw [List.getElem?_append_left (by omega)]
      rw [e]
      exact hp i (by omega)
section
variable {H : Type} {enc : TypeId × Value → H} {W : World} {base : Nat} {spare : Nat → Bool} {held : Bool}
set_option maxRecDepth 100000 in
/-- A slice of bars that came in. -/
theorem bars_open {fuel : Nat} {v : Value} {x : DataW H × List MemPlace} (h : DataW.trod enc Tryd.prog W base spare held fuel 47 [v] = some x) : ∃ l : List Br, BarsAt W.heap.size W v l ∧ l.length ≤ maxLen := by
  rcases open_slice_fields Tryd.underlying47 Tryd.underlying24 (by kernel_rfl) (by kernel_rfl) h with ⟨h0, _⟩ | ⟨a, len, cap, m, D, Pl, hcs, _, hl, hcm, hm, _, hi⟩
  · have hv : v = .slice none 0 0 := by simpa using h0
    exact ⟨[], by rw [hv]; exact ⟨SlAt.nil _ _ _, fun i hi => by simp at hi⟩, by simp⟩
  · have hv : v = .slice (some a) len cap := by simpa using hcs
    subst hv
    have hml : len ≤ m := by rw [hm]; split <;> omega
    have hall : ∀ i, i < len → ∃ b : Br, (∀ j u, b.cells[j]? = some u → W.cell? (a.add (i * 6 + j)) = some u) ∧ SlAt W.heap.size W 2 b.gv b.gs.length (pcells b.gs) := by
      intro i hil
      obtain ⟨ys, n, _, _, _, hf⟩ := hi i (by omega)
      obtain ⟨v0, y0, c0, _, t0⟩ := hf 0 _ rfl
      obtain ⟨v1, y1, c1, _, t1⟩ := hf 1 _ rfl
      obtain ⟨v2, y2, c2, _, t2⟩ := hf 2 _ rfl
      obtain ⟨v3, y3, c3, _, t3⟩ := hf 3 _ rfl
      obtain ⟨v4, y4, c4, _, t4⟩ := hf 4 _ rfl
      obtain ⟨v5, y5, c5, _, t5⟩ := hf 5 _ rfl
      obtain ⟨f0, e0, _, _⟩ := DataW.trod_int Tryd.underlying3 t0
      obtain ⟨f1, e1, _, _⟩ := DataW.trod_int Tryd.underlying3 t1
      obtain ⟨f2, e2, _, _⟩ := DataW.trod_int Tryd.underlying3 t2
      obtain ⟨f3, e3, _, _⟩ := DataW.trod_int Tryd.underlying3 t3
      obtain ⟨f4, e4, _, _⟩ := DataW.trod_int Tryd.underlying3 t4
      obtain ⟨gs, hg⟩ := gaps_open t5
      simp only [List.cons.injEq, and_true] at e0 e1 e2 e3 e4
      subst e0; subst e1; subst e2; subst e3; subst e4
      refine ⟨⟨f0, f1, f2, f3, f4, v5, gs⟩, fun j u hu => ?_, hg⟩
      simp only [Br.cells] at hu
      rcases j with _ | _ | _ | _ | _ | _ | j
      · simp at hu; rw [← hu]; exact c0
      · simp at hu; rw [← hu]; exact c1
      · simp at hu; rw [← hu]; exact c2
      · simp at hu; rw [← hu]; exact c3
      · simp at hu; rw [← hu]; exact c4
      · simp at hu; rw [← hu]; exact c5
      · simp at hu
    rcases Nat.eq_zero_or_pos len with h0 | hpos
    · subst h0
      exact ⟨[], ⟨⟨by simp [bcells], .inl ⟨some a, cap, rfl, rfl⟩⟩, fun i hi => by simp at hi⟩, by simp⟩
    · obtain ⟨b00, hb00, _⟩ := hall 0 hpos
      have c0 := hb00 0 _ rfl
      have hsp := World.cell?_spot c0
      have hlt := cell_lt c0
      obtain ⟨b, o, sp⟩ := a
      have : sp = none := by simpa [Addr.add] using hsp
      subst this
      obtain ⟨l, hll, hlp⟩ := list_of Br.zero (fun i b' => (∀ j u, b'.cells[j]? = some u → W.cell? ((⟨b, o, none⟩ : Addr).add (i * 6 + j)) = some u) ∧ SlAt W.heap.size W 2 b'.gv b'.gs.length (pcells b'.gs)) len hall
      refine ⟨l, ⟨⟨bcells_length l, .inr ⟨b, o, cap, by rw [hll], by simpa [Addr.add] using hlt, fun j u hu => ?_⟩⟩, fun i hi2 => (hlp i (by omega)).2⟩, by omega⟩
      have hjl : j < (bcells l).length := (List.getElem?_eq_some_iff.1 hu).1
      rw [bcells_length] at hjl
      have hq : j / 6 < l.length := by omega
      have hp := (hlp (j / 6) (by omega)).1 (j % 6) u
      have hcell : (bAt l (j / 6)).cells[j % 6]? = some u := by
        obtain ⟨p1, p2, p3, p4, p5, p6⟩ := bcells_at l (j / 6) hq
        have ej : j = j / 6 * 6 + j % 6 := by omega
        rw [ej] at hu
        have hr : j % 6 < 6 := Nat.mod_lt _ (by omega)
        obtain ⟨r, hre⟩ : ∃ r, r = j % 6 := ⟨_, rfl⟩
        rw [← hre] at hu hr ⊢
        simp only [Br.cells]
        rcases r with _ | _ | _ | _ | _ | _ | r
        · rw [Nat.add_zero, p1] at hu; simpa using hu
        · rw [p2] at hu; simpa using hu
        · rw [p3] at hu; simpa using hu
        · rw [p4] at hu; simpa using hu
        · rw [p5] at hu; simpa using hu
        · rw [p6] at hu; simpa using hu
        · omega
      have h9 := hp hcell
      rw [Addr.add_lit] at h9
      have ej : o + j = o + (j / 6 * 6 + j % 6) := by omega
      rw [ej]
      exact h9
set_option maxRecDepth 100000 in
theorem barsv_open {r : Reach} {b0 : Nat} {v : Value} {d : DataW H} {p : List MemPlace} (hv : Value.okWide Tryd.prog W r b0 47 v) (h : DataW.Trod enc Tryd.prog W base spare held 47 v d p) :
    ∃ l : List Br, BarsAt W.heap.size W v l ∧ l.length ≤ maxLen := by
  obtain ⟨a, n, c, rfl⟩ := okWide_slice Tryd.underlying47 hv
  obtain ⟨fuel, hf⟩ := h
  exact bars_open hf
set_option maxRecDepth 100000 in
theorem barsc_open {r : Reach} {b0 : Nat} {v : Value} {d : DataW H} {p : List MemPlace} (hv : Value.okWide Tryd.prog W r b0 47 v) (h : DataW.Trod enc Tryd.prog W base spare held 47 v d p) :
    ∃ l : List Br, BarsAt W.heap.size W v l ∧ l.length ≤ maxLen ∧ ∀ a n c, v = .slice a n c → n ≤ c := by
  obtain ⟨l, h1, h2⟩ := barsv_open hv h
  refine ⟨l, h1, h2, ?_⟩
  obtain ⟨a, n, c, rfl⟩ := okWide_slice Tryd.underlying47 hv
  obtain ⟨fuel, hf⟩ := h
  rcases open_slice_fields Tryd.underlying47 Tryd.underlying24 (by kernel_rfl) (by kernel_rfl) hf with ⟨h0, _⟩ | ⟨a', len, cap, m, D, Pl, hcs, _, hl, _⟩
  · have hv2 : Value.slice a n c = .slice none 0 0 := by simpa [Value.cells] using h0
    rintro a2 n2 c2 he
    rw [hv2] at he
    cases he
    exact Nat.le_refl _
  · have hv2 : Value.slice a n c = .slice (some a') len cap := by simpa [Value.cells] using hcs
    rintro a2 n2 c2 he
    rw [hv2] at he
    cases he
    exact hl
end
end Go.Proofs.YtfljmbdnnjjmoaaDoor
