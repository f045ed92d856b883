/-
  The laws' arguments opened: a bar, a list of ints. (open_slice_fields, open_agg6: the guides' plain blocks, copied as they ask.)
-/
import Derived.Test.YtfljmbdnnjjmoaaDoorS12
import Derived.Deep.Slices
import Derived.Deep.Fields
import Derived.ChangeSame
import Derived.ChangeSlices
import Derived.Lib.SmallJoins
namespace Go.Proofs.YtfljmbdnnjjmoaaDoor
open Go.Joins Go.ChangeShapes Go.WideShapes Go.RowKit Go.Deep Go.KP
section
variable {H : Type} {enc : TypeId × Value → H} {P : Program} {w : World} {base : Nat} {spare : Nat → Bool} {held : Bool}
theorem open_slice_fields {t e : TypeId} {fs : Array Field} {fuel : Nat} {cs : List Value} {x : DataW H × List MemPlace} (ht : P.underlying t = some (.slice e)) (he : P.underlying e = some (.struct fs))
    (hone : oneCellFields P fs = true) (hC : P.cellsOf e = fs.size) (h : DataW.trod enc P w base spare held fuel t cs = some x) :
    (cs = [.slice none 0 0] ∧ x = (.nil, [])) ∨
    ∃ (a : Addr) (len cap m : Nat) (D : Nat → DataW H) (Pl : Nat → List MemPlace), cs = [.slice (some a) len cap] ∧ base ≤ a.block ∧ len ≤ cap ∧ cap ≤ maxLen ∧ m = (if spare a.block then cap else len) ∧
      x = (.slice ((List.range len).map D) ((List.range (m - len)).map fun j => D (len + j)), MemPlace.row a (m * fs.size) ++ (List.range m).flatMap Pl) ∧
      ∀ i, i < m → ∃ (ys : List (DataW H × List MemPlace)) (n : Nat), D i = .agg (ys.map (·.1)) ∧ Pl i = ys.flatMap (·.2) ∧ ys.length = fs.size ∧
        ∀ (j : Nat) (f : Field), fs[j]? = some f → ∃ (v : Value) (y : DataW H × List MemPlace), w.cell? (a.add (i * fs.size + j)) = some v ∧ ys[j]? = some y ∧ DataW.trod enc P w base spare held n f.type [v] = some y := by
  rcases open_slice ht h with h0 | ⟨a, len, cap, m, n, D, Pl, hcs, hb, hl, hm, hmm, hx, hi⟩
  · exact .inl h0
  · refine .inr ⟨a, len, cap, m, D, Pl, hcs, hb, hl, hm, hmm, by rw [hC] at hx; exact hx, fun i him => ?_⟩
    obtain ⟨cs', hc, ht'⟩ := hi i him
    rw [hC] at hc
    obtain ⟨ys, n', hn', hy, hlen, hyl, hf⟩ := DataW.trod_struct he ht'
    obtain ⟨_, hcl, hat⟩ := World.cells?_some hc
    simp only [Prod.mk.injEq] at hy
    refine ⟨ys, n', hy.1, hy.2, hyl, fun j f hj => ?_⟩
    obtain ⟨ho, hk⟩ := hone_of hone j f hj
    have hjl : j < fs.size := (Array.getElem?_eq_some_iff.1 hj).1
    have hcell := hat j hjl
    have hv : cs'[j]? = some (cs'[j]'(by omega)) := List.getElem?_eq_getElem (by omega)
    have h1 := hf j f hj
    rw [ho, hk] at h1
    have hone' : (cs'.drop j).take 1 = [cs'[j]'(by omega)] := by
      rw [List.drop_eq_getElem_cons (by omega)]
      rfl
    rw [hone'] at h1
    have hys : ys[j]? = some (ys[j]'(by omega)) := List.getElem?_eq_getElem (by omega)
    refine ⟨_, _, ?_, hys, h1.trans hys⟩
    rw [← Go.Deep.add_add, hcell, hv]
theorem open_agg6 {r : Reach} {b0 : Nat} {t : TypeId} {f0 f1 f2 f3 f4 f5 : Field} {v : Value} {d : DataW H} {p : List MemPlace} (hs : P.underlying t = some (.struct #[f0, f1, f2, f3, f4, f5])) (hone : oneCellFields P #[f0, f1, f2, f3, f4, f5] = true) (hC : P.cellsOf t = 6)
    (hv : Value.okWide P w r b0 t v) (h : DataW.Trod enc P w base spare held t v d p) :
    ∃ (v0 v1 v2 v3 v4 v5 : Value) (y0 y1 y2 y3 y4 y5 : DataW H × List MemPlace) (n : Nat), v = .agg #[v0, v1, v2, v3, v4, v5] ∧ d = .agg [y0.1, y1.1, y2.1, y3.1, y4.1, y5.1] ∧ p = y0.2 ++ (y1.2 ++ (y2.2 ++ (y3.2 ++ (y4.2 ++ y5.2)))) ∧
      DataW.trod enc P w base spare held n f0.type [v0] = some y0 ∧ DataW.trod enc P w base spare held n f1.type [v1] = some y1 ∧ DataW.trod enc P w base spare held n f2.type [v2] = some y2 ∧ DataW.trod enc P w base spare held n f3.type [v3] = some y3 ∧ DataW.trod enc P w base spare held n f4.type [v4] = some y4 ∧ DataW.trod enc P w base spare held n f5.type [v5] = some y5 := by
  obtain ⟨cs, rfl, hsz⟩ := okWide_struct hs hv
  obtain ⟨l⟩ := cs
  match l, hsz.trans hC with
  | [c0, c1, c2, c3, c4, c5], _ =>
    obtain ⟨fuel, hf⟩ := h
    obtain ⟨xs, n, _, hx, _, hlen, hg⟩ := DataW.trod_struct hs hf
    obtain ⟨o0, k0⟩ := hone_of hone 0 f0 rfl
    obtain ⟨o1, k1⟩ := hone_of hone 1 f1 rfl
    obtain ⟨o2, k2⟩ := hone_of hone 2 f2 rfl
    obtain ⟨o3, k3⟩ := hone_of hone 3 f3 rfl
    obtain ⟨o4, k4⟩ := hone_of hone 4 f4 rfl
    obtain ⟨o5, k5⟩ := hone_of hone 5 f5 rfl
    match xs, hlen with
    | [y0, y1, y2, y3, y4, y5], _ =>
      simp only [Prod.mk.injEq] at hx
      exact ⟨c0, c1, c2, c3, c4, c5, y0, y1, y2, y3, y4, y5, n, rfl, by simpa using hx.1, by simpa using hx.2, by simpa [Value.cells, o0, k0] using hg 0 f0 rfl, by simpa [Value.cells, o1, k1] using hg 1 f1 rfl, by simpa [Value.cells, o2, k2] using hg 2 f2 rfl, by simpa [Value.cells, o3, k3] using hg 3 f3 rfl, by simpa [Value.cells, o4, k4] using hg 4 f4 rfl, by simpa [Value.cells, o5, k5] using hg 5 f5 rfl⟩
end
theorem cell_lt {w : World} {a : Addr} {v : Value} (h : w.cell? a = some v) : a.block < w.heap.size := by
  unfold World.cell? at h
  rcases Nat.lt_or_ge a.block w.heap.size with h1 | h1
  · exact h1
  · rw [Array.getElem?_eq_none h1] at h
    cases h
section
variable {H : Type} {enc : TypeId × Value → H} {W : World} {base : Nat} {spare : Nat → Bool} {held : Bool}
set_option maxRecDepth 100000 in
/-- A slice of ints that came in. -/
theorem ints_open {fuel : Nat} {cs : List Value} {x : DataW H × List MemPlace} (h : DataW.trod enc Tryd.prog W base spare held fuel 34 cs = some x) :
    ∃ (A : Option Addr) (n c : Nat) (ls : List Int), cs = [.slice A n c] ∧ ls.length = n ∧ ∀ k, k < n → ∃ b o, A = some ⟨b, o, none⟩ ∧ b < W.heap.size ∧ W.cell? ⟨b, o + k, none⟩ = some (.int .i64 (ls[k]?.getD 0)) := by
  rcases open_ints Tryd.underlying34 Tryd.underlying3 (by kernel_rfl) h with ⟨rfl, _⟩ | ⟨a, len, cap, zs, rfl, _, hl, _, hz, _, hc, _⟩
  · exact ⟨none, 0, 0, [], rfl, rfl, fun k hk => by omega⟩
  · have hzl : len ≤ zs.length := by rw [hz]; split <;> omega
    refine ⟨some a, len, cap, zs.take len, rfl, by simp; omega, fun k hk => ?_⟩
    have h1 := hc k (by omega)
    have h0 := hc 0 (by omega)
    have hsp := World.cell?_spot h0
    have hlt := cell_lt h0
    obtain ⟨b, o, sp⟩ := a
    have : sp = none := by simpa [Addr.add] using hsp
    subst this
    refine ⟨b, o, rfl, by simpa [Addr.add] using hlt, ?_⟩
    rw [Addr.add_lit] at h1
    rw [h1]
    simp [hk, show k < zs.length by omega]
set_option maxRecDepth 100000 in
theorem intsv_open {r : Reach} {b0 : Nat} {v : Value} {d : DataW H} {p : List MemPlace} (hv : Value.okWide Tryd.prog W r b0 34 v) (h : DataW.Trod enc Tryd.prog W base spare held 34 v d p) :
    ∃ (A : Option Addr) (n c : Nat) (ls : List Int), v = .slice A n c ∧ ls.length = n ∧ ∀ k, k < n → ∃ b o, A = some ⟨b, o, none⟩ ∧ b < W.heap.size ∧ W.cell? ⟨b, o + k, none⟩ = some (.int .i64 (ls[k]?.getD 0)) := by
  obtain ⟨a, l, c, rfl⟩ := okWide_slice Tryd.underlying34 hv
  obtain ⟨fuel, hf⟩ := h
  obtain ⟨A, n, c2, ls, e, h1, h2⟩ := ints_open hf
  have e2 : Value.slice a l c = .slice A n c2 := by simpa [Value.cells] using e
  exact ⟨A, n, c2, ls, e2, h1, h2⟩
set_option maxRecDepth 100000 in
/-- The same with its capacity. -/
theorem intsc_open {r : Reach} {b0 : Nat} {v : Value} {d : DataW H} {p : List MemPlace} (hv : Value.okWide Tryd.prog W r b0 34 v) (h : DataW.Trod enc Tryd.prog W base spare held 34 v d p) :
    ∃ (A : Option Addr) (n c : Nat) (ls : List Int), v = .slice A n c ∧ ls.length = n ∧ (∀ k, k < n → ∃ b o, A = some ⟨b, o, none⟩ ∧ b < W.heap.size ∧ W.cell? ⟨b, o + k, none⟩ = some (.int .i64 (ls[k]?.getD 0))) ∧ n ≤ c ∧ c ≤ maxLen := by
  obtain ⟨a, l, c, rfl⟩ := okWide_slice Tryd.underlying34 hv
  obtain ⟨A, n, c2, ls, e2, h1, h2⟩ := intsv_open hv h
  obtain ⟨fuel, hf⟩ := h
  refine ⟨A, n, c2, ls, e2, h1, h2, ?_⟩
  rcases open_ints Tryd.underlying34 Tryd.underlying3 (by kernel_rfl) hf with ⟨e, _⟩ | ⟨a3, len, cap, zs, e, _, hl, hm, _⟩
  · have e3 : Value.slice a l c = .slice none 0 0 := by simpa [Value.cells] using e
    rw [e3] at e2
    cases e2
    exact ⟨Nat.le_refl _, by unfold maxLen; omega⟩
  · have e3 : Value.slice a l c = .slice (some a3) len cap := by simpa [Value.cells] using e
    rw [e3] at e2
    cases e2
    exact ⟨hl, hm⟩
set_option maxRecDepth 100000 in
/-- A slice of gaps that came in. -/
theorem gaps_open {fuel : Nat} {v : Value} {x : DataW H × List MemPlace} (h : DataW.trod enc Tryd.prog W base spare held fuel 22 [v] = some x) : ∃ gs : List (Int × Int), SlAt W.heap.size W 2 v gs.length (pcells gs) := by
  rcases open_slice_fields Tryd.underlying22 Tryd.underlying31 (by kernel_rfl) (by kernel_rfl) h with ⟨h0, _⟩ | ⟨a, len, cap, m, D, Pl, hcs, _, hl, _, hm, _, hi⟩
  · have hv : v = .slice none 0 0 := by simpa using h0
    exact ⟨[], by rw [hv]; exact SlAt.nil _ _ _⟩
  · have hv : v = .slice (some a) len cap := by simpa using hcs
    subst hv
    have hml : len ≤ m := by rw [hm]; split <;> omega
    have hall : ∀ i, i < len → ∃ f t : Int, W.cell? (a.add (i * 2)) = some (.int .i64 f) ∧ W.cell? (a.add (i * 2 + 1)) = some (.int .i64 t) := by
      intro i hil
      obtain ⟨ys, n, _, _, _, hf⟩ := hi i (by omega)
      obtain ⟨v0, y0, c0, _, t0⟩ := hf 0 _ rfl
      obtain ⟨v1, y1, c1, _, t1⟩ := hf 1 _ rfl
      obtain ⟨f, e0, _, _⟩ := DataW.trod_int Tryd.underlying3 t0
      obtain ⟨t, e1, _, _⟩ := DataW.trod_int Tryd.underlying3 t1
      simp only [List.cons.injEq, and_true] at e0 e1
      subst e0; subst e1
      exact ⟨f, t, c0, c1⟩
    rcases Nat.eq_zero_or_pos len with h0 | hpos
    · subst h0
      exact ⟨[], by simp [pcells], .inl ⟨some a, cap, rfl, rfl⟩⟩
    · obtain ⟨f0, t0, c0, _⟩ := hall 0 hpos
      have hsp := World.cell?_spot c0
      have hlt := cell_lt c0
      obtain ⟨b, o, sp⟩ := a
      have : sp = none := by simpa [Addr.add] using hsp
      subst this
      obtain ⟨gs, hgl, hgc⟩ : ∃ gs : List (Int × Int), gs.length = len ∧ ∀ i, i < len → W.cell? ⟨b, o + i * 2, none⟩ = some (.int .i64 (gF gs i)) ∧ W.cell? ⟨b, o + (i * 2 + 1), none⟩ = some (.int .i64 (gT gs i)) := by
        refine ⟨(List.range len).map fun i => (match W.cell? ⟨b, o + i * 2, none⟩ with | some (.int _ f) => f | _ => 0, match W.cell? ⟨b, o + (i * 2 + 1), none⟩ with | some (.int _ f) => f | _ => 0), by simp, fun i hil => ?_⟩
        obtain ⟨f, t, c0, c1⟩ := hall i hil
        rw [Addr.add_lit] at c0 c1
        simp only [gF, gT, List.getElem?_map, List.getElem?_range hil, Option.map_some, Option.getD_some, c0, c1, and_self]
      have key : ∀ j u, (pcells gs)[j]? = some u → W.cell? ⟨b, o + j, none⟩ = some u := by
        intro j u hu
        have hjl : j < (pcells gs).length := (List.getElem?_eq_some_iff.1 hu).1
        rw [pcells_length] at hjl
        obtain ⟨p1, p2⟩ := pcells_at gs (j / 2) (by omega)
        obtain ⟨q1, q2⟩ := hgc (j / 2) (by omega)
        rcases Nat.mod_two_eq_zero_or_one j with hj | hj
        · have e : j = j / 2 * 2 := by omega
          rw [e] at hu ⊢
          rw [p1] at hu
          rw [q1, hu]
        · have e : j = j / 2 * 2 + 1 := by omega
          rw [e] at hu ⊢
          rw [p2] at hu
          rw [q2, hu]
      refine ⟨gs, pcells_length gs, .inr ⟨b, o, cap, by rw [hgl], by simpa [Addr.add] using hlt, key⟩⟩
set_option maxRecDepth 100000 in
/-- A bar that came in. -/
theorem bar_open {r : Reach} {b0 : Nat} {v : Value} {d : DataW H} {p : List MemPlace} (hv : Value.okWide Tryd.prog W r b0 24 v) (h : DataW.Trod enc Tryd.prog W base spare held 24 v d p) :
    ∃ (wd dp ln ct cs : Int) (gv : Value) (gs : List (Int × Int)), v = barV wd dp ln ct cs gv ∧ SlAt W.heap.size W 2 gv gs.length (pcells gs) := by
  obtain ⟨v0, v1, v2, v3, v4, v5, y0, y1, y2, y3, y4, y5, n, rfl, _, _, h0, h1, h2, h3, h4, h5⟩ := open_agg6 Tryd.underlying24 (by kernel_rfl) (by kernel_rfl) hv h
  obtain ⟨z0, e0, _, _⟩ := DataW.trod_int Tryd.underlying3 h0
  obtain ⟨z1, e1, _, _⟩ := DataW.trod_int Tryd.underlying3 h1
  obtain ⟨z2, e2, _, _⟩ := DataW.trod_int Tryd.underlying3 h2
  obtain ⟨z3, e3, _, _⟩ := DataW.trod_int Tryd.underlying3 h3
  obtain ⟨z4, e4, _, _⟩ := DataW.trod_int Tryd.underlying3 h4
  obtain ⟨gs, hg⟩ := gaps_open h5
  simp only [List.cons.injEq, and_true] at e0 e1 e2 e3 e4
  subst e0; subst e1; subst e2; subst e3; subst e4
  exact ⟨z0, z1, z2, z3, z4, v5, gs, rfl, hg⟩
end
end Go.Proofs.YtfljmbdnnjjmoaaDoor
