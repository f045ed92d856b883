/-
  A line of a bar, the program's reader: the walk.
-/
import Derived.Test.YtfljmbdnnjjmoaaDoorT2
import Derived.Test.YtfljmbdnnjjmoaaDoorT3
namespace Go.Proofs.YtfljmbdnnjjmoaaDoor
open Go.RowKit Go.KP Go.Shelf

theorem split_any (c : UInt8) (s : ByteArray) (hl : s.size ≤ 1000000) (B : Nat) (w : World) (hT : PT B w) :
    Calls Tryd.prog 73 #[.string s, .string ⟨#[c]⟩] w fun e w' => ∃ ws : List ByteArray, ws.map (fun b => b.data.toList) = spl c s.data.toList ∧ e = .returned (.slice (some ⟨w.heap.size, 0, none⟩) ws.length ws.length) ∧
      w'.heap[w.heap.size]? = some (.cells (ws.map Value.string).toArray 9 (0, 0)) ∧ w'.heap.size = w.heap.size + 1 ∧ Below w.heap.size w w' := by
  obtain ⟨m, hm⟩ := hT.len
  refine (Tryd.strings_Split s ⟨#[c]⟩ m w (by omega) hm (Nat.le_refl 1)).mono ?_
  rintro e w' ⟨rfl, rfl⟩
  have hlen := Lib.splitB_all ⟨#[c]⟩ (Nat.le_refl 1) 0 _ s rfl
  have hdat := Lib.splitB_data ⟨#[c]⟩ 0 (Lib.countB s ⟨#[c]⟩) s
  have hc : Lib.countB s ⟨#[c]⟩ = s.data.toList.count c := Lib.count_one c s.data.toList
  have hsp := splitK_spl c (Lib.countB s ⟨#[c]⟩) s.data.toList hc.symm
  refine ⟨Lib.splitB ⟨#[c]⟩ 0 (Lib.countB s ⟨#[c]⟩) s, hdat.trans hsp, by rw [hlen], ?_⟩
  obtain ⟨h1, h2, h3⟩ := heap1 w (.cells ((Lib.splitB ⟨#[c]⟩ 0 (Lib.countB s ⟨#[c]⟩) s).map Value.string).toArray 9)
  exact ⟨h1, h2, h3⟩
theorem blk_set {w : World} {b k : Nat} {A : Array Value} {t : TypeId} {v : Value} (h : w.heap[b]? = some (.cells A t (0, 0))) : (w.setCell ⟨b, k, none⟩ v).heap[b]? = some (.cells (A.setIfInBounds k v) t (0, 0)) := by
  simp only [World.setCell, Array.getElem?_modify, h]
  simp
abbrev zeroBar : Obj := .cells #[.int .i64 0, .int .i64 0, .int .i64 0, .int .i64 0, .int .i64 0, .slice none 0 0] 24
/-- The cells of a bar that is being read. -/
def FA (ns : List Int) (gv : Value) : Array Value := #[.int .i64 (ns.getD 0 0), .int .i64 (ns.getD 1 0), .int .i64 (ns.getD 2 0), .int .i64 (ns.getD 3 0), .int .i64 (ns.getD 4 0), gv]
theorem FA_set {ns : List Int} {k : Nat} (h : ns.length = k) (hk : k < 5) (v : Int) (gv : Value) : (FA ns gv).setIfInBounds k (.int .i64 v) = FA (ns ++ [v]) gv := by
  subst h
  have h5 : ns.length = 0 ∨ ns.length = 1 ∨ ns.length = 2 ∨ ns.length = 3 ∨ ns.length = 4 := by omega
  match ns, h5 with
  | [], _ => rfl
  | [_], _ => rfl
  | [_, _], _ => rfl
  | [_, _, _], _ => rfl
  | [_, _, _, _], _ => rfl
  | _ :: _ :: _ :: _ :: _ :: _, h => simp at h
def ptrs (b : Nat) : Array Value := #[.pointer (some ⟨b, 0, none⟩), .pointer (some ⟨b, 1, none⟩), .pointer (some ⟨b, 2, none⟩), .pointer (some ⟨b, 3, none⟩), .pointer (some ⟨b, 4, none⟩)]
/-- The blocks of a line that is being read. -/
structure LineSt (w : World) (ws : List ByteArray) (wr : World) (ns : List Int) (gv : Value) : Prop where
  res : wr.heap[w.heap.size]? = some zeroBar
  bar : wr.heap[w.heap.size + 1]? = some (.cells (FA ns gv) 24 (0, 0))
  words : wr.heap[w.heap.size + 2]? = some (.cells (ws.map Value.string).toArray 9 (0, 0))
  ptr : wr.heap[w.heap.size + 3]? = some (.cells (ptrs (w.heap.size + 1)) 99 (0, 0))
  below : Below w.heap.size w wr
  size : w.heap.size + 4 ≤ wr.heap.size
theorem LineSt.on {w : World} {ws : List ByteArray} {wr : World} {ns : List Int} {gv : Value} {w2 : World} (h : LineSt w ws wr ns gv) (hb : Below wr.heap.size wr w2) : LineSt w ws w2 ns gv := by
  have hs := h.size
  have hs2 := hb.size
  have hsz := h.below.size
  exact ⟨below_blk hb h.res (by omega), below_blk hb h.bar (by omega), below_blk hb h.words (by omega), below_blk hb h.ptr (by omega), h.below.trans (hb.mono hsz), by omega⟩
theorem setCell_size (w : World) (a : Addr) (v : Value) : (w.setCell a v).heap.size = w.heap.size := by simp [World.setCell]
theorem setCell_other {w : World} {b b2 k : Nat} {v : Value} (h : b ≠ b2) : (w.setCell ⟨b, k, none⟩ v).heap[b2]? = w.heap[b2]? := by
  simp only [World.setCell, Array.getElem?_modify, if_neg h]
theorem LineSt.num {w : World} {ws : List ByteArray} {wr : World} {ns : List Int} {gv : Value} (h : LineSt w ws wr ns gv) {k : Nat} (hk : k < 5) (hn : ns.length = k) (v : Int) : LineSt w ws (wr.setCell ⟨w.heap.size + 1, k, none⟩ (.int .i64 v)) (ns ++ [v]) gv := by
  have hs := h.size
  refine ⟨(setCell_other (by omega)).trans h.res, ?_, (setCell_other (by omega)).trans h.words, (setCell_other (by omega)).trans h.ptr, h.below.setCell (p := ⟨w.heap.size + 1, k, none⟩) (by simp) _, by rw [setCell_size]; exact hs⟩
  rw [← FA_set hn hk]
  exact blk_set h.bar
theorem LineSt.gaps {w : World} {ws : List ByteArray} {wr : World} {ns : List Int} {gv : Value} (h : LineSt w ws wr ns gv) (v : Value) : LineSt w ws (wr.setCell ⟨w.heap.size + 1, 5, none⟩ v) ns v := by
  have hs := h.size
  exact ⟨(setCell_other (by omega)).trans h.res, blk_set h.bar, (setCell_other (by omega)).trans h.words, (setCell_other (by omega)).trans h.ptr, h.below.setCell (p := ⟨w.heap.size + 1, 5, none⟩) (by simp) _, by rw [setCell_size]; exact hs⟩
/-- The cells of the result and of the bar. -/
theorem LineSt.cells {w : World} {ws : List ByteArray} {wr : World} {ns : List Int} {gv : Value} (h : LineSt w ws wr ns gv) :
    (wr.cell? ⟨w.heap.size, 0, none⟩ = some (.int .i64 0) ∧ wr.cell? ⟨w.heap.size, 1, none⟩ = some (.int .i64 0) ∧ wr.cell? ⟨w.heap.size, 2, none⟩ = some (.int .i64 0) ∧ wr.cell? ⟨w.heap.size, 3, none⟩ = some (.int .i64 0) ∧ wr.cell? ⟨w.heap.size, 4, none⟩ = some (.int .i64 0) ∧ wr.cell? ⟨w.heap.size, 5, none⟩ = some (.slice none 0 0)) ∧
    (wr.frozen? ⟨w.heap.size, 0, none⟩ = false ∧ wr.frozen? ⟨w.heap.size, 1, none⟩ = false ∧ wr.frozen? ⟨w.heap.size, 2, none⟩ = false ∧ wr.frozen? ⟨w.heap.size, 3, none⟩ = false ∧ wr.frozen? ⟨w.heap.size, 4, none⟩ = false ∧ wr.frozen? ⟨w.heap.size, 5, none⟩ = false) ∧
    (wr.cell? ⟨w.heap.size + 1, 0, none⟩ = some (.int .i64 (ns.getD 0 0)) ∧ wr.cell? ⟨w.heap.size + 1, 1, none⟩ = some (.int .i64 (ns.getD 1 0)) ∧ wr.cell? ⟨w.heap.size + 1, 2, none⟩ = some (.int .i64 (ns.getD 2 0)) ∧ wr.cell? ⟨w.heap.size + 1, 3, none⟩ = some (.int .i64 (ns.getD 3 0)) ∧ wr.cell? ⟨w.heap.size + 1, 4, none⟩ = some (.int .i64 (ns.getD 4 0)) ∧ wr.cell? ⟨w.heap.size + 1, 5, none⟩ = some gv) ∧
    (wr.frozen? ⟨w.heap.size + 1, 0, none⟩ = false ∧ wr.frozen? ⟨w.heap.size + 1, 1, none⟩ = false ∧ wr.frozen? ⟨w.heap.size + 1, 2, none⟩ = false ∧ wr.frozen? ⟨w.heap.size + 1, 3, none⟩ = false ∧ wr.frozen? ⟨w.heap.size + 1, 4, none⟩ = false ∧ wr.frozen? ⟨w.heap.size + 1, 5, none⟩ = false) := by
  have h0 := fun o => cell_blk h.res o
  have h1 := fun o => cell_blk h.bar o
  have h2 := fun o => froz_blk h.res o
  have h3 := fun o => froz_blk h.bar o
  exact ⟨⟨h0 0, h0 1, h0 2, h0 3, h0 4, h0 5⟩, ⟨h2 0, h2 1, h2 2, h2 3, h2 4, h2 5⟩, ⟨h1 0, h1 1, h1 2, h1 3, h1 4, h1 5⟩, ⟨h3 0, h3 1, h3 2, h3 3, h3 4, h3 5⟩⟩
theorem set6 {w : World} {b : Nat} (h : w.heap[b]? = some zeroBar) (v0 v1 v2 v3 v4 v5 : Value) :
    ((((((w.setCell ⟨b, 0, none⟩ v0).setCell ⟨b, 1, none⟩ v1).setCell ⟨b, 2, none⟩ v2).setCell ⟨b, 3, none⟩ v3).setCell ⟨b, 4, none⟩ v4).setCell ⟨b, 5, none⟩ v5).heap[b]? = some (.cells #[v0, v1, v2, v3, v4, v5] 24 (0, 0)) ∧
    Below b w ((((((w.setCell ⟨b, 0, none⟩ v0).setCell ⟨b, 1, none⟩ v1).setCell ⟨b, 2, none⟩ v2).setCell ⟨b, 3, none⟩ v3).setCell ⟨b, 4, none⟩ v4).setCell ⟨b, 5, none⟩ v5) := by
  refine ⟨?_, ((((((Below.refl b w).setCell (p := ⟨b, 0, none⟩) (Nat.le_refl _) _).setCell (p := ⟨b, 1, none⟩) (Nat.le_refl _) _).setCell (p := ⟨b, 2, none⟩) (Nat.le_refl _) _).setCell (p := ⟨b, 3, none⟩) (Nat.le_refl _) _).setCell (p := ⟨b, 4, none⟩) (Nat.le_refl _) _).setCell (p := ⟨b, 5, none⟩) (Nat.le_refl _) _⟩
  have h1 := blk_set (k := 0) (v := v0) h
  have h2 := blk_set (k := 1) (v := v1) h1
  have h3 := blk_set (k := 2) (v := v2) h2
  have h4 := blk_set (k := 3) (v := v3) h3
  have h5 := blk_set (k := 4) (v := v4) h4
  have h6 := blk_set (k := 5) (v := v5) h5
  rw [h6]
  rfl
theorem set6_other {w : World} {b b2 : Nat} (h : b ≠ b2) (v0 v1 v2 v3 v4 v5 : Value) :
    ((((((w.setCell ⟨b, 0, none⟩ v0).setCell ⟨b, 1, none⟩ v1).setCell ⟨b, 2, none⟩ v2).setCell ⟨b, 3, none⟩ v3).setCell ⟨b, 4, none⟩ v4).setCell ⟨b, 5, none⟩ v5).heap[b2]? = w.heap[b2]? := by
  rw [setCell_other h, setCell_other h, setCell_other h, setCell_other h, setCell_other h, setCell_other h]
theorem barW_short : ∀ (k : Nat) (ws : List (List UInt8)), ws.length < k → barW k ws = none := by
  intro k
  induction k with
  | zero => intro ws h; omega
  | succ k ih =>
    intro ws h
    cases ws with
    | nil => rfl
    | cons x r =>
      simp only [barW]
      rw [ih r (by simpa using h)]
      cases numL x <;> rfl
theorem exit64 {R : Ending → World → Prop} {a : Act} {W : World} {b0 : Nat} {v0 v1 v2 v3 v4 v5 : Value} {q : Bool} (hb : W.heap[b0]? = some (.cells #[v0, v1, v2, v3, v4, v5] 24 (0, 0)))
    (h2 : a.tmps[2]? = some (.pointer (some ⟨b0, 0, none⟩))) (h3 : a.tmps[3]? = some (.bool q)) (hd : a.defers = []) (hR : R (.returned (.tuple #[.agg #[v0, v1, v2, v3, v4, v5], .bool q])) W) : bodyPost Tryd.prog Tryd.f64 R .ret a W := by
  have hcell := fun o => cell_blk hb o
  refine bodyPost_ret ?_ hd hR
  simp [results, go_sem, hcell, h2, h3]
def preN (ns : List Int) (p : List Int × List (Int × Int)) : List Int × List (Int × Int) := (ns ++ p.1, p.2)
theorem barW_at {k : Nat} {ws : List ByteArray} (hk : k < 5) (hw : k < ws.length) (ns : List Int) :
    (barW (5 - k) ((ws.map fun b => b.data.toList).drop k)).map (preN ns) = match numL ws[k].data.toList with | none => none | some v => (barW (5 - (k + 1)) ((ws.map fun b => b.data.toList).drop (k + 1))).map (preN (ns ++ [(v : Int)])) := by
  have h1 : (ws.map fun b => b.data.toList).drop k = ws[k].data.toList :: (ws.map fun b => b.data.toList).drop (k + 1) := by
    rw [List.drop_eq_getElem_cons (by simpa using hw)]
    simp
  rw [h1, show 5 - k = (5 - (k + 1)) + 1 by omega]
  simp only [barW]
  cases numL ws[k].data.toList with
  | none => rfl
  | some v =>
    simp only
    cases barW (5 - (k + 1)) ((ws.map fun b => b.data.toList).drop (k + 1)) with
    | none => rfl
    | some p => simp [preN]
theorem words_at {w : World} {ws : List ByteArray} {wr : World} {ns : List Int} {gv : Value} (h : LineSt w ws wr ns gv) {k : Nat} (hw : k < ws.length) : wr.cell? ⟨w.heap.size + 2, k, none⟩ = some (.string ws[k]) := by
  rw [cell_blk h.words]
  simp [hw]
theorem ptrs_at {w : World} {ws : List ByteArray} {wr : World} {ns : List Int} {gv : Value} (h : LineSt w ws wr ns gv) {k : Nat} (hk : k < 5) : wr.cell? ⟨w.heap.size + 3, k, none⟩ = some (.pointer (some ⟨w.heap.size + 1, k, none⟩)) := by
  rw [cell_blk h.ptr]
  obtain rfl | rfl | rfl | rfl | rfl : k = 0 ∨ k = 1 ∨ k = 2 ∨ k = 3 ∨ k = 4 := by omega
  all_goals rfl
theorem words_size {c : UInt8} {s : ByteArray} {ws : List ByteArray} (h : ws.map (fun b => b.data.toList) = spl c s.data.toList) {k : Nat} (hw : k < ws.length) : ws[k].size ≤ s.size := by
  have key : ∀ l : List UInt8, ∀ x ∈ spl c l, x.length ≤ l.length := by
    intro l
    induction l with
    | nil => intro x hx; simp [spl] at hx; rw [hx]; simp
    | cons a r ih =>
      intro x hx
      unfold spl at hx
      split at hx
      · rcases List.mem_cons.1 hx with rfl | hx
        · simp
        · have := ih x hx
          simp
          omega
      · cases hs : spl c r with
        | nil => rw [hs] at hx; simp at hx; rw [hx]; simp
        | cons y ys =>
          rw [hs] at hx ih
          rcases List.mem_cons.1 hx with rfl | hx
          · have := ih y (by simp)
            simp
            omega
          · have := ih x (List.mem_cons_of_mem _ hx)
            simp
            omega
  have hm : ws[k].data.toList ∈ spl c s.data.toList := by
    rw [← h]
    exact List.mem_map.2 ⟨ws[k], List.getElem_mem hw, rfl⟩
  have := key _ _ hm
  rw [Array.length_toList, Array.length_toList] at this
  exact this
theorem field_at {w : World} {ws : List ByteArray} {wr : World} {ns : List Int} {gv : Value} (h : LineSt w ws wr ns gv) {k : Nat} (hk : k < 5) : wr.cell? ⟨w.heap.size + 1, k, none⟩ = some (.int .i64 (ns.getD k 0)) ∧ wr.frozen? ⟨w.heap.size + 1, k, none⟩ = false := by
  refine ⟨?_, froz_blk h.bar k⟩
  rw [cell_blk h.bar]
  obtain rfl | rfl | rfl | rfl | rfl : k = 0 ∨ k = 1 ∨ k = 2 ∨ k = 3 ∨ k = 4 := by omega
  all_goals rfl
theorem cut_any (c : UInt8) (s : ByteArray) (hl : s.size ≤ 1000000) (B : Nat) (w : World) (hT : PT B w) :
    Calls Tryd.prog 63 #[.string s, .string ⟨#[c]⟩] w fun e w' => e = .returned (.tuple #[.string ⟨(Lib.cut s.data.toList [c]).1.toArray⟩, .string ⟨(Lib.cut s.data.toList [c]).2.1.toArray⟩, .bool (Lib.cut s.data.toList [c]).2.2]) ∧ Below w.heap.size w w' := by
  obtain ⟨m, hm⟩ := hT.len
  refine (Tryd.strings_Cut s ⟨#[c]⟩ m w (by omega) hm).mono ?_
  rintro e w' ⟨he, n, rfl⟩
  exact ⟨he, below_drewN (Below.refl _ _) n⟩
theorem cut_len (c : UInt8) (l : List UInt8) : (Lib.cut l [c]).1.length ≤ l.length ∧ (Lib.cut l [c]).2.1.length ≤ l.length := by
  unfold Lib.cut
  split
  · simp only [List.length_take, List.length_drop]
    omega
  · simp
theorem barW_gap {k : Nat} {ws : List ByteArray} (hw : k < ws.length) (ns : List Int) (gs : List (Int × Int)) :
    (mapO gapW ((ws.map fun b => b.data.toList).drop k)).map (fun g => (ns, gs ++ g)) = match gapW ws[k].data.toList with | none => none | some x => (mapO gapW ((ws.map fun b => b.data.toList).drop (k + 1))).map (fun g => (ns, (gs ++ [x]) ++ g)) := by
  have h1 : (ws.map fun b => b.data.toList).drop k = ws[k].data.toList :: (ws.map fun b => b.data.toList).drop (k + 1) := by
    rw [List.drop_eq_getElem_cons (by simpa using hw)]
    simp
  rw [h1]
  simp only [mapO]
  cases gapW ws[k].data.toList with
  | none => rfl
  | some v =>
    simp only
    cases mapO gapW ((ws.map fun b => b.data.toList).drop (k + 1)) with
    | none => rfl
    | some p => simp
theorem gapW_eq (w : List UInt8) : gapW w = if (Lib.cut w [45]).2.2 && (numL (Lib.cut w [45]).1).isSome && (numL (Lib.cut w [45]).2.1).isSome then some ((((numL (Lib.cut w [45]).1).getD 0 : Nat) : Int), (((numL (Lib.cut w [45]).2.1).getD 0 : Nat) : Int)) else none := by
  unfold gapW
  cases (Lib.cut w [45]).2.2 with
  | false => simp
  | true =>
    cases numL (Lib.cut w [45]).1 with
    | none => simp
    | some x =>
      cases numL (Lib.cut w [45]).2.1 with
      | none => simp
      | some y => simp
theorem LineSt.onB {w : World} {ws : List ByteArray} {wr : World} {ns : List Int} {gv : Value} {w2 : World} (h : LineSt w ws wr ns gv) (hb : Below (w.heap.size + 4) wr w2) : LineSt w ws w2 ns gv := by
  have hs := h.size
  have hs2 := hb.size
  exact ⟨below_blk hb h.res (by omega), below_blk hb h.bar (by omega), below_blk hb h.words (by omega), below_blk hb h.ptr (by omega), h.below.trans (hb.mono (by omega)), by omega⟩
theorem field_at5 {w : World} {ws : List ByteArray} {wr : World} {ns : List Int} {gv : Value} (h : LineSt w ws wr ns gv) : wr.cell? ⟨w.heap.size + 1, 5, none⟩ = some gv ∧ wr.frozen? ⟨w.heap.size + 1, 5, none⟩ = false := ⟨cell_blk h.bar 5, froz_blk h.bar 5⟩
/-- What a reader of a line returns. -/
def BarRes (l : List UInt8) (w : World) (e : Ending) (w' : World) : Prop :=
  ∃ (n0 n1 n2 n3 n4 : Int) (gv : Value), e = .returned (.tuple #[barV n0 n1 n2 n3 n4 gv, .bool (barL l).isSome]) ∧ (∃ a n c, gv = .slice a n c) ∧ (∀ ns gs, barL l = some (ns, gs) → ns = [n0, n1, n2, n3, n4] ∧ w'.ownsRow w.heap.size 31 2 gv gs.length (pcells gs)) ∧ Below w.heap.size w w'
theorem barRes_none {l : List UInt8} {w w' : World} {n0 n1 n2 n3 n4 : Int} {gv : Value} (h : barL l = none) (hg : ∃ a n c, gv = .slice a n c) (hb : Below w.heap.size w w') : BarRes l w (.returned (.tuple #[barV n0 n1 n2 n3 n4 gv, .bool false])) w' :=
  ⟨n0, n1, n2, n3, n4, gv, by rw [h]; rfl, hg, (fun ns gs hh => by rw [h] at hh; cases hh), hb⟩
theorem barRes_some {l : List UInt8} {w w' : World} {ns : List Int} {gs : List (Int × Int)} {gv : Value} (hn : ns.length = 5) (h : barL l = some (ns, gs)) (hg : w'.ownsRow (w.heap.size + 4) 31 2 gv gs.length (pcells gs)) (hb : Below w.heap.size w w') :
    BarRes l w (.returned (.tuple #[barV (ns.getD 0 0) (ns.getD 1 0) (ns.getD 2 0) (ns.getD 3 0) (ns.getD 4 0) gv, .bool true])) w' := by
  obtain ⟨a, c, hv⟩ := owns_form hg
  refine ⟨_, _, _, _, _, gv, by rw [h]; rfl, ⟨a, _, c, hv⟩, (fun ns2 gs2 hh => ?_), hb⟩
  rw [h] at hh
  injection hh with hh
  injection hh with h1 h2
  subst h1; subst h2
  refine ⟨?_, owns_mono hg (by omega)⟩
  match ns, hn with
  | [_, _, _, _, _], _ => rfl
set_option maxRecDepth 100000 in
set_option maxHeartbeats 4000000 in
theorem parseBar_any (s : ByteArray) (hl : s.size ≤ 1000000) (B : Nat) (w : World) (hT : PT B w) (hB : B ≤ w.heap.size) :
    Calls Tryd.prog 64 #[.string s] w (BarRes s.data.toList w) := by
  have HT := hide hT
  clear hT
  obtain ⟨g0, g1, gs, gb⟩ := heap2 w zeroBar zeroBar
  go_enter Tryd.func64, Tryd.ntmps64
  go_wp2_with fail
  refine (split_any 32 s hl B _ (HT.out.on (gb.mono hB))).mono ?_
  rintro e w1 ⟨ws, hws, rfl, hm1, hsz1, hb1⟩
  rw [gs] at hm1 hsz1 hb1 ⊢
  obtain ⟨p1, p2, p3⟩ := heap1 w1 (.cells (ptrs (w.heap.size + 1)) 99)
  have hst : LineSt w ws (w1.alloc (.cells (ptrs (w.heap.size + 1)) 99)) [] (.slice none 0 0) := by
    refine ⟨below_blk p3 (below_blk hb1 g0 (by omega)) (by omega), below_blk p3 (below_blk hb1 g1 (by omega)) (by omega), below_blk p3 hm1 (by omega), ?_, (gb.trans (hb1.mono (by omega))).trans (p3.mono (by omega)), by omega⟩
    rw [show w.heap.size + 3 = w1.heap.size by omega]
    exact p1
  have hw1 : w1.heap.size = w.heap.size + 3 := by omega
  have GB := hide (gb.trans (hb1.mono (by omega)))
  have G0 := hide (below_blk hb1 g0 (by omega)); have G1 := hide (below_blk hb1 g1 (by omega))
  have HST := hide hst; have HWS := hide hws; have HW1 := hide hw1
  have l1 : w.heap.size < w1.heap.size := by omega
  have l2 : w.heap.size + 1 < w1.heap.size := by omega
  clear g0 g1 gb hm1 hws hb1 hst p1 p2 p3 hw1 gs hsz1
  by_cases h5 : ws.length < 5
  · have h5i : (ws.length : Int) < 5 := by omega
    have c0 := cell_blk G1.out 0
    have c1 := cell_blk G1.out 1
    have c2 := cell_blk G1.out 2
    have c3 := cell_blk G1.out 3
    have c4 := cell_blk G1.out 4
    have c5 := cell_blk G1.out 5
    have r0 := cell_blk G0.out 0
    have r1 := cell_blk G0.out 1
    have r2 := cell_blk G0.out 2
    have r3 := cell_blk G0.out 3
    have r4 := cell_blk G0.out 4
    have r5 := cell_blk G0.out 5
    have f0 := froz_blk G0.out 0
    have f1 := froz_blk G0.out 1
    have f2 := froz_blk G0.out 2
    have f3 := froz_blk G0.out 3
    have f4 := froz_blk G0.out 4
    have f5 := froz_blk G0.out 5
    simp at c0 c1 c2 c3 c4 c5 r0 r1 r2 r3 r4 r5
    have HN := hide (show barL s.data.toList = none by
      unfold barL
      rw [← HWS.out]
      exact barW_short 5 _ (by rw [List.length_map]; exact h5))
    go_wp2_with fail
    obtain ⟨s1, s2⟩ := set6 G0.out (.int .i64 0) (.int .i64 0) (.int .i64 0) (.int .i64 0) (.int .i64 0) (.slice none 0 0)
    refine exit64 ((Below.heap_alloc _ _ _ (lt_blk s1)).trans s1) rfl rfl rfl ?_
    exact barRes_none HN.out ⟨_, _, _, rfl⟩ ((GB.out.trans s2).alloc (by rw [setCell_size, setCell_size, setCell_size, setCell_size, setCell_size, setCell_size]; omega) _)
  · have h5i : ¬ (ws.length : Int) < 5 := by omega
    have hn0 : barL s.data.toList = (barW (5 - 0) ((ws.map fun b => b.data.toList).drop 0)).map (preN []) := by
      unfold barL
      rw [← HWS.out, Nat.sub_zero, List.drop_zero]
      cases barW 5 (ws.map fun b => b.data.toList) <;> rfl
    have HN0 := hide hn0
    clear hn0 G0 G1 GB
    go_wp2_with fail
    go_loopw [7, 35] (fun ok i wr => ∃ (k : Nat) (q : Bool) (ns : List Int), k ≤ 5 ∧ i = .int .i64 k ∧ ok = .bool q ∧ Hid (ns.length = k ∧ barL s.data.toList = (barW (5 - k) ((ws.map fun b => b.data.toList).drop k)).map (preN ns) ∧ LineSt w ws wr ns (.slice none 0 0))) (fun _ i _ => 5 - (intOf i).toNat)
    case atStart =>
      exact ⟨0, false, [], by omega, rfl, rfl, rfl, HN0.out, HST.out⟩
    case round =>
      obtain ⟨k, q, ns, hk, rfl, rfl, hin⟩ := hrel
      have hsz := hin.out.2.2.size
      rw [HW1.out]
      by_cases hlt : k < 5
      · have e3 : (k : Int) < 5 := by omega
        have hkw : k < ws.length := by omega
        have x1 := words_at hin.out.2.2 hkw
        have x2 := ptrs_at hin.out.2.2 hlt
        have hnum := number_any ws[k] (Nat.le_trans (words_size HWS.out hkw) hl) B wr (HT.out.on (hin.out.2.2.below.mono hB)) (Nat.le_trans hB hin.out.2.2.below.size)
        have hat := barW_at hlt hkw ns
        rw [← hin.out.2.1] at hat
        obtain ⟨wk, hwk⟩ : ∃ wk, wk = ws[k] := ⟨_, rfl⟩
        rw [← hwk] at x1 hnum hat
        have HNUM := hide hnum; have HAT := hide hat
        have ew : (k : Int) < ws.length := by omega
        clear hnum hat hwk
        go_wp2_with fail
        refine HNUM.out.mono ?_
        rintro e w2 ⟨kv, rfl, hkv, hb2⟩
        have hst2 := hin.out.2.2.on hb2
        have HS3 := hide (hst2.num hlt hin.out.1 kv)
        obtain ⟨⟨r0, r1, r2, r3, r4, r5⟩, ⟨f0, f1, f2, f3, f4, f5⟩, ⟨c0, c1, c2, c3, c4, c5⟩, d0, d1, d2, d3, d4, d5⟩ := hst2.cells
        obtain ⟨ck, fk⟩ := field_at hst2 hlt
        have hs2 := hst2.size
        have HKV := hide hkv
        have HL := hide hin.out.1
        clear hst2 hkv hb2 x1 x2
        cases hn : numL wk.data.toList with
        | none =>
          have HN := hide (HAT.out.trans (by rw [hn]))
          have HG3 := hide (HS3.out.res)
          simp only [Option.isSome]
          clear hn HKV HAT hin
          obtain rfl | rfl | rfl | rfl | rfl : k = 0 ∨ k = 1 ∨ k = 2 ∨ k = 3 ∨ k = 4 := by omega
          all_goals (go_wp2_with fail; exact exit64 (set6 HG3.out _ _ _ _ _ _).1 rfl rfl rfl (barRes_none HN.out ⟨_, _, _, rfl⟩ (HS3.out.below.trans (set6 HG3.out _ _ _ _ _ _).2)))
        | some v =>
          have hkv2 := HKV.out v hn
          have HN := hide (HAT.out.trans (by rw [hn]))
          have HKE := hide hkv2
          simp only [Option.isSome]
          clear hn HKV HAT hin hkv2 r0 r1 r2 r3 r4 r5 f0 f1 f2 f3 f4 f5 c0 c1 c2 c3 c4 c5 d0 d1 d2 d3 d4 d5
          go_wp2_with fail
          go_roundw
          case rel =>
            exact ⟨k + 1, true, ns ++ [kv], by omega, by go_num, rfl, by simp [HL.out], by rw [HN.out, HKE.out], HS3.out⟩
          case measure => simp [intOf]; omega
      · have hk5 : k = 5 := by omega
        have e35 : ¬ (k : Int) < 5 := by omega
        obtain ⟨wo, hwo⟩ : ∃ wo, wo = wr := ⟨_, rfl⟩
        subst hwo
        have HNL := hide (hin.out.1.trans hk5)
        have hb0 : barL s.data.toList = (mapO gapW ((ws.map fun b => b.data.toList).drop 5)).map (fun g => (ns, [] ++ g)) := by
          rw [hin.out.2.1, hk5]
          simp only [Nat.sub_self, barW, Option.map_map]
          congr 1
          funext g
          simp [preN]
        have HB0 := hide hb0
        clear hb0 hk5
        by_cases h6 : 5 < ws.length
        · have q6 : (ws.length = 5) = False := eq_false (by omega)
          have q7 : (ws.length - 5 = 0) = False := eq_false (by omega)
          obtain ⟨i0, hi0, hz0, hz1, hz2⟩ := info_parts info31
          go_wp2_with fail
          go_loopw [59] (fun i wr => ∃ (j : Nat) (gv : Value) (gs : List (Int × Int)), j + 5 ≤ ws.length ∧ i = .int .i64 j ∧ gs.length ≤ j ∧ Hid (wr.ownsRow (w.heap.size + 4) 31 2 gv gs.length (pcells gs) ∧ barL s.data.toList = (mapO gapW ((ws.map fun b => b.data.toList).drop (5 + j))).map (fun g => (ns, gs ++ g)) ∧ LineSt w ws wr ns gv)) (fun i _ => ws.length - (intOf i).toNat)
          case atStart => exact ⟨0, .slice none 0 0, [], by omega, rfl, by simp, World.ownsRow_nil _ _ _ _, HB0.out, hin.out.2.2⟩
          case round =>
            obtain ⟨j, gv, gs, hj, rfl, hgl, hin2⟩ := hrel
            have hsz2 := hin2.out.2.2.size
            by_cases hlt : j + 5 < ws.length
            · have hjw : 5 + j < ws.length := by omega
              have e3 : (j : Int) < ((ws.length - 5 : Nat) : Int) := by omega
              have x1 := words_at hin2.out.2.2 hjw
              have hws := words_size HWS.out hjw
              have hgap := barW_gap hjw ns gs
              rw [← hin2.out.2.1] at hgap
              obtain ⟨wk, hwk⟩ : ∃ wk, wk = ws[5 + j] := ⟨_, rfl⟩
              rw [← hwk] at x1 hws hgap
              have HGAP := hide hgap
              have hPT := HT.out.on (hin2.out.2.2.below.mono hB)
              have HCUT := hide (cut_any 45 wk (by omega) B wr hPT)
              have HEQ := hide (gapW_eq wk.data.toList)
              have hcl := cut_len 45 wk.data.toList
              clear hgap hwk hPT
              go_wp2_with fail
              refine HCUT.out.mono ?_
              rintro e w2 ⟨rfl, hb2⟩
              obtain ⟨sf, hsf⟩ : ∃ sf : ByteArray, sf = ⟨(Lib.cut wk.data.toList [45]).1.toArray⟩ := ⟨_, rfl⟩
              obtain ⟨st, hst⟩ : ∃ st : ByteArray, st = ⟨(Lib.cut wk.data.toList [45]).2.1.toArray⟩ := ⟨_, rfl⟩
              obtain ⟨bi, hbi⟩ : ∃ bi, bi = (Lib.cut wk.data.toList [45]).2.2 := ⟨_, rfl⟩
              have hwl : wk.data.toList.length = wk.size := by rw [Array.length_toList]; rfl
              have hfs : sf.size ≤ 1000000 := by
                rw [hsf]
                show (Lib.cut wk.data.toList [45]).1.toArray.size ≤ _
                rw [List.size_toArray]
                omega
              have hts : st.size ≤ 1000000 := by
                rw [hst]
                show (Lib.cut wk.data.toList [45]).2.1.toArray.size ≤ _
                rw [List.size_toArray]
                omega
              have hsf2 : (Lib.cut wk.data.toList [45]).1 = sf.data.toList := by rw [hsf]
              have hst2 : (Lib.cut wk.data.toList [45]).2.1 = st.data.toList := by rw [hst]
              have heq := HEQ.out
              rw [hsf2, hst2, ← hbi] at heq
              rw [← hsf, ← hst, ← hbi]
              have HEQ2 := hide heq
              have hl2 := hin2.out.2.2.on hb2
              have ho2 := owns_stay hin2.out.1 (fun r hr => hb2.block r (owns_lt hin2.out.1 r hr))
              have hnum := number_any sf hfs B w2 (HT.out.on (hl2.below.mono hB)) (Nat.le_trans hB hl2.below.size)
              have HNUM := hide hnum
              have hs2 := hl2.size
              have HL2 := hide hl2; have HO2 := hide ho2; have HG2 := hide hin2.out.2.1
              clear hsf hst hbi hwl hsf2 hst2 heq hl2 ho2 hnum hb2 hcl HCUT HEQ hin2 x1 hws
              go_wp2_with fail
              refine HNUM.out.mono ?_
              rintro e w3 ⟨k1, rfl, hk1, hb3⟩
              have hl3 := HL2.out.on hb3
              have ho3 := owns_stay HO2.out (fun r hr => hb3.block r (owns_lt HO2.out r hr))
              have hnum2 := number_any st hts B w3 (HT.out.on (hl3.below.mono hB)) (Nat.le_trans hB hl3.below.size)
              have HNUM2 := hide hnum2
              have hs3 := hl3.size
              have HL3 := hide hl3; have HO3 := hide ho3; have HK1 := hide hk1
              clear hl3 ho3 hnum2 hb3 HL2 HO2 HNUM hk1
              go_wp2_with fail
              refine HNUM2.out.mono ?_
              rintro e w4 ⟨k2, rfl, hk2, hb4⟩
              have hl4 := HL3.out.on hb4
              have ho4 := owns_stay HO3.out (fun r hr => hb4.block r (owns_lt HO3.out r hr))
              obtain ⟨⟨r0, r1, r2, r3, r4, r5⟩, ⟨f0, f1, f2, f3, f4, f5⟩, ⟨c0, c1, c2, c3, c4, c5⟩, d0, d1, d2, d3, d4, d5⟩ := hl4.cells
              have hs4 := hl4.size
              have HL4 := hide hl4; have HO4 := hide ho4; have HK2 := hide hk2
              clear hl4 ho4 hb4 HL3 HO3 HNUM2 hk2
              obtain ⟨bp, hbp⟩ : ∃ bp, bp = (numL sf.data.toList).isSome := ⟨_, rfl⟩
              obtain ⟨bq, hbq⟩ : ∃ bq, bq = (numL st.data.toList).isSome := ⟨_, rfl⟩
              rw [← hbp, ← hbq]
              have heq := HEQ2.out
              rw [← hbp, ← hbq] at heq
              have HEQ3 := hide heq; have HBP := hide hbp; have HBQ := hide hbq
              clear heq hbp hbq HEQ2
              by_cases hall : (bi && bp && bq) = true
              · obtain ⟨⟨rfl, rfl⟩, rfl⟩ : (bi = true ∧ bp = true) ∧ bq = true := by simpa using hall
                obtain ⟨x, hx⟩ : ∃ x, numL sf.data.toList = some x := Option.isSome_iff_exists.1 HBP.out.symm
                obtain ⟨y, hy⟩ : ∃ y, numL st.data.toList = some y := Option.isSome_iff_exists.1 HBQ.out.symm
                have hgw : gapW wk.data.toList = some (k1, k2) := by
                  rw [HEQ3.out, hx, hy, HK1.out x hx, HK2.out y hy]
                  rfl
                have HN := hide (HGAP.out.trans (by rw [hgw]))
                have HNW := hide (show ∀ j u, ([.int .i64 k1, .int .i64 k2] : List Value)[j]? = some u → (w4.alloc (.cells #[.int .i64 k1, .int .i64 k2] 31)).cell? ((⟨w4.heap.size, 0, none⟩ : Addr).add j) = some u from World.news_of_block (cs := #[.int .i64 k1, .int .i64 k2]) (t := 31) (fr := (0, 0)) (heap_alloc_new w4 _))
                have HOW := hide (show (w4.alloc (.cells #[.int .i64 k1, .int .i64 k2] 31)).ownsRow (w.heap.size + 4) 31 2 gv gs.length (pcells gs) from HO4.out.alloc _)
                have hwsz : ws.length ≤ 1000001 := by
                  have h1 := Lib.splitB_all ⟨#[32]⟩ (Nat.le_refl 1) 0 _ s rfl
                  have h2 := Lib.countB_le ⟨#[32]⟩ (Nat.le_refl 1) s.size s (Nat.le_refl _)
                  have h3 := congrArg List.length (Lib.splitB_data ⟨#[32]⟩ 0 (Lib.countB s ⟨#[32]⟩) s)
                  have hc : Lib.countB s ⟨#[32]⟩ = s.data.toList.count 32 := Lib.count_one 32 s.data.toList
                  have h4 := splitK_spl 32 (Lib.countB s ⟨#[32]⟩) s.data.toList hc.symm
                  have h5 := congrArg List.length HWS.out
                  have e : (Lib.splitK [32] 0 (Lib.countB s ⟨#[32]⟩) s.data.toList).length = (spl 32 s.data.toList).length := by rw [h4]
                  rw [List.length_map] at h3 h5
                  have e2 : (({ data := #[32] } : ByteArray)).data.toList = [32] := rfl
                  rw [e2] at h3
                  omega
                obtain ⟨a5, c5v, hgv⟩ := owns_form HO4.out
                subst hgv
                clear hx hy hgw hall
                go_wp2_with (at_builtin; go_must (refine wpList_append_own _ rfl (.tmp 91) (.tmp 95) 22 rfl (w.heap.size + 4) 31 i0 _ 2 16 Tryd.underlying22 hi0 hz0 hz1 hz2 rfl (by decide) (.slice a5 gs.length c5v) _ _ rfl HOW.out ⟨w4.heap.size, 0, none⟩ 1 1 [.int .i64 k1, .int .i64 k2] rfl rfl HNW.out (by simp [Value.oneCell']) (by simp only [maxLen]; omega) (by omega) (by simp; omega) ?_); intro v1 w5 hown hg1 hiff; clear hiff; obtain ⟨a6, c6, hv6⟩ := owns_form hown; subst hv6; have HOW5 := hide hown; have hB5 := ((Below.refl (w.heap.size + 4) w4).alloc hs4 (.cells #[.int .i64 k1, .int .i64 k2] 31)).grown hg1 (by simp; omega) (owns_ge HO4.out (Nat.le_refl _)); have HL5 := hide (HL4.out.onB hB5); have q5 := (field_at5 HL5.out).1; have q6f := (field_at5 HL5.out).2; have q7s := HL5.out.size; clear hown hg1 hB5)
                go_roundw
                case rel =>
                  refine ⟨j + 1, _, gs ++ [(k1, k2)], by omega, by go_num, by simp; omega, ?_, ?_, HL5.out.gaps _⟩
                  · rw [pcells_append, List.length_append]
                    exact owns_stay (by simpa [pcells] using HOW5.out) (fun r hr => setCell_other (fun h => by have := (HOW5.out.lt r hr).1; omega))
                  · rw [HN.out]
                    rfl
                case measure => simp [intOf]; omega
              · have HN := hide (show barL s.data.toList = none by
                  rw [HGAP.out, HEQ3.out, if_neg hall])
                obtain ⟨a5, l5, e5, hgv⟩ : ∃ a l c, gv = .slice a l c := by
                  obtain ⟨a, c, h⟩ := owns_form HO4.out
                  exact ⟨a, _, c, h⟩
                subst hgv
                have HG4 := hide (HL4.out.res)
                cases bi <;> cases bp <;> cases bq <;> first
                  | exact absurd rfl hall
                  | (clear hall; go_wp2_with fail; exact exit64 (set6 HG4.out _ _ _ _ _ _).1 rfl rfl rfl (barRes_none HN.out ⟨_, _, _, rfl⟩ (HL4.out.below.trans (set6 HG4.out _ _ _ _ _ _).2)))
            · have e3 : ¬ (j : Int) < ((ws.length - 5 : Nat) : Int) := by omega
              have hd : (ws.map fun b => b.data.toList).drop (5 + j) = [] := List.drop_eq_nil_of_le (by rw [List.length_map]; omega)
              have HBF := hide (show barL s.data.toList = some (ns, gs) by
                rw [hin2.out.2.1, hd]
                simp [mapO])
              obtain ⟨a5, c5v, hgv⟩ := owns_form hin2.out.1
              subst hgv
              have HLF := hide hin2.out.2.2; have HOF := hide hin2.out.1
              clear hd hin2
              obtain ⟨⟨r0, r1, r2, r3, r4, r5⟩, ⟨f0, f1, f2, f3, f4, f5⟩, ⟨c0, c1, c2, c3, c4, c5⟩, d0, d1, d2, d3, d4, d5⟩ := HLF.out.cells
              have HG4 := hide (HLF.out.res)
              have hsF := HLF.out.size
              go_wp2_with fail
              exact exit64 (set6 HG4.out _ _ _ _ _ _).1 rfl rfl rfl (barRes_some HNL.out HBF.out (owns_stay HOF.out (fun r hr => set6_other (fun h => by have := (HOF.out.lt r hr).1; omega) _ _ _ _ _ _)) (HLF.out.below.trans (set6 HG4.out _ _ _ _ _ _).2))
        · have q6 : (ws.length = 5) = True := eq_true (by omega)
          have q7 : (ws.length - 5 = 0) = True := eq_true (by omega)
          go_wp2_with fail
          go_loopw [59] (fun i wr => i = .int .i64 0 ∧ wr = wo) (fun _ _ => 0)
          case atStart => exact ⟨rfl, rfl⟩
          case round =>
            obtain ⟨rfl, rfl⟩ := hrel
            have e3 : ¬ (0 : Int) < ((ws.length - 5 : Nat) : Int) := by omega
            have hd : (ws.map fun b => b.data.toList).drop 5 = [] := List.drop_eq_nil_of_le (by rw [List.length_map]; omega)
            have HBF := hide (show barL s.data.toList = some (ns, []) by
              rw [HB0.out, hd]
              simp [mapO])
            have HOF := hide (World.ownsRow_nil wr (w.heap.size + 4) 31 2)
            have HLF := hide hin.out.2.2
            clear hd hin
            obtain ⟨⟨r0, r1, r2, r3, r4, r5⟩, ⟨f0, f1, f2, f3, f4, f5⟩, ⟨c0, c1, c2, c3, c4, c5⟩, d0, d1, d2, d3, d4, d5⟩ := HLF.out.cells
            have HG4 := hide (HLF.out.res)
            have hsF := HLF.out.size
            go_wp2_with fail
            exact exit64 (set6 HG4.out _ _ _ _ _ _).1 rfl rfl rfl (barRes_some HNL.out HBF.out (owns_stay HOF.out (fun r hr => set6_other (fun h => by have := (HOF.out.lt r hr).1; omega) _ _ _ _ _ _)) (HLF.out.below.trans (set6 HG4.out _ _ _ _ _ _).2))
end Go.Proofs.YtfljmbdnnjjmoaaDoor
