/-
  Small words of this work: a slice value that reads as a list of cells; facts carried over calls.
-/
import Derived.WalkKit
import Derived.WalkSpells
import Derived.Deep.Draws
namespace Go.KP
open Go Go.RowKit

theorem hide {p : Prop} (h : p) : Hid p := h
theorem below_drewN {B : Nat} {a w : World} (h : Below B a w) (n : Nat) : Below B a (w.drewN n) := ⟨h.os, h.tape, h.output, h.size, h.block⟩
theorem bcell {W w1 : World} (hb : Below W.heap.size W w1) : (∀ b o, b < W.heap.size → w1.cell? ⟨b, o, none⟩ = W.cell? ⟨b, o, none⟩) ∧ (∀ b o, b < W.heap.size → w1.frozen? ⟨b, o, none⟩ = W.frozen? ⟨b, o, none⟩) :=
  ⟨fun b o h => hb.cell (p := ⟨b, o, none⟩) h, fun b o h => hb.frozen (p := ⟨b, o, none⟩) h⟩

/-- The slice value v has n elements of sz cells each, and reads as the cells xs; it lies below block B. -/
def SlAt (B : Nat) (w : World) (sz : Nat) (v : Value) (n : Nat) (xs : List Value) : Prop :=
  xs.length = n * sz ∧ ((∃ a c, v = .slice a 0 c ∧ n = 0) ∨ ∃ b o cap, v = .slice (some ⟨b, o, none⟩) n cap ∧ b < B ∧ ∀ i u, xs[i]? = some u → w.cell? ⟨b, o + i, none⟩ = some u)

theorem SlAt.below {B n0 : Nat} {w w2 : World} {sz : Nat} {v : Value} {n : Nat} {xs : List Value} (h : SlAt B w sz v n xs) (hb : Below n0 w w2) (hB : B ≤ n0) : SlAt B w2 sz v n xs := by
  refine ⟨h.1, h.2.imp id ?_⟩
  rintro ⟨b, o, cap, hv, hlt, hc⟩
  exact ⟨b, o, cap, hv, hlt, fun i u hu => (hb.cell (p := ⟨b, o + i, none⟩) (by simp; omega)).trans (hc i u hu)⟩
theorem SlAt.mono {B B2 : Nat} {w : World} {sz : Nat} {v : Value} {n : Nat} {xs : List Value} (h : SlAt B w sz v n xs) (hB : B ≤ B2) : SlAt B2 w sz v n xs := by
  refine ⟨h.1, h.2.imp id ?_⟩
  rintro ⟨b, o, cap, hv, hlt, hc⟩
  exact ⟨b, o, cap, hv, by omega, hc⟩
theorem SlAt.of_owns {w : World} {base : Nat} {e : TypeId} {sz : Nat} {v : Value} {n : Nat} {xs : List Value} (h : w.ownsRow base e sz v n xs) : SlAt w.heap.size w sz v n xs := by
  refine ⟨h.1, h.2.imp (fun ⟨h1, h2⟩ => ⟨none, 0, h1, h2⟩) ?_⟩
  rintro ⟨g, cap, cur, hv, hg, hh, _⟩
  refine ⟨g, 0, cap, hv, (Array.getElem?_eq_some_iff.1 hh).1, fun i u hu => ?_⟩
  have := h.cells (g := g) (by rw [hv]; rfl) i u hu
  rwa [Addr.add_lit] at this
theorem SlAt.moved {B : Nat} {w w2 : World} {sz : Nat} {v : Value} {n : Nat} {xs : List Value} (h : SlAt B w sz v n xs) (hb : ∀ i, i < B → i < w2.heap.size ∧ w2.heap[i]? = w.heap[i]?) : SlAt w2.heap.size w2 sz v n xs := by
  refine ⟨h.1, h.2.imp id ?_⟩
  rintro ⟨b, o, cap, hv, hlt, hc⟩
  exact ⟨b, o, cap, hv, (hb b hlt).1, fun i u hu => (World.cell?_of_block (hb b hlt).2).trans (hc i u hu)⟩
/-- It returns v; nothing that lay has turned. -/
def Ret (w : World) (v : Value) (e : Ending) (w2 : World) : Prop := e = .returned v ∧ Below w.heap.size w w2
/-- It returns something of which F speaks; nothing that lay has turned. -/
def RetEx (w : World) (F : Value → World → Prop) (e : Ending) (w2 : World) : Prop := ∃ v, e = .returned v ∧ Below w.heap.size w w2 ∧ F v w2
theorem below_two {w w1 : World} {o : Obj} (h : Below (w.alloc o).heap.size (w.alloc o) w1) (o2 : Obj) : Below w.heap.size w (w1.alloc o2) :=
  (((Below.refl _ w).alloc (Nat.le_refl _) o).trans (h.mono (by simp))).alloc (by have := h.size; simp at this; omega) o2
theorem below_one {w w1 : World} {o : Obj} (h : Below (w.alloc o).heap.size (w.alloc o) w1) : Below w.heap.size w w1 :=
  ((Below.refl _ w).alloc (Nat.le_refl _) o).trans (h.mono (by simp))
theorem owns_stay {w w2 : World} {base : Nat} {e : TypeId} {sz : Nat} {v : Value} {n : Nat} {xs : List Value} (h : w.ownsRow base e sz v n xs) (hb : ∀ r, v.ownBlock = some r → w2.heap[r]? = w.heap[r]?) : w2.ownsRow base e sz v n xs := by
  refine ⟨h.1, h.2.imp id ?_⟩
  rintro ⟨g, cap, cur, hv, hg, hh, r⟩
  exact ⟨g, cap, cur, hv, hg, (hb g (by rw [hv]; rfl)).trans hh, r⟩
/-- The one block that a slice value owns. -/
def OwnOf (v : Value) : Nat → Prop := fun b => v.ownBlock = some b
theorem owns_lt {w : World} {base : Nat} {e : TypeId} {size : Nat} {v : Value} {n : Nat} {xs : List Value} (h : w.ownsRow base e size v n xs) : ∀ b, OwnOf v b → b < w.heap.size := fun b hb => (h.lt b hb).2
theorem owns_mono {w : World} {base base2 : Nat} {e : TypeId} {sz : Nat} {v : Value} {n : Nat} {xs : List Value} (h : w.ownsRow base e sz v n xs) (hb : base2 ≤ base) : w.ownsRow base2 e sz v n xs := by
  refine ⟨h.1, h.2.imp id ?_⟩
  rintro ⟨g, cap, cur, hv, hg, r⟩
  exact ⟨g, cap, cur, hv, Nat.le_trans hb hg, r⟩
theorem owns_ne {w : World} {base : Nat} {e : TypeId} {size : Nat} {v : Value} {n : Nat} {xs : List Value} (h : w.ownsRow base e size v n xs) {b : Nat} (hb : b < base) : some b ≠ v.ownBlock := fun he => by have := (h.lt b he.symm).1; omega
theorem owns_ge {w : World} {base : Nat} {e : TypeId} {size : Nat} {v : Value} {n : Nat} {xs : List Value} (h : w.ownsRow base e size v n xs) {B : Nat} (hB : B ≤ base) : ∀ k, v.ownBlock = some k → B ≤ k := fun k hk => Nat.le_trans hB (h.lt k hk).1
/-- Over a draw ahead. -/
theorem below_ahead {B : Nat} {a w : World} (h : Below B a.drew w) : Below B a w := ⟨h.os, h.tape, h.output, h.size, h.block⟩
theorem SlAt.nil (B : Nat) (w : World) (sz : Nat) : SlAt B w sz (.slice none 0 0) 0 [] := ⟨by simp, .inl ⟨none, 0, rfl, rfl⟩⟩
/-- Not nil, or nil. -/
theorem SlAt.cases {B : Nat} {w : World} {sz : Nat} {v : Value} {n : Nat} {xs : List Value} (h : SlAt B w sz v n xs) :
    (∃ a c, v = .slice a 0 c ∧ n = 0 ∧ xs = []) ∨ ∃ b o cap, v = .slice (some ⟨b, o, none⟩) n cap ∧ b < B ∧ ∀ i u, xs[i]? = some u → w.cell? ⟨b, o + i, none⟩ = some u := by
  rcases h.2 with ⟨a, c, h1, h2⟩ | h2
  · exact .inl ⟨a, c, h1, h2, List.eq_nil_of_length_eq_zero (by rw [h.1, h2]; simp)⟩
  · exact .inr h2

/-- Pairs of ints as cells. -/
def pcells (gs : List (Int × Int)) : List Value := gs.flatMap fun g => [.int .i64 g.1, .int .i64 g.2]
theorem pcells_length (gs : List (Int × Int)) : (pcells gs).length = gs.length * 2 := by
  induction gs with
  | nil => rfl
  | cons g r ih => simp only [pcells, List.flatMap_cons, List.length_append, List.length_cons, List.length_nil] at ih ⊢; omega
theorem pcells_append (a b : List (Int × Int)) : pcells (a ++ b) = pcells a ++ pcells b := by simp [pcells]
def gF (gs : List (Int × Int)) (i : Nat) : Int := (gs[i]?.getD (0, 0)).1
def gT (gs : List (Int × Int)) (i : Nat) : Int := (gs[i]?.getD (0, 0)).2
theorem pcells_at : ∀ (gs : List (Int × Int)) (i : Nat), i < gs.length → (pcells gs)[i * 2]? = some (.int .i64 (gF gs i)) ∧ (pcells gs)[i * 2 + 1]? = some (.int .i64 (gT gs i)) := by
  intro gs
  induction gs with
  | nil => intro i h; simp at h
  | cons g r ih =>
    intro i h
    cases i with
    | zero => simp [pcells, gF, gT]
    | succ i =>
      have := ih i (by simpa using h)
      have e : pcells (g :: r) = .int .i64 g.1 :: .int .i64 g.2 :: pcells r := rfl
      rw [e, show (i + 1) * 2 = i * 2 + 2 by omega]
      simpa [gF, gT] using this
theorem pcells_one (u : Value) (gs : List (Int × Int)) (h : u ∈ pcells gs) : u.oneCell' = true := by
  simp only [pcells, List.mem_flatMap] at h
  obtain ⟨g, _, hu⟩ := h
  simp at hu
  rcases hu with rfl | rfl <;> rfl
/-- A slice of pairs: its cells by number. -/
theorem SlAt.pairs {B : Nat} {w : World} {v : Value} {gs : List (Int × Int)} (h : SlAt B w 2 v gs.length (pcells gs)) :
    (∃ a c, v = .slice a 0 c ∧ gs = []) ∨ ∃ b o cap, v = .slice (some ⟨b, o, none⟩) gs.length cap ∧ b < B ∧
      ∀ i, i < gs.length → w.cell? ⟨b, o + i * 2, none⟩ = some (.int .i64 (gF gs i)) ∧ w.cell? ⟨b, o + i * 2 + 1, none⟩ = some (.int .i64 (gT gs i)) := by
  rcases h.2 with ⟨a, c, h1, h2⟩ | ⟨b, o, cap, hv, hb, hc⟩
  · exact .inl ⟨a, c, h1, List.eq_nil_of_length_eq_zero h2⟩
  · refine .inr ⟨b, o, cap, hv, hb, fun i hi => ?_⟩
    obtain ⟨h1, h2⟩ := pcells_at gs i hi
    exact ⟨hc _ _ h1, hc _ _ h2⟩

/-- New blocks, one, two or three: where they lie. -/
theorem heap1 (w : World) (o1 : Obj) : (w.alloc o1).heap[w.heap.size]? = some o1 ∧ (w.alloc o1).heap.size = w.heap.size + 1 ∧ Below w.heap.size w (w.alloc o1) :=
  ⟨heap_alloc_new w o1, by simp, (Below.refl _ _).alloc (Nat.le_refl _) _⟩
theorem heap2 (w : World) (o1 o2 : Obj) : ((w.alloc o1).alloc o2).heap[w.heap.size]? = some o1 ∧ ((w.alloc o1).alloc o2).heap[w.heap.size + 1]? = some o2 ∧
    ((w.alloc o1).alloc o2).heap.size = w.heap.size + 2 ∧ Below w.heap.size w ((w.alloc o1).alloc o2) := by
  obtain ⟨a1, a2, a3⟩ := heap1 w o1
  obtain ⟨b1, b2, b3⟩ := heap1 (w.alloc o1) o2
  rw [a2] at b1
  exact ⟨(Below.heap_alloc _ _ _ (by omega)).trans a1, b1, by omega, a3.trans (b3.mono (by omega))⟩
theorem heap3 (w : World) (o1 o2 o3 : Obj) : (((w.alloc o1).alloc o2).alloc o3).heap[w.heap.size]? = some o1 ∧ (((w.alloc o1).alloc o2).alloc o3).heap[w.heap.size + 1]? = some o2 ∧
    (((w.alloc o1).alloc o2).alloc o3).heap[w.heap.size + 2]? = some o3 ∧ (((w.alloc o1).alloc o2).alloc o3).heap.size = w.heap.size + 3 ∧ Below w.heap.size w (((w.alloc o1).alloc o2).alloc o3) := by
  obtain ⟨a1, a2, a3, a4⟩ := heap2 w o1 o2
  obtain ⟨b1, b2, b3⟩ := heap1 ((w.alloc o1).alloc o2) o3
  rw [a3] at b1
  exact ⟨(Below.heap_alloc _ _ _ (by omega)).trans a1, (Below.heap_alloc _ _ _ (by omega)).trans a2, b1, by omega, a4.trans (b3.mono (by omega))⟩
/-- The cells of a block that is known whole. -/
theorem cell_blk {w : World} {b : Nat} {cs : Array Value} {t : TypeId} (h : w.heap[b]? = some (.cells cs t (0, 0))) (o : Nat) : w.cell? ⟨b, o, none⟩ = cs[o]? := by simp [World.cell?, h]
theorem froz_blk {w : World} {b : Nat} {cs : Array Value} {t : TypeId} (h : w.heap[b]? = some (.cells cs t (0, 0))) (o : Nat) : w.frozen? ⟨b, o, none⟩ = false := by simp [World.frozen?, h]
theorem lt_blk {w : World} {b : Nat} {o : Obj} (h : w.heap[b]? = some o) : b < w.heap.size := (Array.getElem?_eq_some_iff.1 h).1
theorem below_blk {B : Nat} {w w2 : World} (hb : Below B w w2) {b : Nat} {o : Obj} (h : w.heap[b]? = some o) (hl : b < B) : w2.heap[b]? = some o := (hb.block b hl).trans h
theorem below_left {n B : Nat} {w w1 w2 : World} (h : Below n w w1) (h2 : Below B w1 w2) (hn : n ≤ B) : Below n w w2 := h.trans (h2.mono hn)
end Go.KP
