/-
  slices.Clone and slices.Delete at ints: contracts in this work's words.
-/
import Derived.Test.YtfljmbdnnjjmoaaDoorS13
import Derived.Test.YtfljmbdnnjjmoaaDoorShelfB
import Derived.Lib.EndianMore
namespace Go.Proofs.YtfljmbdnnjjmoaaDoor
open Go.RowKit Go.KP Go.Shelf

/-- A new row of ints, writable: block, capacity. -/
structure NewInts (B : Nat) (w : World) (g cap n : Nat) (ls : List Int) : Prop where
  lo : B ≤ g
  hi : g < w.heap.size
  capn : n ≤ cap
  capm : cap ≤ maxLen
  len : ls.length = n
  cell : ∀ j, j < n → w.cell? ⟨g, 0 + j, none⟩ = some (.int .i64 (ls[j]?.getD 0))
  froz : ∀ j, j < n → w.frozen? ⟨g, 0 + j, none⟩ = false
theorem NewInts.of_owns {B : Nat} {w : World} {v : Value} {n : Nat} {ls : List Int} (h : w.ownsRow B 3 1 v n (ls.map (Value.int .i64))) (hn : 0 < n) : ∃ g cap, v = .slice (some ⟨g, 0, none⟩) n cap ∧ NewInts B w g cap n ls := by
  have hl : ls.length = n := by simpa using h.1
  rcases h.2 with ⟨_, h0⟩ | ⟨g, cap, cur, hv, hg, hh, h1, h2, h3, h4⟩
  · omega
  · refine ⟨g, cap, hv, hg, lt_blk hh, by simpa using h1, by simpa using h2, hl, fun j hj => ?_, fun j hj => ?_⟩
    · have := h.cells (g := g) (by rw [hv]; rfl) j (.int .i64 (ls[j]?.getD 0)) (by simp [hl, hj])
      rwa [Addr.add_lit] at this
    · simp [World.frozen?, hh]
theorem cloneInts_any (A : Option Addr) (n c : Nat) (ls : List Int) (B : Nat) (w : World) (hn : ls.length = n) (h0 : 0 < n) (hmax : n ≤ 1000000) (hc : IntsIn B w A n ls) :
    Calls Tryd.prog 20 #[.slice A n c] w fun e w' => ∃ g cap, e = .returned (.slice (some ⟨g, 0, none⟩) n cap) ∧ NewInts w.heap.size w' g cap n ls ∧ Below w.heap.size w w' := by
  obtain ⟨b, o, hA, _, _⟩ := hc 0 h0
  subst hA
  have := Tryd.slices_Clone_int b o n c ls w (by omega) (by omega) (fun j hj => by
    obtain ⟨b2, o2, e, _, h⟩ := hc j (by omega)
    cases e
    rw [h]
    simp [List.getD])
  refine this.mono ?_
  rintro e w' ⟨v, rfl, hown, _, hb⟩
  rw [List.take_of_length_le (by omega)] at hown
  obtain ⟨g, cap, rfl, hN⟩ := NewInts.of_owns hown h0
  exact ⟨g, cap, rfl, hN, hb⟩
theorem deleteInts_any (g cap n i : Nat) (ls : List Int) (B : Nat) (w : World) (h : NewInts B w g cap n ls) (hi : i < n) (i2 : Int) (hi2 : i2 = (i : Int) + 1) :
    Calls Tryd.prog 22 #[.slice (some ⟨g, 0, none⟩) n cap, .int .i64 i, .int .i64 i2] w fun e w' => e = .returned (.slice (some ⟨g, 0, none⟩) (n - 1) cap) ∧ IntsIn (g + 1) w' (some ⟨g, 0, none⟩) (n - 1) (ls.eraseIdx i) ∧ Below B w w' := by
  have hl := h.len
  have hcap := h.capm
  unfold maxLen at hcap
  have hd := Tryd.slices_Delete_int_cells g 0 n cap i (i + 1) ls w (by omega) h.capn (by omega) (by omega) (by omega) (fun j hj => by
    rw [h.cell j (by omega)]
    simp [List.getD]) h.froz
  rw [hi2]
  rw [Int.natCast_add] at hd
  refine hd.mono ?_
  rintro e w' ⟨rfl, q, rfl⟩
  have e1 : n - (i + 1 - i) = n - 1 := by omega
  rw [e1, List.take_of_length_le (by omega : ls.length ≤ n)]
  refine ⟨rfl, fun k hk => ⟨g, 0, rfl, by omega, ?_⟩, (below_drewN (Below.refl _ _) q).trans (Go.Lib.below_setCells_w h.lo _ _ _)⟩
  have hk2 : k < (List.map (Value.int .i64) (ls.take i ++ ls.drop (i + 1) ++ List.replicate (i + 1 - i) 0)).length := by simp; omega
  have hin := World.cell?_setCells_in g (List.map (Value.int .i64) (ls.take i ++ ls.drop (i + 1) ++ List.replicate (i + 1 - i) 0)) 0 (w.drewN q) (fun j hj => by
    have : (w.drewN q).cell? ⟨g, 0 + j, none⟩ = w.cell? ⟨g, 0 + j, none⟩ := rfl
    rw [this, h.cell j (by simp at hj; omega)]
    rfl) k hk2
  rw [hin]
  congr 1
  rw [List.getElem_map, List.getElem_append_left (by simp; omega), List.eraseIdx_eq_take_drop_succ]
  congr 1
  rw [List.getElem?_eq_getElem]
  rfl
end Go.Proofs.YtfljmbdnnjjmoaaDoor
