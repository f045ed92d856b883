/-
  Integers: Divide at good texts.
-/
import Derived.Test.YthkioajalhglfaaGreatDoorQe
import Derived.Test.YthkioajalhglfaaGreatDoorPx
namespace Go.Proofs.YthkioajalhglfaaGreatDoor
open Go.RowKit Go.KP Go.KI Go.Shelf
attribute [local go_sem] Oper.semAt_some

theorem itoa_nz {z : Int} (h : z ≠ 0) : Lib.itoa z ≠ [48] := fun e => h (itoa_inj (e.trans itoa_zero.symm))
abbrev tripT (q r : ByteArray) : Value := .tuple #[.string q, .string r, .int .i64 0]
theorem Divide_to {s t q r : ByteArray} {x y : Int} (h1 : s.data.toList = Lib.itoa x) (h2 : t.data.toList = Lib.itoa y) (h3 : q.data.toList = Lib.itoa (x.fdiv y)) (h4 : r.data.toList = Lib.itoa (x.fmod y)) (f1 : fits x) (f2 : fits y) (hy : y ≠ 0) (B : Nat) (w : World) (hB : B ≤ w.heap.size) (hT : P10 B w) :
    Calls Tryz.prog 17 #[.string s, .string t] w (Ret w (tripT q r)) := by
  have c1 : chkI s.data.toList = 0 := by rw [h1]; exact chk_fits f1
  have c2 : chkI t.data.toList = 0 := by rw [h2]; exact chk_fits f2
  have h0 : t.data.toList ≠ [48] := by rw [h2]; exact itoa_nz hy
  have e : Calls Tryz.prog 17 #[.string s, .string t] w (Ret w (tripV (Lib.itoa ((valI s.data.toList).fdiv (valI t.data.toList))) (Lib.itoa ((valI s.data.toList).fmod (valI t.data.toList))) 0)) := by
    by_cases hl : s.size ≤ 18 ∧ t.size ≤ 18
    · exact Divide_small s t B w c1 c2 hl.1 hl.2 h0 hB hT
    · exact Divide_long s t B w c1 c2 hl h0 hB hT
  rw [h1, h2, val_itoa, val_itoa, tripV, strB_eq h3, strB_eq h4] at e
  exact e
set_option maxRecDepth 100000 in
set_option maxHeartbeats 2000000 in
theorem Divide_zero {s t : ByteArray} (c1 : chkI s.data.toList = 0) (h2 : t.data.toList = [48]) (w : World) :
    Calls Tryz.prog 17 #[.string s, .string t] w (Ret w (.tuple #[.string ⟨#[]⟩, .string ⟨#[]⟩, .int .i64 12])) := by
  have l1 := (chk_digs c1).2
  rw [bytes_len] at l1
  have l2 : t.size = 1 := by rw [← bytes_len, h2]; rfl
  have H1 := hide (both_any s t (by omega) (by omega) w)
  have c2 : chkI t.data.toList = 0 := by rw [h2, ← itoa_zero]; exact chk_fits fits_zero
  have hb0 : bothI s.data.toList t.data.toList = 0 := by unfold bothI; rw [if_pos c1, c2]
  rw [hb0] at H1
  have hq : (t.toList == [48]) = true := by rw [ByteArray.toList_eq]; simpa using h2
  clear c1 c2 h2 hb0 l1 l2
  go_enter Tryz.func17, Tryz.ntmps17
  go_wp2_with fail
  refine H1.out.mono ?_
  rintro e w1 ⟨rfl, hb1⟩
  have HB1 := hide hb1
  clear hb1 H1
  go_wp2_with fail
  refine bodyPost_ret (results_tmp3' rfl _ _ _) rfl ?_
  exact ⟨rfl, HB1.out⟩
end Go.Proofs.YthkioajalhglfaaGreatDoor
