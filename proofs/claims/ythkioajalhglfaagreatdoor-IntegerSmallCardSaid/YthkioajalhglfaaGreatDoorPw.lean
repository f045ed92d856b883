/-
  Integers: the law Order walked.
-/
import Derived.Test.YthkioajalhglfaaGreatDoorPv
namespace Go.Proofs.YthkioajalhglfaaGreatDoor
open Go.RowKit Go.KP Go.KI Go.Shelf
attribute [local go_sem] Oper.semAt_some

theorem resS_fine {z : Int} (h : z.natAbs < 10 ^ 290) : resS z = Lib.itoa z ∧ resE z = 0 := by
  have : fits z := fits_small (n := 290) (by rw [most_eq]; omega) h
  exact ⟨if_pos this, if_pos this⟩
theorem fine_val {s : ByteArray} (h : fineS s) : (valI s.data.toList).natAbs < 10 ^ 80 := short_val h.2 (by rw [bytes_len]; exact h.1) (by omega)
theorem fine_eq {s t : ByteArray} (h1 : fineS s) (h2 : fineS t) : s = t ↔ valI s.data.toList = valI t.data.toList :=
  ⟨fun e => by rw [e], fun e => bytes_eq (by rw [(chk_ok h1.2).1, (chk_ok h2.2).1, e])⟩
theorem cmp_neg (x y : Int) : Lib.compareInt y x = - Lib.compareInt x y := by
  unfold Lib.compareInt
  split <;> split <;> (try split) <;> (try split) <;> omega
theorem cmp_same {x y x2 y2 : Int} (h : x - y = x2 - y2) : Lib.compareInt x y = Lib.compareInt x2 y2 := by
  unfold Lib.compareInt
  split <;> split <;> (try split) <;> (try split) <;> omega
theorem cmp_zero {x y : Int} : Lib.compareInt x y = 0 ↔ x = y := by
  unfold Lib.compareInt
  split
  · omega
  · split <;> omega
theorem cmp_bound (x y : Int) : -1 ≤ Lib.compareInt x y ∧ Lib.compareInt x y ≤ 1 := by
  unfold Lib.compareInt
  split
  · omega
  · split <;> omega
theorem both_fine {s t : ByteArray} (h1 : fineS s) (h2 : fineS t) : bothI s.data.toList t.data.toList = 0 := by unfold bothI; rw [if_pos h1.2, h2.2]
/-- Compare at two good texts. -/
theorem Compare_good {s t : ByteArray} {x y : Int} (h1 : s.data.toList = Lib.itoa x) (h2 : t.data.toList = Lib.itoa y) (f1 : fits x) (f2 : fits y) (w : World) :
    Calls Tryz.prog 30 #[.string s, .string t] w (Ret w (.tuple #[.int .i64 (Lib.compareInt x y), .int .i64 0])) := by
  have c1 : chkI s.data.toList = 0 := by rw [h1]; exact chk_fits f1
  have c2 : chkI t.data.toList = 0 := by rw [h2]; exact chk_fits f2
  have b : bothI s.data.toList t.data.toList = 0 := by unfold bothI; rw [if_pos c1, c2]
  have l1 := (chk_digs c1).2
  have l2 := (chk_digs c2).2
  rw [bytes_len] at l1 l2
  have := Compare_any s t w (by omega) (by omega)
  rw [b] at this
  unfold cmpV at this
  rw [if_pos b, h1, h2, val_itoa, val_itoa] at this
  exact this
theorem Add_good {s t : ByteArray} {x y : Int} (h1 : s.data.toList = Lib.itoa x) (h2 : t.data.toList = Lib.itoa y) (f1 : fits x) (f2 : fits y) (f3 : fits (x + y)) (B : Nat) (w : World) (hB : B ≤ w.heap.size) (hT : P10 B w) :
    Calls Tryz.prog 26 #[.string s, .string t] w (Ret w (pairV (Lib.itoa (x + y)) 0)) := by
  have c1 : chkI s.data.toList = 0 := by rw [h1]; exact chk_fits f1
  have c2 : chkI t.data.toList = 0 := by rw [h2]; exact chk_fits f2
  have b : bothI s.data.toList t.data.toList = 0 := by unfold bothI; rw [if_pos c1, c2]
  have l1 := (chk_digs c1).2
  have l2 := (chk_digs c2).2
  rw [bytes_len] at l1 l2
  obtain ⟨_, _, e1, e2⟩ := op2_good (f := (· + ·)) b
  have := Add_any s t B w (by omega) (by omega) hB hT
  rw [e1, e2, h1, h2, val_itoa, val_itoa] at this
  simpa [resS, resE, f3] using this
theorem Sub_good {s t : ByteArray} {x y : Int} (h1 : s.data.toList = Lib.itoa x) (h2 : t.data.toList = Lib.itoa y) (f1 : fits x) (f2 : fits y) (f3 : fits (x - y)) (B : Nat) (w : World) (hB : B ≤ w.heap.size) (hT : P10 B w) :
    Calls Tryz.prog 27 #[.string s, .string t] w (Ret w (pairV (Lib.itoa (x - y)) 0)) := by
  have c1 : chkI s.data.toList = 0 := by rw [h1]; exact chk_fits f1
  have c2 : chkI t.data.toList = 0 := by rw [h2]; exact chk_fits f2
  have b : bothI s.data.toList t.data.toList = 0 := by unfold bothI; rw [if_pos c1, c2]
  have l1 := (chk_digs c1).2
  have l2 := (chk_digs c2).2
  rw [bytes_len] at l1 l2
  obtain ⟨_, _, e1, e2⟩ := op2_good (f := (· - ·)) b
  have := Sub_any s t B w (by omega) (by omega) hB hT
  rw [e1, e2, h1, h2, val_itoa, val_itoa] at this
  simpa [resS, resE, f3] using this
end Go.Proofs.YthkioajalhglfaaGreatDoor
