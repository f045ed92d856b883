/-
  Limbs in memory; the smallest functions of integers walked: limb, trim, plus, minus.
-/
import Derived.Test.YthkioajalhglfaaGreatDoorChecked
import Derived.Test.YthkioajalhglfaaGreatDoorGen2
import Derived.Test.YthkioajalhglfaaGreatDoorNb
namespace Go.Proofs.YthkioajalhglfaaGreatDoor
open Go.RowKit Go.KP Go.KI

theorem info3 : (Tryz.prog.info? 3).map (fun i => (i.zero, i.size, i.bytes)) = some (some (.int .i64 0), 1, 8) := by kernel_rfl
def icells (l : List Nat) : List Value := l.map fun (n : Nat) => Value.int .i64 (n : Int)
theorem icells_len (l : List Nat) : (icells l).length = l.length := by simp [icells]
theorem icells_append (a b : List Nat) : icells (a ++ b) = icells a ++ icells b := by simp [icells]
theorem icells_at {l : List Nat} {i : Nat} (h : i < l.length) : (icells l)[i]? = some (.int .i64 (lat l i)) := by
  unfold icells
  rw [List.getElem?_map, lat_some h]
  rfl
theorem icells_take (l : List Nat) (n : Nat) : icells (l.take n) = (icells l).take n := by simp [icells, List.map_take]
/-- The slice value v reads as the limbs l; it lies below block B. -/
def LimbAt (B : Nat) (w : World) (v : Value) (l : List Nat) : Prop := SlAt B w 1 v l.length (icells l)
theorem sl_form {B : Nat} {w : World} {sz : Nat} {v : Value} {n : Nat} {xs : List Value} (h : SlAt B w sz v n xs) : ∃ a c, v = .slice a n c := by
  rcases h.2 with ⟨a, c, h1, h2⟩ | ⟨b, o, cap, h1, _⟩
  · exact ⟨a, c, by rw [h1, h2]⟩
  · exact ⟨_, _, h1⟩
theorem LimbAt.form {B : Nat} {w : World} {v : Value} {l : List Nat} (h : LimbAt B w v l) : ∃ a c, v = .slice a l.length c := sl_form h
theorem LimbAt.below {B n0 : Nat} {w w2 : World} {v : Value} {l : List Nat} (h : LimbAt B w v l) (hb : Below n0 w w2) (hB : B ≤ n0) : LimbAt B w2 v l := SlAt.below h hb hB
theorem LimbAt.mono {B B2 : Nat} {w : World} {v : Value} {l : List Nat} (h : LimbAt B w v l) (hB : B ≤ B2) : LimbAt B2 w v l := SlAt.mono h hB
theorem LimbAt.nil (B : Nat) (w : World) : LimbAt B w (.slice none 0 0) [] := SlAt.nil B w 1
theorem LimbAt.cases {B : Nat} {w : World} {v : Value} {l : List Nat} (h : LimbAt B w v l) :
    (∃ a c, v = .slice a 0 c ∧ l = []) ∨ ∃ b o cap, v = .slice (some ⟨b, o, none⟩) l.length cap ∧ b < B ∧ ∀ i, i < l.length → w.cell? ⟨b, o + i, none⟩ = some (.int .i64 (lat l i)) := by
  rcases h.2 with ⟨a, c, h1, h2⟩ | ⟨b, o, cap, hv, hlt, hc⟩
  · exact .inl ⟨a, c, h1, List.eq_nil_of_length_eq_zero h2⟩
  · exact .inr ⟨b, o, cap, hv, hlt, fun i hi => hc i _ (icells_at hi)⟩
/-- A row of limbs of the call's own. -/
def OwnL (base : Nat) (w : World) (v : Value) (l : List Nat) : Prop := w.ownsRow base 3 1 v l.length (icells l)
theorem OwnL.at_ {base : Nat} {w : World} {v : Value} {l : List Nat} (h : OwnL base w v l) : LimbAt w.heap.size w v l := SlAt.of_owns h
theorem OwnL.form {base : Nat} {w : World} {v : Value} {l : List Nat} (h : OwnL base w v l) : ∃ a c, v = .slice a l.length c ∧ l.length ≤ c ∧ c ≤ maxLen := by
  rcases h.2 with ⟨h1, h2⟩ | ⟨g, cap, cur, hv, _, _, h3, h4, _⟩
  · exact ⟨none, 0, by rw [h1, h2], by omega, by unfold maxLen; omega⟩
  · exact ⟨_, _, hv, h3, h4⟩
theorem OwnL.mono {base base2 : Nat} {w : World} {v : Value} {l : List Nat} (h : OwnL base w v l) (hb : base2 ≤ base) : OwnL base2 w v l := owns_mono h hb
theorem OwnL.nil (base : Nat) (w : World) : OwnL base w (.slice none 0 0) [] := World.ownsRow_nil _ _ _ _
/-- The same row, cut off. -/
theorem OwnL.cut {base : Nat} {w : World} {a : Option Addr} {n c : Nat} {l : List Nat} (h : OwnL base w (.slice a n c) l) {k : Nat} (hk : k ≤ l.length) : OwnL base w (.slice a k c) (l.take k) := by
  have hl : (l.take k).length = k := by rw [List.length_take]; exact Nat.min_eq_left hk
  refine ⟨by rw [icells_len]; omega, ?_⟩
  rcases h.2 with ⟨h1, h2⟩ | ⟨g, cap, cur, hv, h1, h2, h3, h4, h5, h6⟩
  · injection h1 with h1 h3 h4
    left
    refine ⟨?_, by omega⟩
    rw [h1, h4, show k = 0 by omega]
  · injection hv with hv1 hv2 hv3
    right
    refine ⟨g, cap, cur, by rw [hv1, hv3, hl], h1, h2, by omega, h4, h5, ?_⟩
    rw [icells_take, ← h6, List.take_take, hl, Nat.mul_one, Nat.mul_one, Nat.min_eq_left hk]
theorem OwnL.keep {base : Nat} {w w2 : World} {v : Value} {l : List Nat} (h : OwnL base w v l) (hb : Below w.heap.size w w2) : OwnL base w2 v l := owns_stay h (fun r hr => hb.block r (owns_lt h r hr))
/-- It returns limbs of its own. -/
def LimbsOf (base : Nat) (l : List Nat) (v : Value) (w2 : World) : Prop := OwnL base w2 v l

theorem limb_any (v : Value) (l : List Nat) (i : Nat) (B : Nat) (w : World) (h : LimbAt B w v l) (hi : i ≤ 1000000) :
    Calls Tryz.prog 70 #[v, .int .i64 i] w fun e w' => e = .returned (.int .i64 (lat l i)) ∧ w = w' := by
  have i0 : (0 : Int) ≤ (i : Int) := by omega
  rcases h.cases with ⟨a, c, rfl, rfl⟩ | ⟨b, o, cap, rfl, hb, hc⟩
  · have hlt : ((i : Int) < 0) = False := eq_false (by omega)
    have hl : lat [] i = 0 := rfl
    rw [hl]
    go_enter Tryz.func70, Tryz.ntmps70
    go_wp2
    go_ret
    exact ⟨rfl, rfl⟩
  · by_cases hlt : i < l.length
    · have hcell := hc i hlt
      have hlti : (i : Int) < (l.length : Int) := by omega
      clear hc h
      go_enter Tryz.func70, Tryz.ntmps70
      go_wp2
      go_ret
      exact ⟨rfl, rfl⟩
    · have hlti : ¬ (i : Int) < (l.length : Int) := by omega
      have hl := lat_past (l := l) (i := i) (by omega)
      rw [hl]
      clear hc h hl
      go_enter Tryz.func70, Tryz.ntmps70
      go_wp2
      go_ret
      exact ⟨rfl, rfl⟩
theorem trimTo_z {l : List Nat} {m : Nat} (h : lat l m = 0) : trimTo l (m + 1) = trimTo l m := if_pos h
theorem trimTo_p {l : List Nat} {m : Nat} (h : ¬ lat l m = 0) : trimTo l (m + 1) = m + 1 := if_neg h
set_option maxRecDepth 100000 in
set_option maxHeartbeats 1000000 in
theorem trim_any (a : Option Addr) (c : Nat) (l : List Nat) (B : Nat) (w : World) (h : LimbAt B w (.slice a l.length c) l) (hc : l.length ≤ c) (hl : l.length ≤ 1000000) :
    Calls Tryz.prog 68 #[.slice a l.length c] w fun e w' => e = .returned (.slice a (trimTo l l.length) c) ∧ w = w' := by
  have H := hide h
  obtain ⟨n, hn⟩ : ∃ n, n = l.length := ⟨_, rfl⟩
  rw [← hn] at hc hl ⊢
  have HN := hide hn
  clear h hn
  go_enter Tryz.func68, Tryz.ntmps68
  go_wp2_with fail
  go_loopw [0] (fun t wr => ∃ k : Nat, k ≤ n ∧ t = .slice a k c ∧ Hid (trimTo l k = trimTo l n) ∧ wr = w) (fun t _ => match t with | .slice _ k _ => k | _ => 0)
  case atStart => exact ⟨n, Nat.le_refl _, rfl, rfl, rfl⟩
  case round =>
    obtain ⟨k, hk, rfl, ht, rfl⟩ := hrel
    rcases Nat.eq_zero_or_pos k with h0 | h0
    · have hq : (0 < k) = False := eq_false (by omega)
      have HT := hide (show trimTo l n = k by rw [← ht.out, h0]; rfl)
      clear h0 ht
      go_wp2_with fail
      go_ret
      rw [HT.out]
      exact ⟨rfl, rfl⟩
    · rcases H.out.cases with ⟨a0, c0, hv, hnil⟩ | ⟨b, o, cap, hv, hb, hcl⟩
      · exfalso
        have := HN.out
        rw [hnil] at this
        simp at this
        omega
      · have hcell := hcl (k - 1) (by rw [← HN.out]; omega)
        injection hv with hv1 hv2 hv3
        subst hv1; subst hv3
        obtain ⟨m, hm⟩ : ∃ m, k = m + 1 := ⟨k - 1, by omega⟩
        subst hm
        rw [Nat.add_sub_cancel] at hcell
        have hq : decide (((m + 1 : Nat) : Int) > 0) = true := by simp
        have hm1 : ((m + 1 : Nat) : Int) - 1 = (m : Int) := by omega
        by_cases hz : lat l m = 0
        · have hz1 : ((lat l m : Int) == 0) = true := by rw [hz]; rfl
          have HT := hide (show trimTo l m = trimTo l n from (trimTo_z hz).symm.trans ht.out)
          clear hz ht hcl hv2
          go_wp2_with fail
          go_roundw
          case rel => exact ⟨m, by omega, rfl, HT, trivial⟩
          case measure => simp
        · have hz1 : ((lat l m : Int) == 0) = false := by simpa using hz
          have HT := hide (show trimTo l n = m + 1 from ht.out.symm.trans (trimTo_p hz))
          clear hz ht hcl hv2
          go_wp2_with fail
          go_ret
          rw [HT.out]
          exact ⟨rfl, rfl⟩
def plusP (x y c : Nat) : Nat × Nat := ((x + y + c) % 1000000000, (x + y + c) / 1000000000)
def minusP (x y c : Nat) : Nat × Nat := if y + c ≤ x then (x - (y + c), 0) else (x + 1000000000 - (y + c), 1)
set_option maxRecDepth 100000 in
theorem plus_any (x y c : Nat) (w : World) (hx : x < 1000000000) (hy : y < 1000000000) (hc : c ≤ 1) :
    Calls Tryz.prog 48 #[.int .i64 x, .int .i64 y, .int .i64 c] w fun e w' => e = .returned (.tuple #[.int .i64 (plusP x y c).1, .int .i64 (plusP x y c).2]) ∧ w = w' := by
  have x0 : (0 : Int) ≤ (x : Int) := by omega
  have y0 : (0 : Int) ≤ (y : Int) := by omega
  have c0 : (0 : Int) ≤ (c : Int) := by omega
  have x1 : (x : Int) < 1000000000 := by omega
  have y1 : (y : Int) < 1000000000 := by omega
  have c1 : (c : Int) ≤ 1 := by omega
  go_enter Tryz.func48, Tryz.ntmps48
  go_wp2
  go_ret2
  refine ⟨?_, rfl⟩
  have e1 : (((plusP x y c).1 : Nat) : Int) = ((x : Int) + y + c) % 1000000000 := by unfold plusP; simp
  have e2 : (((plusP x y c).2 : Nat) : Int) = ((x : Int) + y + c) / 1000000000 := by unfold plusP; simp
  rw [e1, e2]
  rfl
set_option maxRecDepth 100000 in
theorem minus_any (x y c : Nat) (w : World) (hx : x < 1000000000) (hy : y < 1000000000) (hc : c ≤ 1) :
    Calls Tryz.prog 49 #[.int .i64 x, .int .i64 y, .int .i64 c] w fun e w' => e = .returned (.tuple #[.int .i64 (minusP x y c).1, .int .i64 (minusP x y c).2]) ∧ w = w' := by
  have x0 : (0 : Int) ≤ (x : Int) := by omega
  have y0 : (0 : Int) ≤ (y : Int) := by omega
  have c0 : (0 : Int) ≤ (c : Int) := by omega
  have x1 : (x : Int) < 1000000000 := by omega
  have y1 : (y : Int) < 1000000000 := by omega
  have c1 : (c : Int) ≤ 1 := by omega
  by_cases h : y + c ≤ x
  · have hq : (c : Int) ≤ (x : Int) - y := by omega
    have HE := hide (show minusP x y c = (x - (y + c), 0) by unfold minusP; rw [if_pos h])
    go_enter Tryz.func49, Tryz.ntmps49
    go_wp2
    go_ret2
    refine ⟨?_, rfl⟩
    have e1 : (((minusP x y c).1 : Nat) : Int) = (x : Int) - y - c := by
      rw [HE.out]
      show ((x - (y + c) : Nat) : Int) = (x : Int) - y - c
      omega
    have e2 : (((minusP x y c).2 : Nat) : Int) = 0 := by rw [HE.out]; rfl
    rw [e1, e2]
    rfl
  · have hq : ((c : Int) ≤ (x : Int) - y) = False := eq_false (by omega)
    have HE := hide (show minusP x y c = (x + 1000000000 - (y + c), 1) by unfold minusP; rw [if_neg h])
    go_enter Tryz.func49, Tryz.ntmps49
    go_wp2
    go_ret2
    refine ⟨?_, rfl⟩
    have e1 : (((minusP x y c).1 : Nat) : Int) = (x : Int) - y - c + 1000000000 := by
      rw [HE.out]
      show ((x + 1000000000 - (y + c) : Nat) : Int) = (x : Int) - y - c + 1000000000
      omega
    have e2 : (((minusP x y c).2 : Nat) : Int) = 1 := by rw [HE.out]; rfl
    rw [e1, e2]
    rfl
end Go.Proofs.YthkioajalhglfaaGreatDoor
