/-
  Integers: rows of limbs that a call makes and writes; times walked.
-/
import Derived.Test.YthkioajalhglfaaGreatDoorPb
import Derived.Laws.MakeOwn
import Derived.IntWalk
namespace Go.Proofs.YthkioajalhglfaaGreatDoor
open Go.RowKit Go.KP Go.KI Go.Shelf

/-- A block that is a row of limbs. -/
abbrev rowO (L : List Nat) : Obj := .cells (icells L).toArray 3
theorem setCell_size (w : World) (a : Addr) (v : Value) : (w.setCell a v).heap.size = w.heap.size := by simp [World.setCell]
theorem setCell_other {w : World} {b b2 k : Nat} {v : Value} (h : b ≠ b2) : (w.setCell ⟨b, k, none⟩ v).heap[b2]? = w.heap[b2]? := by
  simp only [World.setCell, Array.getElem?_modify, if_neg h]
theorem row_cell {w : World} {g : Nat} {L : List Nat} (h : w.heap[g]? = some (rowO L)) {i : Nat} (hi : i < L.length) : w.cell? ⟨g, i, none⟩ = some (.int .i64 (lat L i)) := by
  rw [cell_blk h]
  simp only [List.getElem?_toArray]
  exact icells_at hi
theorem row_froz {w : World} {g : Nat} {L : List Nat} (h : w.heap[g]? = some (rowO L)) (i : Nat) : w.frozen? ⟨g, i, none⟩ = false := froz_blk h i
theorem row_set {w : World} {g : Nat} {L : List Nat} (h : w.heap[g]? = some (rowO L)) (k v : Nat) : (w.setCell ⟨g, k, none⟩ (.int .i64 v)).heap[g]? = some (rowO (L.set k v)) := by
  simp only [World.setCell, Array.getElem?_modify, h]
  simp [icells, List.map_set]
theorem row_owns {w : World} {g base : Nat} {L : List Nat} (h : w.heap[g]? = some (rowO L)) (hb : base ≤ g) (hl : L.length ≤ maxLen) : OwnL base w (.slice (some ⟨g, 0, none⟩) L.length L.length) L := by
  refine ⟨by rw [icells_len]; omega, .inr ⟨g, L.length, _, rfl, hb, h, Nat.le_refl _, hl, by simp [icells_len], ?_⟩⟩
  rw [List.take_of_length_le]
  simp [icells_len]
theorem row_limbs {w : World} {g : Nat} {L : List Nat} (h : w.heap[g]? = some (rowO L)) (hl : L.length ≤ maxLen) : LimbAt w.heap.size w (.slice (some ⟨g, 0, none⟩) L.length L.length) L := (row_owns h (Nat.zero_le _) hl).at_
def zeros (n : Nat) : List Nat := List.replicate n 0
theorem zeros_len (n : Nat) : (zeros n).length = n := by simp [zeros]
theorem zeros_lt (b n : Nat) (hb : 0 < b) : Lt b (zeros n) := fun x hx => by
  rw [List.eq_of_mem_replicate hx]
  exact hb
theorem make_ints (n : Nat) (hn : n ≤ 1000000) (W : World) :
    (Instr.makeSlice 46 (.int .i64 (n : Int)) (.int .i64 (n : Int))).run Tryz.prog W = .ok (.slice (some ⟨W.heap.size, 0, none⟩) n n) (W.alloc (rowO (zeros n))) := by
  obtain ⟨i0, hi0, hz0, hz1, hz2⟩ := info_parts info3
  have hr := run_make (P := Tryz.prog) W 46 3 i0 (.int .i64 0) Tryz.underlying46 hi0 hz0 .i64 .i64 n n (by omega) (Int.le_refl _) (by rw [hz2]; omega) (by omega)
  simp only [Int.toNat_natCast, hz1] at hr
  rw [hr]
  have e : madeCells (Value.int .i64 0).cells (n * 1) = (icells (zeros n)).toArray := by
    simp [madeCells, Value.cells, icells, zeros]
    apply Array.ext
    · simp
    · intro i h1 h2
      simp [Nat.mod_one]
  rw [e]
/-- One limb of a product. -/
theorem times_step {b i k o c c2 n v q x y V T : Nat} (h : o + b ^ (i + k) * c = V + x * T * b ^ i) (h1 : n + b ^ (i + k) * q = o + b ^ (i + k) * v) (h2 : q + x * y + c = v + b * c2) :
    n + b ^ (i + (k + 1)) * c2 = V + x * (T + b ^ k * y) * b ^ i := by
  have e1 : b ^ (i + (k + 1)) = b ^ (i + k) * b := by rw [← Nat.add_assoc, Nat.pow_succ]
  have e2 : b ^ (i + k) = b ^ i * b ^ k := Nat.pow_add b i k
  have h3 : b ^ (i + k) * (q + x * y + c) = b ^ (i + k) * (v + b * c2) := by rw [h2]
  rw [e1]
  have h4 : x * (T + b ^ k * y) * b ^ i = x * T * b ^ i + b ^ (i + k) * (x * y) := by rw [e2]; grind
  rw [h4]
  have h5 : b ^ (i + k) * (q + x * y + c) = b ^ (i + k) * q + b ^ (i + k) * (x * y) + b ^ (i + k) * c := by grind
  have h6 : b ^ (i + k) * (v + b * c2) = b ^ (i + k) * v + b ^ (i + k) * b * c2 := by grind
  omega
theorem times_total {b : Nat} {x y L0 : List Nat} {i k X : Nat} (h : lv b L0 = lvT b x i * lv b y) (hX : X = lat x i) (hk : y.length ≤ k) : lv b L0 + X * lvT b y k * b ^ i = lvT b x (i + 1) * lv b y := by
  rw [h, lvT_succ, lvT_all hk, hX]
  grind
theorem times_zero {b : Nat} (h0 : 0 < b) {x y L : List Nat} {i k C : Nat} (hx : Lt b x) (hy : Lt b y) (hk : k = y.length + 1) (h : lv b L + b ^ (i + k) * C = lvT b x (i + 1) * lv b y) : C = 0 := by
  have h1 := lvT_lt h0 hx (i + 1)
  have h2 := lv_lt hy
  have h4 : lvT b x (i + 1) * lv b y < b ^ (i + k) := by
    have e : b ^ (i + k) = b ^ (i + 1) * b ^ y.length := by
      rw [← Nat.pow_add]
      congr 1
      omega
    rw [e]
    exact Nat.mul_lt_mul'' h1 h2
  rcases Nat.eq_zero_or_pos C with h5 | h5
  · exact h5
  · exfalso
    have : b ^ (i + k) * 1 ≤ b ^ (i + k) * C := Nat.mul_le_mul_left _ h5
    omega
theorem mul_lt_sq {x y : Nat} (hx : x < 1000000000) (hy : y < 1000000000) : x * y ≤ 999999998000000001 := by
  have : x * y ≤ 999999999 * 999999999 := Nat.mul_le_mul (by omega) (by omega)
  omega
theorem limb_same (v : Value) (l : List Nat) (i : Nat) (B : Nat) (w : World) (h : LimbAt B w v l) (hi : i ≤ 1000000) :
    Calls Tryz.prog 70 #[v, .int .i64 i] w fun e w' => e = .returned (.int .i64 (lat l i)) ∧ w' = w := (limb_any v l i B w h hi).mono fun _ _ ⟨h1, h2⟩ => ⟨h1, h2.symm⟩
set_option maxRecDepth 100000 in
set_option maxHeartbeats 4000000 in
theorem times_any (va vb : Value) (x y : List Nat) (B : Nat) (w : World) (ha : LimbAt B w va x) (hb : LimbAt B w vb y) (hB : B ≤ w.heap.size) (hx : Lt 1000000000 x) (hy : Lt 1000000000 y) (lx : x.length ≤ 100000) (ly : y.length ≤ 100000) :
    Calls Tryz.prog 40 #[va, vb] w fun e w' => ∃ l, LimbsRet w l e w' ∧ Norm 1000000000 l ∧ lv 1000000000 l = lv 1000000000 x * lv 1000000000 y ∧ l.length ≤ x.length + y.length + 1 := by
  obtain ⟨a0, c0, hva⟩ := ha.form
  obtain ⟨a1, c1, hvb⟩ := hb.form
  subst hva; subst hvb
  obtain ⟨n, hn⟩ : ∃ n, n = x.length + y.length + 1 := ⟨_, rfl⟩
  have hn2 : (x.length : Int) + (y.length : Int) + 1 = (n : Int) := by omega
  have hmk := make_ints n (by omega)
  have HA := hide ha; have HB := hide hb; have HX := hide hx; have HY := hide hy; have HN := hide hn
  have hnb : n ≤ 200001 := by omega
  clear ha hb hx hy hn
  go_enter Tryz.func40, Tryz.ntmps40
  go_wp2_with fail
  clear hmk
  have H0 := hide (heap_alloc_new w (rowO (zeros n))); have HB0 := hide ((Below.refl w.heap.size w).alloc (Nat.le_refl _) (rowO (zeros n)))
  go_loopw [20] (fun i wr => ∃ k : Nat, k ≤ x.length ∧ i = .int .i64 k ∧ Hid (∃ L : List Nat, L.length = n ∧ Lt 1000000000 L ∧ lv 1000000000 L = lvT 1000000000 x k * lv 1000000000 y ∧ wr.heap[w.heap.size]? = some (rowO L) ∧ Below w.heap.size w wr)) (fun i _ => x.length - (intOf i).toNat)
  case atStart =>
    refine ⟨0, Nat.zero_le _, rfl, zeros n, zeros_len n, zeros_lt _ _ (by omega), ?_, H0.out, HB0.out⟩
    rw [lvT_zero, zeros, lv_zeros]
    simp
  case round =>
    obtain ⟨i, hi, rfl, hin⟩ := hrel
    obtain ⟨L0, hL0n, hL0t, hL0v, hL0b, hL0w⟩ := hin.out
    have hsz := lt_blk hL0b
    by_cases hlt : i < x.length
    · have e3 : (i : Int) < (x.length : Int) := by omega
      rcases (HA.out.below hL0w hB).cases with ⟨_, _, _, hnil⟩ | ⟨b, o, cap, hv, hbb, hcl⟩
      · rw [hnil] at hlt
        simp at hlt
      injection hv with hv1 hv2 hv3
      subst hv1; subst hv3
      have hcell := hcl i hlt
      have hxi := lat_lt (by omega) HX.out i
      obtain ⟨X, hX⟩ : ∃ X, X = lat x i := ⟨_, rfl⟩
      rw [← hX] at hcell hxi
      have HXE := hide hX; have HL0 := hide hL0b; have HW0 := hide hL0w; have HV0 := hide hL0v; have HN0 := hide hL0n; have HT0 := hide hL0t
      clear hcl hv2 hX hL0n hL0t hL0v hL0b hL0w hin
      obtain ⟨wo, hwo⟩ : ∃ wo, wo = wr := ⟨_, rfl⟩
      subst hwo
      go_wp2_with fail
      go_loopw [8, 28] (fun c j wr => ∃ (k C : Nat), k ≤ y.length + 1 ∧ j = .int .i64 k ∧ c = .int .i64 C ∧ C < 1000000000 ∧ Hid (∃ L : List Nat, L.length = n ∧ Lt 1000000000 L ∧ lv 1000000000 L + 1000000000 ^ (i + k) * C = lv 1000000000 L0 + X * lvT 1000000000 y k * 1000000000 ^ i ∧ wr.heap[w.heap.size]? = some (rowO L) ∧ Below w.heap.size w wr)) (fun _ j _ => y.length + 1 - (intOf j).toNat)
      case atStart =>
        refine ⟨0, 0, Nat.zero_le _, rfl, rfl, by omega, L0, HN0.out, HT0.out, ?_, HL0.out, HW0.out⟩
        rw [lvT_zero]
        simp
      case round =>
        obtain ⟨k, C, hk, rfl, rfl, hC, hin⟩ := hrel
        obtain ⟨L, hLn, hLt, hLv, hLb, hLw⟩ := hin.out
        have hsz2 := lt_blk hLb
        by_cases hlt2 : k < y.length + 1
        · have e4 : (k : Int) < (y.length : Int) + 1 := by omega
          have hik : i + k < L.length := by rw [hLn, HN.out]; omega
          have q1 := row_cell hLb hik
          have q2 := row_froz hLb (i + k)
          have hyk := lat_lt (by omega) HY.out k
          have hlk := lat_lt (by omega) hLt (i + k)
          have hlim := hide (fun m : Nat => limb_same (.slice a1 y.length c1) y k B (wr.drewN m) (HB.out.below (below_drewN hLw m) hB) (by omega))
          obtain ⟨Y, hY⟩ : ∃ Y, Y = lat y k := ⟨_, rfl⟩
          obtain ⟨Q, hQ⟩ : ∃ Q, Q = lat L (i + k) := ⟨_, rfl⟩
          rw [← hY] at hyk hlim
          rw [← hQ] at hlk q1
          have hm := mul_lt_sq hxi hyk
          have p0 : (0 : Int) ≤ (X : Int) * (Y : Int) := Int.mul_nonneg (by omega) (by omega)
          have p1 : (X : Int) * (Y : Int) ≤ 999999998000000001 := by
            have : ((X * Y : Nat) : Int) ≤ 999999998000000001 := by omega
            rwa [Int.natCast_mul] at this
          have w1 : IntKind.i64.wrap ((i : Int) + (k : Int)) = (i : Int) + (k : Int) := IntWalk.i64_in _ (by omega)
          have w2 : IntKind.i64.wrap ((X : Int) * (Y : Int)) = (X : Int) * (Y : Int) := IntWalk.i64_in _ (by omega)
          have w3 : IntKind.i64.wrap ((Q : Int) + (X : Int) * (Y : Int)) = (Q : Int) + (X : Int) * (Y : Int) := IntWalk.i64_in _ (by omega)
          have w4 : IntKind.i64.wrap ((Q : Int) + (X : Int) * (Y : Int) + (C : Int)) = (Q : Int) + (X : Int) * (Y : Int) + (C : Int) := IntWalk.i64_in _ (by omega)
          have j0 : (0 : Int) ≤ (i : Int) + (k : Int) := by omega
          have j1 : (i : Int) + (k : Int) < (n : Int) := by omega
          have j2 : ((i : Int) + (k : Int)).toNat = i + k := by omega
          have HLv := hide hLv; have HLt := hide hLt; have HLn := hide hLn; have HLb := hide hLb; have HLw := hide hLw; have HYE := hide hY; have HQE := hide hQ; have HIK := hide hik
          clear hLv hLt hLn hLb hLw hY hQ hik hin
          go_wp2_with fail
          go_quiet ((go_at_call 70; exact Calls.quiet_of_same (hlim.out _)))
          clear w1 w2 w3 w4
          go_wp2_with fail
          have hdm := Nat.div_add_mod (Q + X * Y + C) 1000000000
          have hml := Nat.mod_lt (Q + X * Y + C) (show 0 < 1000000000 by omega)
          go_roundw
          case rel =>
            refine ⟨k + 1, (Q + X * Y + C) / 1000000000, by omega, by go_num, by simp, by omega, L.set (i + k) ((Q + X * Y + C) % 1000000000), by rw [List.length_set]; exact HLn.out, lt_set HLt.out hml, ?_, ?_, ?_⟩
            · rw [lvT_succ, ← HYE.out]
              have h1 := lv_set (b := 1000000000) ((Q + X * Y + C) % 1000000000) HIK.out
              rw [← HQE.out] at h1
              exact times_step HLv.out h1 (by omega)
            · exact row_set (w := wr.drewN nq) HLb.out (i + k) _
            · exact (below_drewN HLw.out nq).setCell (p := ⟨w.heap.size, i + k, none⟩) (Nat.le_refl _) _
          case measure => simp [intOf]; omega
        · have e4 : ¬ (k : Int) < (y.length : Int) + 1 := by omega
          have hk1 : k = y.length + 1 := by omega
          have htot := hLv.trans (times_total HV0.out (X := X) HXE.out (k := k) (by omega))
          have hC0 := times_zero (by omega) HX.out HY.out hk1 htot
          have HLE := hide (show lv 1000000000 L = lvT 1000000000 x (i + 1) * lv 1000000000 y by
            rw [hC0] at htot
            simpa using htot)
          clear htot
          have HLt := hide hLt; have HLn := hide hLn; have HLb := hide hLb; have HLw := hide hLw
          clear hLv hLt hLn hLb hLw hk1 hC0 hin
          go_wp2_with fail
          go_roundw
          case rel => exact ⟨i + 1, by omega, by go_num, L, HLn.out, HLt.out, HLE.out, HLb.out, HLw.out⟩
          case measure => simp [intOf]; omega
    · have e3 : ¬ (i : Int) < (x.length : Int) := by omega
      have HE := hide (show lv 1000000000 L0 = lv 1000000000 x * lv 1000000000 y by rw [hL0v, lvT_all (l := x) (i := i) (by omega)])
      have HT := hide (trim_any (some ⟨w.heap.size, 0, none⟩) n L0 wr.heap.size wr (by
        have := row_limbs hL0b (by unfold maxLen; omega)
        rw [hL0n] at this ⊢
        exact this) (by omega) (by omega))
      rw [hL0n] at HT
      have HO := hide (row_owns hL0b (Nat.le_refl _) (by unfold maxLen; omega))
      have HLn := hide hL0n; have HLw := hide hL0w; have HLt := hide hL0t
      clear hL0n hL0t hL0v hL0b hL0w hin
      go_wp2_with fail
      refine HT.out.mono ?_
      rintro e w1 ⟨rfl, rfl⟩
      go_wp2_with fail
      go_ret
      refine ⟨trimL L0, ⟨_, rfl, HLw.out, ?_⟩, trimL_norm HLt.out, by rw [trimL_lv, HE.out], ?_⟩
      · have hc := HO.out.cut (k := trimTo L0 n) (by rw [HLn.out]; exact trimTo_le _ _)
        rw [HLn.out] at hc
        unfold trimL
        rw [HLn.out]
        exact hc
      · rw [trimL_len]
        have := trimTo_le L0 L0.length
        have := HLn.out
        have := HN.out
        omega
end Go.Proofs.YthkioajalhglfaaGreatDoor
