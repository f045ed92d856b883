/-
  Integers: take, restore, estimate walked.
-/
import Derived.Test.YthkioajalhglfaaGreatDoorPc
import Derived.Test.YthkioajalhglfaaGreatDoorNc
import Derived.BigQuiet
namespace Go.Proofs.YthkioajalhglfaaGreatDoor
open Go.RowKit Go.KP Go.KI Go.Shelf
attribute [local go_sem] Oper.semAt_some

/-- From w to w2 only block g has turned. -/
structure Only (g : Nat) (w w2 : World) : Prop where
  os : w2.os = w.os
  tape : w2.tape = w.tape
  output : w2.output = w.output
  size : w.heap.size ≤ w2.heap.size
  block : ∀ b, b ≠ g → b < w.heap.size → w2.heap[b]? = w.heap[b]?
theorem Only.refl (g : Nat) (w : World) : Only g w w := ⟨rfl, rfl, rfl, Nat.le_refl _, fun _ _ _ => rfl⟩
theorem Only.trans {g : Nat} {a b c : World} (h : Only g a b) (k : Only g b c) : Only g a c :=
  ⟨k.os.trans h.os, k.tape.trans h.tape, k.output.trans h.output, Nat.le_trans h.size k.size, fun i hi hl => (k.block i hi (Nat.lt_of_lt_of_le hl h.size)).trans (h.block i hi hl)⟩
theorem Only.drewN {g : Nat} {a w : World} (h : Only g a w) (n : Nat) : Only g a (w.drewN n) := ⟨h.os, h.tape, h.output, h.size, h.block⟩
theorem Only.set {g : Nat} {a w : World} (h : Only g a w) (k : Nat) (v : Value) : Only g a (w.setCell ⟨g, k, none⟩ v) :=
  ⟨h.os, h.tape, h.output, by rw [setCell_size]; exact h.size, fun b hb hl => (setCell_other (Ne.symm hb)).trans (h.block b hb hl)⟩
theorem Only.below {g n : Nat} {a w w2 : World} (h : Below n a w) (k : Only g w w2) (hn : n ≤ g) (hs : n ≤ w.heap.size) : Below n a w2 :=
  h.trans ⟨k.os, k.tape, k.output, k.size, fun b hb => k.block b (by omega) (by omega)⟩
/-- Block g begins with the limbs L; it has c cells. -/
def RowAt (w : World) (g c : Nat) (L : List Nat) : Prop := ∃ cur : Array Value, w.heap[g]? = some (.cells cur 3 (0, 0)) ∧ L.length ≤ c ∧ c ≤ maxLen ∧ cur.size = c * 1 ∧ cur.toList.take (L.length * 1) = icells L
theorem RowAt.cell {w : World} {g c : Nat} {L : List Nat} (h : RowAt w g c L) {i : Nat} (hi : i < L.length) : w.cell? ⟨g, i, none⟩ = some (.int .i64 (lat L i)) := by
  obtain ⟨cur, h1, _, _, _, h2⟩ := h
  rw [cell_blk h1, ← Array.getElem?_toList]
  have h3 := icells_at hi
  rw [← h2, List.getElem?_take, if_pos (by omega)] at h3
  exact h3
theorem RowAt.froz {w : World} {g c : Nat} {L : List Nat} (h : RowAt w g c L) (i : Nat) : w.frozen? ⟨g, i, none⟩ = false := by
  obtain ⟨cur, h1, _⟩ := h
  exact froz_blk h1 i
theorem RowAt.set {w : World} {g c : Nat} {L : List Nat} (h : RowAt w g c L) (k v : Nat) : RowAt (w.setCell ⟨g, k, none⟩ (.int .i64 v)) g c (L.set k v) := by
  obtain ⟨cur, h1, h2, h3, h4, h5⟩ := h
  refine ⟨cur.setIfInBounds k (.int .i64 v), ?_, by rw [List.length_set]; exact h2, h3, by simpa using h4, ?_⟩
  · simp only [World.setCell, Array.getElem?_modify, h1]
    simp
  · rw [List.length_set, Array.toList_setIfInBounds, List.take_set, h5]
    simp [icells, List.map_set]
theorem RowAt.only {w w2 : World} {g g2 c : Nat} {L : List Nat} (h : RowAt w g c L) (k : Only g2 w w2) (hg : g ≠ g2) : RowAt w2 g c L := by
  obtain ⟨cur, h1, h2⟩ := h
  exact ⟨cur, (k.block g hg (lt_blk h1)).trans h1, h2⟩
theorem RowAt.below {w w2 : World} {n g c : Nat} {L : List Nat} (h : RowAt w g c L) (k : Below n w w2) (hg : g < n) : RowAt w2 g c L := by
  obtain ⟨cur, h1, h2⟩ := h
  exact ⟨cur, below_blk k h1 hg, h2⟩
theorem RowAt.lt {w : World} {g c : Nat} {L : List Nat} (h : RowAt w g c L) : g < w.heap.size := by
  obtain ⟨cur, h1, _⟩ := h
  exact lt_blk h1
theorem RowAt.own {w : World} {g c base : Nat} {L : List Nat} (h : RowAt w g c L) (hb : base ≤ g) : OwnL base w (.slice (some ⟨g, 0, none⟩) L.length c) L := by
  obtain ⟨cur, h1, h2, h3, h4, h5⟩ := h
  exact ⟨by rw [icells_len]; omega, .inr ⟨g, c, cur, rfl, hb, h1, h2, h3, h4, h5⟩⟩
theorem RowAt.limbs {w : World} {g c : Nat} {L : List Nat} (h : RowAt w g c L) : LimbAt w.heap.size w (.slice (some ⟨g, 0, none⟩) L.length c) L := (h.own (Nat.zero_le _)).at_
theorem OwnL.row {base : Nat} {w : World} {v : Value} {L : List Nat} (h : OwnL base w v L) (h0 : L ≠ []) : ∃ g c, v = .slice (some ⟨g, 0, none⟩) L.length c ∧ base ≤ g ∧ RowAt w g c L := by
  rcases h.2 with ⟨_, h2⟩ | ⟨g, cap, cur, hv, h1, h2, h3, h4, h5, h6⟩
  · exact absurd (List.eq_nil_of_length_eq_zero h2) h0
  · exact ⟨g, cap, hv, h1, cur, h2, h3, h4, h5, h6⟩

/-- What take leaves: the window of L less q times V, and whether that was too much. -/
def TakeRes (g c : Nat) (L V : List Nat) (j q n : Nat) (w : World) (e : Ending) (w' : World) : Prop := ∃ (C : Nat) (M : List Nat), e = .returned (.bool (decide (0 < C))) ∧ Only g w w' ∧ RowAt w' g c M ∧ Lt 1000000000 M ∧ WinEq j (n + 1) L M ∧
  lvT 1000000000 (M.drop j) (n + 1) + q * lv 1000000000 V = lvT 1000000000 (L.drop j) (n + 1) + 1000000000 ^ (n + 1) * C
/-- What restore leaves. -/
def RestRes (g c : Nat) (L V : List Nat) (j q n N : Nat) (w : World) (e : Ending) (w' : World) : Prop := ∃ (C : Nat) (M : List Nat), e = .returned (.slice (some ⟨g, 0, none⟩) N c) ∧ Only g w w' ∧ RowAt w' g c M ∧ Lt 1000000000 M ∧ WinEq j (n + 1) L M ∧
  lvT 1000000000 (M.drop j) (n + 1) + 1000000000 ^ (n + 1) * C = lvT 1000000000 (L.drop j) (n + 1) + q * lv 1000000000 V
theorem take_nums {X C p : Nat} (hX : X < 1000000000) (hC : C < 1000000000) (hp : p ≤ 999999998000000001) (h : X < C + p) :
    ∃ m C2 R : Nat, (X : Int) - (C : Int) - (p : Int) = -(m : Int) ∧ ((m : Int) + 1000000000 - 1) / 1000000000 = (C2 : Int) ∧ (0 : Int) < (m : Int) ∧ (m : Int) ≤ 999999999000000000 ∧ (C2 : Int) < 1000000000 ∧
      IntKind.i64.wrap (-(m : Int) + (C2 : Int) * 1000000000) = (R : Int) ∧ R < 1000000000 ∧ R + C + p = X + 1000000000 * C2 := by
  obtain ⟨m, hm⟩ : ∃ m, m = C + p - X := ⟨_, rfl⟩
  obtain ⟨C2, hC2⟩ : ∃ C2, C2 = (m + 999999999) / 1000000000 := ⟨_, rfl⟩
  have h1 := Nat.div_add_mod (m + 999999999) 1000000000
  have h2 := Nat.mod_lt (m + 999999999) (show 0 < 1000000000 by omega)
  rw [← hC2] at h1
  have e : ((m : Int) + 1000000000 - 1) / 1000000000 = (C2 : Int) := by
    omega
  clear hC2
  obtain ⟨s, hs⟩ : ∃ s, s = (m + 999999999) % 1000000000 := ⟨_, rfl⟩
  rw [← hs] at h1 h2
  clear hs
  exact ⟨m, C2, C2 * 1000000000 - m, by omega, e, by omega, by omega, by omega, by rw [IntWalk.i64_in _ (by omega)]; omega, by omega, by omega⟩
set_option maxRecDepth 100000 in
set_option maxHeartbeats 4000000 in
theorem take_any (g c : Nat) (L : List Nat) (gv cv : Nat) (V : List Nat) (j q : Nat) (w : World) (hL : RowAt w g c L) (hV : RowAt w gv cv V) (hne : gv ≠ g) (hl : Lt 1000000000 L) (hv : Lt 1000000000 V) (hj : j + V.length + 1 ≤ L.length) (hq : q < 1000000000) (lL : L.length ≤ 200000) :
    Calls Tryz.prog 76 #[.slice (some ⟨g, 0, none⟩) L.length c, .slice (some ⟨gv, 0, none⟩) V.length cv, .int .i64 j, .int .i64 q] w (TakeRes g c L V j q V.length w) := by
  obtain ⟨N, hN⟩ : ∃ N, N = L.length := ⟨_, rfl⟩
  obtain ⟨n, hn⟩ : ∃ n, n = V.length := ⟨_, rfl⟩
  have HV := hide hV; have HL := hide hL; have LV := hide hv; have LL := hide hl; have HN := hide hN; have HNV := hide hn
  rw [← hN] at hj lL ⊢
  rw [← hn] at hj ⊢
  have hne2 := hide hne
  clear hV hL hv hl hN hn hne
  go_enter Tryz.func76, Tryz.ntmps76
  go_wp2_with fail
  go_loopw [9, 15] (fun cc i wr => ∃ (k C : Nat), k ≤ n + 1 ∧ i = .int .i64 k ∧ cc = .int .i64 C ∧ C < 1000000000 ∧ Hid (∃ M : List Nat, Only g w wr ∧ RowAt wr g c M ∧ Lt 1000000000 M ∧ WinEq j (n + 1) L M ∧ M.drop (j + k) = L.drop (j + k) ∧ lvT 1000000000 (M.drop j) k + q * lvT 1000000000 V k = lvT 1000000000 (L.drop j) k + 1000000000 ^ k * C)) (fun _ i _ => n + 1 - (intOf i).toNat)
  case atStart =>
    refine ⟨0, 0, Nat.zero_le _, rfl, rfl, by omega, L, Only.refl _ _, HL.out, LL.out, WinEq.refl _ _ _, rfl, ?_⟩
    show 0 + q * 0 = 0 + 1000000000 ^ 0 * 0
    rw [Nat.mul_zero, Nat.mul_zero]
  case round =>
    obtain ⟨k, C, hk, rfl, rfl, hC, hin⟩ := hrel
    obtain ⟨M, hO, hR, hM, hW, hD, hval⟩ := hin.out
    by_cases hlt : k < n + 1
    · have e4 : (k : Int) < (n : Int) + 1 := by omega
      have hMl : M.length = N := hW.len.trans HN.out.symm
      have hjk : j + k < M.length := by omega
      have q1 := hR.cell hjk
      have q2 := hR.froz (j + k)
      have hlk := lat_lt (by omega) hM (j + k)
      have hyk := lat_lt (by omega) LV.out k
      have hlim := hide (fun m : Nat => limb_same (.slice (some ⟨gv, 0, none⟩) n cv) V k wr.heap.size (wr.drewN m) (by rw [HNV.out]; exact (RowAt.limbs (w := wr.drewN m) (HV.out.only (hO.drewN m) hne2.out))) (by omega))
      obtain ⟨Y, hY⟩ : ∃ Y, Y = lat V k := ⟨_, rfl⟩
      obtain ⟨X, hX⟩ : ∃ X, X = lat M (j + k) := ⟨_, rfl⟩
      rw [← hY] at hyk hlim
      rw [← hX] at hlk q1
      have hm := mul_lt_sq hq hyk
      obtain ⟨p, hp⟩ : ∃ p, p = q * Y := ⟨_, rfl⟩
      have hpi : (q : Int) * (Y : Int) = (p : Int) := by rw [hp, Int.natCast_mul]
      rw [← hp] at hm
      have w0 : IntKind.i64.wrap ((j : Int) + (k : Int)) = (j : Int) + (k : Int) := IntWalk.i64_in _ (by omega)
      have w1 : IntKind.i64.wrap ((X : Int) - (C : Int)) = (X : Int) - (C : Int) := IntWalk.i64_in _ (by omega)
      have w2 : IntKind.i64.wrap (p : Int) = (p : Int) := IntWalk.i64_in _ (by omega)
      have j0 : (0 : Int) ≤ (j : Int) + (k : Int) := by omega
      have j1 : (j : Int) + (k : Int) < (N : Int) := by omega
      have j2 : ((j : Int) + (k : Int)).toNat = j + k := by omega
      have HO := hide hO; have HR := hide hR; have HM := hide hM; have HW := hide hW; have HD := hide hD; have HVL := hide hval; have HY := hide hY; have HX := hide hX; have HP := hide hp; have HJK := hide hjk
      clear hO hR hM hW hD hval hY hX hp hjk hMl hin
      by_cases hneg : X < C + p
      · obtain ⟨m, C2, R, f1, d1, m1, m2, c1, hrr, hRl, hs⟩ := take_nums hlk hC hm hneg
        have w3 : IntKind.i64.wrap ((X : Int) - (C : Int) - (p : Int)) = -(m : Int) := by rw [f1]; exact IntWalk.i64_in _ (by omega)
        have HS := hide hs
        have t1 : 0 < m := by omega
        clear f1 hs hneg hm
        go_wp2_with fail
        go_quiet ((go_at_call 70; exact Calls.quiet_of_same (hlim.out _)))
        have D1 := hide d1; have CB := hide c1
        clear w1 w2 w3 hpi hlim
        go_wp2_with fail
        go_roundw
        case rel =>
          refine ⟨k + 1, C2, by omega, by go_num, by rw [D1.out], by have := CB.out; omega, M.set (j + k) R, (HO.out.drewN nq).set _ _, RowAt.set (w := wr.drewN nq) HR.out _ _, lt_set HM.out hRl, HW.out.set (by omega) _, drop_set_next HD.out, ?_⟩
          rw [win_set HJK.out, lvT_succ, lvT_succ, lat_drop, ← HY.out, ← win_keep HD.out, ← HX.out]
          exact take_step HVL.out (by rw [← HP.out]; exact HS.out)
        case measure => simp [intOf]; omega
      · obtain ⟨R, hR2⟩ : ∃ R, R = X - (C + p) := ⟨_, rfl⟩
        have w3 : IntKind.i64.wrap ((X : Int) - (C : Int) - (p : Int)) = (R : Int) := by rw [IntWalk.i64_in _ (by omega)]; omega
        have HS := hide (show R + C + p = X + 1000000000 * 0 by omega)
        have hRl : R < 1000000000 := by omega
        have t1 : ((R : Int) < 0) = False := eq_false (by omega)
        clear hR2 hneg hm
        go_wp2_with fail
        go_quiet ((go_at_call 70; exact Calls.quiet_of_same (hlim.out _)))
        clear w1 w2 w3 hpi hlim
        go_wp2_with fail
        go_roundw
        case rel =>
          refine ⟨k + 1, 0, by omega, by go_num, rfl, by omega, M.set (j + k) R, (HO.out.drewN nq).set _ _, RowAt.set (w := wr.drewN nq) HR.out _ _, lt_set HM.out hRl, HW.out.set (by omega) _, drop_set_next HD.out, ?_⟩
          rw [win_set HJK.out, lvT_succ, lvT_succ, lat_drop, ← HY.out, ← win_keep HD.out, ← HX.out]
          exact take_step HVL.out (by rw [← HP.out]; exact HS.out)
        case measure => simp [intOf]; omega
    · obtain rfl : k = n + 1 := by omega
      have e4 : ¬ (((n + 1 : Nat) : Int) < (n : Int) + 1) := by omega
      have HF := hide (show ∃ M : List Nat, Only g w wr ∧ RowAt wr g c M ∧ Lt 1000000000 M ∧ WinEq j (n + 1) L M ∧ lvT 1000000000 (M.drop j) (n + 1) + q * lv 1000000000 V = lvT 1000000000 (L.drop j) (n + 1) + 1000000000 ^ (n + 1) * C from ⟨M, hO, hR, hM, hW, by rw [lvT_all (l := V) (by have := HNV.out; omega)] at hval; exact hval⟩)
      clear hO hR hM hW hD hval hin
      go_wp2_with fail
      go_ret
      obtain ⟨M, f1, f2, f3, f4, f5⟩ := HF.out
      exact ⟨C, M, rfl, f1, f2, f3, f4, f5⟩
theorem rest_nums {X C p : Nat} (hX : X < 1000000000) (hC : C < 1000000000) (hp : p ≤ 999999998000000001) :
    ∃ t C2 R : Nat, (X : Int) + (p : Int) + (C : Int) = (t : Int) ∧ IntKind.i64.wrap ((X : Int) + (p : Int)) = (X : Int) + (p : Int) ∧ IntKind.i64.wrap ((X : Int) + (p : Int) + (C : Int)) = (t : Int) ∧ (t : Int) / 1000000000 = (C2 : Int) ∧ (t : Int) % 1000000000 = (R : Int) ∧ t ≤ 1000000000000000000 ∧ C2 < 1000000000 ∧ R < 1000000000 ∧ X + p + C = R + 1000000000 * C2 := by
  have h1 := Nat.div_add_mod (X + p + C) 1000000000
  have h2 := Nat.mod_lt (X + p + C) (show 0 < 1000000000 by omega)
  refine ⟨X + p + C, (X + p + C) / 1000000000, (X + p + C) % 1000000000, by omega, IntWalk.i64_in _ (by omega), ?_, by omega, by omega, by omega, by omega, h2, by omega⟩
  rw [IntWalk.i64_in _ (by omega)]
  omega
set_option maxRecDepth 100000 in
set_option maxHeartbeats 4000000 in
theorem restore_any (g c : Nat) (L : List Nat) (gv cv : Nat) (V : List Nat) (j q : Nat) (w : World) (hL : RowAt w g c L) (hV : RowAt w gv cv V) (hne : gv ≠ g) (hl : Lt 1000000000 L) (hv : Lt 1000000000 V) (hj : j + V.length + 1 ≤ L.length) (hq : q < 1000000000) (lL : L.length ≤ 200000) :
    Calls Tryz.prog 77 #[.slice (some ⟨g, 0, none⟩) L.length c, .slice (some ⟨gv, 0, none⟩) V.length cv, .int .i64 j, .int .i64 q] w (RestRes g c L V j q V.length L.length w) := by
  obtain ⟨N, hN⟩ : ∃ N, N = L.length := ⟨_, rfl⟩
  obtain ⟨n, hn⟩ : ∃ n, n = V.length := ⟨_, rfl⟩
  have HV := hide hV; have HL := hide hL; have LV := hide hv; have LL := hide hl; have HN := hide hN; have HNV := hide hn
  rw [← hN] at hj lL ⊢
  rw [← hn] at hj ⊢
  have hne2 := hide hne
  clear hV hL hv hl hN hn hne
  go_enter Tryz.func77, Tryz.ntmps77
  go_wp2_with fail
  go_loopw [9, 15] (fun cc i wr => ∃ (k C : Nat), k ≤ n + 1 ∧ i = .int .i64 k ∧ cc = .int .i64 C ∧ C < 1000000000 ∧ Hid (∃ M : List Nat, Only g w wr ∧ RowAt wr g c M ∧ Lt 1000000000 M ∧ WinEq j (n + 1) L M ∧ M.drop (j + k) = L.drop (j + k) ∧ lvT 1000000000 (M.drop j) k + 1000000000 ^ k * C = lvT 1000000000 (L.drop j) k + q * lvT 1000000000 V k)) (fun _ i _ => n + 1 - (intOf i).toNat)
  case atStart =>
    refine ⟨0, 0, Nat.zero_le _, rfl, rfl, by omega, L, Only.refl _ _, HL.out, LL.out, WinEq.refl _ _ _, rfl, ?_⟩
    show 0 + 1000000000 ^ 0 * 0 = 0 + q * 0
    rw [Nat.mul_zero, Nat.mul_zero]
  case round =>
    obtain ⟨k, C, hk, rfl, rfl, hC, hin⟩ := hrel
    obtain ⟨M, hO, hR, hM, hW, hD, hval⟩ := hin.out
    by_cases hlt : k < n + 1
    · have e4 : (k : Int) < (n : Int) + 1 := by omega
      have hMl : M.length = N := hW.len.trans HN.out.symm
      have hjk : j + k < M.length := by omega
      have q1 := hR.cell hjk
      have q2 := hR.froz (j + k)
      have hlk := lat_lt (by omega) hM (j + k)
      have hyk := lat_lt (by omega) LV.out k
      have hlim := hide (fun m : Nat => limb_same (.slice (some ⟨gv, 0, none⟩) n cv) V k wr.heap.size (wr.drewN m) (by rw [HNV.out]; exact (RowAt.limbs (w := wr.drewN m) (HV.out.only (hO.drewN m) hne2.out))) (by omega))
      obtain ⟨Y, hY⟩ : ∃ Y, Y = lat V k := ⟨_, rfl⟩
      obtain ⟨X, hX⟩ : ∃ X, X = lat M (j + k) := ⟨_, rfl⟩
      rw [← hY] at hyk hlim
      rw [← hX] at hlk q1
      have hm := mul_lt_sq hq hyk
      obtain ⟨p, hp⟩ : ∃ p, p = q * Y := ⟨_, rfl⟩
      have hpi : (q : Int) * (Y : Int) = (p : Int) := by rw [hp, Int.natCast_mul]
      rw [← hp] at hm
      have w0 : IntKind.i64.wrap ((j : Int) + (k : Int)) = (j : Int) + (k : Int) := IntWalk.i64_in _ (by omega)
      have w2 : IntKind.i64.wrap (p : Int) = (p : Int) := IntWalk.i64_in _ (by omega)
      obtain ⟨t, C2, R, -, w1, w3, d1, d2, ht, hC2, hRl, hs⟩ := rest_nums hlk hC hm
      have j0 : (0 : Int) ≤ (j : Int) + (k : Int) := by omega
      have j1 : (j : Int) + (k : Int) < (N : Int) := by omega
      have j2 : ((j : Int) + (k : Int)).toNat = j + k := by omega
      have HO := hide hO; have HR := hide hR; have HM := hide hM; have HW := hide hW; have HD := hide hD; have HVL := hide hval; have HY := hide hY; have HX := hide hX; have HP := hide hp; have HJK := hide hjk; have HS := hide hs
      clear hO hR hM hW hD hval hY hX hp hjk hMl hin hs hm
      go_wp2_with fail
      go_quiet ((go_at_call 70; exact Calls.quiet_of_same (hlim.out _)))
      clear w1 w2 w3 hpi hlim
      go_wp2_with fail
      go_roundw
      case rel =>
        refine ⟨k + 1, C2, by omega, by go_num, by first | rfl | rw [d1], hC2, M.set (j + k) R, (HO.out.drewN nq).set _ _, RowAt.set (w := wr.drewN nq) HR.out _ _, lt_set HM.out hRl, HW.out.set (by omega) _, drop_set_next HD.out, ?_⟩
        rw [win_set HJK.out, lvT_succ, lvT_succ, lat_drop, ← HY.out, ← win_keep HD.out, ← HX.out]
        exact rest_step HVL.out (by rw [← HP.out]; exact HS.out)
      case measure => simp [intOf]; omega
    · obtain rfl : k = n + 1 := by omega
      have e4 : ¬ (((n + 1 : Nat) : Int) < (n : Int) + 1) := by omega
      have HF := hide (show ∃ M : List Nat, Only g w wr ∧ RowAt wr g c M ∧ Lt 1000000000 M ∧ WinEq j (n + 1) L M ∧ lvT 1000000000 (M.drop j) (n + 1) + 1000000000 ^ (n + 1) * C = lvT 1000000000 (L.drop j) (n + 1) + q * lv 1000000000 V from ⟨M, hO, hR, hM, hW, by rw [lvT_all (l := V) (by have := HNV.out; omega)] at hval; exact hval⟩)
      clear hO hR hM hW hD hval hin
      go_wp2_with fail
      go_ret
      obtain ⟨M, f1, f2, f3, f4, f5⟩ := HF.out
      exact ⟨C, M, rfl, f1, f2, f3, f4, f5⟩
/-- What estimate returns. -/
def EstRes (S W : Nat) (w : World) (e : Ending) (w' : World) : Prop := ∃ q : Nat, e = .returned (.int .i64 q) ∧ q < 1000000000 ∧ S < (q + 1) * W ∧ Below w.heap.size w w'
theorem est_nums {x0 x1 : Nat} (h0 : x0 < 1000000000) (h1 : x1 < 1000000000) : ((x0 : Int) * 1000000000 + (x1 : Int) = ((x0 * 1000000000 + x1 : Nat) : Int)) ∧ x0 * 1000000000 + x1 < 1000000000000000000 := by omega
set_option maxRecDepth 100000 in
set_option maxHeartbeats 4000000 in
theorem estimate_any (g c : Nat) (L : List Nat) (gv cv : Nat) (V : List Nat) (j m : Nat) (w : World) (hL : RowAt w g c L) (hV : RowAt w gv cv V) (hl : Lt 1000000000 L) (hv : Norm 1000000000 V) (hm : V.length = m + 2) (hj : j + (m + 2) < L.length) (lL : L.length ≤ 200000) (hs : lv 1000000000 (L.drop (j + 1)) < lv 1000000000 V) :
    Calls Tryz.prog 75 #[.slice (some ⟨g, 0, none⟩) L.length c, .slice (some ⟨gv, 0, none⟩) V.length cv, .int .i64 j] w (EstRes (lvT 1000000000 (L.drop j) (m + 3)) (lv 1000000000 V) w) := by
  have HI := hide (EstIn.of (by omega) hl hv hm hj hs).1
  have c0 := hide (fun w' (hb : Below w.heap.size w w') => (hL.below hb hL.lt).cell (i := j + (m + 2)) hj)
  have c1 := hide (fun w' (hb : Below w.heap.size w w') => (hL.below hb hL.lt).cell (i := j + (m + 1)) (by omega))
  have c2 := hide (fun w' (hb : Below w.heap.size w w') => (hL.below hb hL.lt).cell (i := j + m) (by omega))
  have d1 := hide (fun w' (hb : Below w.heap.size w w') => (hV.below hb hV.lt).cell (i := m + 1) (by omega))
  have d2 := hide (fun w' (hb : Below w.heap.size w w') => (hV.below hb hV.lt).cell (i := m) (by omega))
  obtain ⟨x0, hx0⟩ : ∃ x, x = lat L (j + (m + 2)) := ⟨_, rfl⟩
  obtain ⟨x1, hx1⟩ : ∃ x, x = lat L (j + (m + 1)) := ⟨_, rfl⟩
  obtain ⟨u0, hu0⟩ : ∃ x, x = lat L (j + m) := ⟨_, rfl⟩
  obtain ⟨v1, hv1⟩ : ∃ x, x = lat V (m + 1) := ⟨_, rfl⟩
  obtain ⟨v2, hv2⟩ : ∃ x, x = lat V m := ⟨_, rfl⟩
  have b0 : x0 < 1000000000 := by rw [hx0]; exact lat_lt (by omega) hl _
  have b1 : x1 < 1000000000 := by rw [hx1]; exact lat_lt (by omega) hl _
  have b2 : u0 < 1000000000 := by rw [hu0]; exact lat_lt (by omega) hl _
  have b3 : v1 < 1000000000 := by rw [hv1]; exact lat_lt (by omega) hv.lt _
  have b4 : v2 < 1000000000 := by rw [hv2]; exact lat_lt (by omega) hv.lt _
  rw [← hx0, ← hx1, ← hu0, ← hv1, ← hv2] at HI
  rw [← hx0] at c0
  rw [← hx1] at c1
  rw [← hu0] at c2
  rw [← hv1] at d1
  rw [← hv2] at d2
  obtain ⟨N, hN⟩ : ∃ N, N = L.length := ⟨_, rfl⟩
  rw [← hN] at hj lL ⊢
  rw [hm]
  obtain ⟨S, hS⟩ : ∃ S, S = lvT 1000000000 (L.drop j) (m + 3) := ⟨_, rfl⟩
  obtain ⟨W, hW⟩ : ∃ W, W = lv 1000000000 V := ⟨_, rfl⟩
  rw [← hS, ← hW] at HI ⊢
  have hvp : 0 < v1 := HI.out.pos
  have hst := HI.out.start
  obtain ⟨eT, hTl⟩ := est_nums b0 b1
  obtain ⟨T, hT⟩ : ∃ T, T = x0 * 1000000000 + x1 := ⟨_, rfl⟩
  have HDn := hide (fun q r => HI.out.down (q := q) (r := r))
  have HSt := hide (fun q r => HI.out.stop (q := q) (r := r))
  rw [← hT] at hst eT hTl HDn HSt
  obtain ⟨q0, hq0⟩ : ∃ q, q = T / v1 := ⟨_, rfl⟩
  obtain ⟨r0, hr0⟩ : ∃ r, r = T % v1 := ⟨_, rfl⟩
  have hrl : r0 < v1 := by rw [hr0]; exact Nat.mod_lt _ hvp
  have eq0 : (T : Int) / (v1 : Int) = (q0 : Int) := by rw [hq0, Int.natCast_ediv]
  have er0 : (T : Int) % (v1 : Int) = (r0 : Int) := by rw [hr0, Int.natCast_emod]
  rw [← hq0, ← hr0] at hst
  obtain ⟨hst, hq0l⟩ := hst
  have HS0 := hide hst
  have hv0 : ((v1 : Int) == 0) = false := by
    have : (v1 : Int) ≠ 0 := by omega
    simpa using this
  obtain ⟨a0, ha0⟩ : ∃ a : Nat, a = j + (m + 2) := ⟨_, rfl⟩
  obtain ⟨a1, ha1⟩ : ∃ a : Nat, a = j + (m + 1) := ⟨_, rfl⟩
  obtain ⟨a2, ha2⟩ : ∃ a : Nat, a = j + m := ⟨_, rfl⟩
  obtain ⟨n, hn⟩ : ∃ n : Nat, n = m + 2 := ⟨_, rfl⟩
  obtain ⟨b, hb⟩ : ∃ b : Nat, b = m + 1 := ⟨_, rfl⟩
  rw [← ha0] at c0 hj
  rw [← ha1] at c1
  rw [← ha2] at c2
  rw [← hb] at d1
  rw [← hn]
  have e0 : (j : Int) + (n : Int) = (a0 : Int) := by omega
  have e1 : (a0 : Int) - 1 = (a1 : Int) := by omega
  have e2 : (a0 : Int) - 2 = (a2 : Int) := by omega
  have e3 : (n : Int) - 1 = (b : Int) := by omega
  have e4 : (n : Int) - 2 = (m : Int) := by omega
  have f0 : (a0 : Int) < (N : Int) := by omega
  have f1 : (a1 : Int) < (N : Int) := by omega
  have f2 : (a2 : Int) < (N : Int) := by omega
  have f3 : (b : Int) < (n : Int) := by omega
  have f4 : (m : Int) < (n : Int) := by omega
  have f5 : (n : Int) ≤ 200000 := by omega
  have hvp2 : (0 : Int) < (v1 : Int) := by omega
  clear hL hV hl hv hm hs hx0 hx1 hu0 hv1 hv2 hN hS hW hT hq0 hr0 hst ha0 ha1 ha2 hn hb
  have q1 := c0.out w (Below.refl _ _)
  have q2 := c1.out w (Below.refl _ _)
  have q3 := d1.out w (Below.refl _ _)
  go_enter Tryz.func75, Tryz.ntmps75
  go_wp2_with fail
  go_quiet (fail)
  have HB1 := hide (below_drewN (Below.refl w.heap.size w) nq)
  go_wp2_with fail
  go_quiet (fail)
  have HB2 := hide (below_drewN HB1.out nq)
  clear HB1
  go_wp2_with fail
  go_loopw [9, 10] (fun qq rr wr => ∃ q r : Nat, qq = .int .i64 q ∧ rr = .int .i64 r ∧ r < 1000000000 ∧ q < 2000000000 ∧ Hid (EstAt v1 T S W q r ∧ Below w.heap.size w wr)) (fun qq _ _ => (intOf qq).toNat)
  case atStart => exact ⟨q0, r0, rfl, by rw [er0], by omega, by omega, HS0.out, HB2.out⟩
  case round =>
    obtain ⟨q, r, rfl, rfl, hr, hq, hin⟩ := hrel
    have HA := hide hin.out.1; have HB := hide hin.out.2
    clear hin
    have q3 := d1.out wr HB.out
    have q4 := d2.out wr HB.out
    have q5 := c2.out wr HB.out
    by_cases hge : 1000000000 ≤ q
    · have g1 : (1000000000 : Int) ≤ (q : Int) := by omega
      go_wp2_with fail
      go_quiet (fail)
      have HB := hide (below_drewN HB.out nq)
      go_wp2_with fail
      have hq1 : 1 ≤ q := by omega
      have HA2 := hide (HDn.out q r HA.out (.inl hge) hq1)
      have hqi : (1 : Int) ≤ (q : Int) := by omega
      have w5 : (q : Int) - 1 = ((q - 1 : Nat) : Int) := by omega
      obtain ⟨q2, hq2⟩ : ∃ q2, q2 = q - 1 := ⟨_, rfl⟩
      rw [← hq2] at HA2 w5
      have hql2 : q2 < q := by omega
      obtain ⟨r2, hr2⟩ : ∃ r2, r2 = r + v1 := ⟨_, rfl⟩
      rw [← hr2] at HA2
      have w6 : (r : Int) + (v1 : Int) = (r2 : Int) := by omega
      have hrl2 : r2 < 2000000000 := by omega
      clear hq2 hr2
      by_cases hb : 1000000000 ≤ r2
      · have g3 : (1000000000 : Int) ≤ (r2 : Int) := by omega
        have HX := hide (HSt.out q2 r2 HA2.out hb)
        clear hb
        go_wp2_with fail
        go_quiet (fail)
        have HB := hide (below_drewN HB.out nq)
        go_wp2_with fail
        go_ret
        exact ⟨q2, by first | rfl | rw [w5], HX.out, HA2.out.2, HB.out.os, HB.out.tape, HB.out.output, HB.out.size, HB.out.block⟩
      · have g3 : ((1000000000 : Int) ≤ (r2 : Int)) = False := eq_false (by omega)
        go_wp2_with fail
        go_quiet (fail)
        have HB := hide (below_drewN HB.out nq)
        go_wp2_with fail
        go_roundw
        case rel => exact ⟨q2, r2, by first | rfl | rw [w5], by first | rfl | rw [w6], by omega, by omega, HA2.out, HB.out.os, HB.out.tape, HB.out.output, HB.out.size, HB.out.block⟩
        case measure => simp [intOf]; omega
    · have g1 : ((1000000000 : Int) ≤ (q : Int)) = False := eq_false (by omega)
      have g2 : (r : Int) < 1000000000 := by omega
      have hpm := mul_lt_sq (x := q) (y := v2) (by omega) b4
      obtain ⟨p, hp⟩ : ∃ p, p = q * v2 := ⟨_, rfl⟩
      have hpi : (q : Int) * (v2 : Int) = (p : Int) := by rw [hp, Int.natCast_mul]
      have HP := hide hp
      rw [← hp] at hpm
      by_cases hc : r * 1000000000 + u0 < p
      · have g4 : (r : Int) * 1000000000 + (u0 : Int) < (p : Int) := by omega
        clear hp
        go_wp2_with fail
        go_quiet (fail)
        have HB := hide (below_drewN HB.out nq)
        go_wp2_with fail
        have hq1 : 1 ≤ q := by rcases Nat.eq_zero_or_pos q with h0 | h0; exact absurd hc (by rw [HP.out, h0, Nat.zero_mul]; omega); exact h0
        have HA2 := hide (HDn.out q r HA.out (.inr (by rw [← HP.out]; exact hc)) hq1)
        have hqi : (1 : Int) ≤ (q : Int) := by omega
        have w5 : (q : Int) - 1 = ((q - 1 : Nat) : Int) := by omega
        obtain ⟨q2, hq2⟩ : ∃ q2, q2 = q - 1 := ⟨_, rfl⟩
        rw [← hq2] at HA2 w5
        have hql2 : q2 < q := by omega
        obtain ⟨r2, hr2⟩ : ∃ r2, r2 = r + v1 := ⟨_, rfl⟩
        rw [← hr2] at HA2
        have w6 : (r : Int) + (v1 : Int) = (r2 : Int) := by omega
        have hrl2 : r2 < 2000000000 := by omega
        clear hq2 hr2
        by_cases hb : 1000000000 ≤ r2
        · have g3 : (1000000000 : Int) ≤ (r2 : Int) := by omega
          have HX := hide (HSt.out q2 r2 HA2.out hb)
          clear hb
          go_wp2_with fail
          go_quiet (fail)
          have HB := hide (below_drewN HB.out nq)
          go_wp2_with fail
          go_ret
          exact ⟨q2, by first | rfl | rw [w5], HX.out, HA2.out.2, HB.out.os, HB.out.tape, HB.out.output, HB.out.size, HB.out.block⟩
        · have g3 : ((1000000000 : Int) ≤ (r2 : Int)) = False := eq_false (by omega)
          go_wp2_with fail
          go_quiet (fail)
          have HB := hide (below_drewN HB.out nq)
          go_wp2_with fail
          go_roundw
          case rel => exact ⟨q2, r2, by first | rfl | rw [w5], by first | rfl | rw [w6], by omega, by omega, HA2.out, HB.out.os, HB.out.tape, HB.out.output, HB.out.size, HB.out.block⟩
          case measure => simp [intOf]; omega
      · have g4 : ((r : Int) * 1000000000 + (u0 : Int) < (p : Int)) = False := eq_false (by omega)
        clear hp
        go_wp2_with fail
        go_quiet (fail)
        have HB := hide (below_drewN HB.out nq)
        go_wp2_with fail
        go_ret
        exact ⟨q, rfl, by omega, HA.out.2, HB.out⟩
end Go.Proofs.YthkioajalhglfaaGreatDoor
