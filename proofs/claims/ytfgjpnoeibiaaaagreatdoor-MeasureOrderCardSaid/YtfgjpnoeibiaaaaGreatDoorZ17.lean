/-
  Texts of the integers, laid together: Uh.
-/
import Derived.Test.YtfgjpnoeibiaaaaGreatDoorZ16
namespace Go.KI
open Go
/-- A twelfth of an inch. -/
def qTw : Rat := ⟨127, 60, by decide, by decide⟩
theorem qTw_eq : qTw = 127 / 60 := by decide +kernel
theorem qTw_pos : 0 < qTw := by decide
theorem sz_qTw : sz 30 qTw := ⟨by decide, by decide⟩
theorem qTw_ne : qTw ≠ 0 := by decide
theorem feetQ_V (l : List UInt8) : feetQ l = (feetV l : Rat) * qTw := by
  have hv : feetV l = (if isNeg l then -1 else 1) * ((feetM l : Nat) : Int) := rfl
  have e : (((feetM l * 127 : Nat) : Rat) / ((60 : Nat) : Rat)) = ((feetM l : Nat) : Rat) * qTw := by
    rw [Rat.natCast_mul, qTw_eq, show ((127 : Nat) : Rat) = 127 from rfl, show ((60 : Nat) : Rat) = 60 from rfl, Rat.div_def, Rat.div_def, Rat.mul_assoc]
  unfold feetQ sgn
  rw [hv, e]
  cases isNeg l with
  | true =>
    simp only [if_true]
    rw [Int.neg_mul, Int.one_mul, Rat.intCast_neg, Rat.neg_mul]
    rfl
  | false =>
    simp only [Bool.false_eq_true, if_false]
    rw [Int.one_mul]
    rfl
theorem tw_divInt (m : Int) : (m : Rat) * qTw = Rat.divInt (m * 127) 60 := by
  rw [Rat.divInt_eq_div, qTw_eq, Rat.intCast_mul, show ((127 : Int) : Rat) = 127 from rfl, show ((60 : Int) : Rat) = 60 from rfl, Rat.div_def, Rat.div_def, Rat.mul_assoc]
theorem sz_tw {m : Int} {p : Nat} (h : m.natAbs < 10 ^ p) (hp : 0 < p) : sz (p + 3) ((m : Rat) * qTw) := by
  rw [tw_divInt]
  have h1 : 10 ^ 1 ≤ 10 ^ p := Nat.pow_le_pow_right (by omega) hp
  have h2 : 10 ^ (p + 3) = 1000 * 10 ^ p := by rw [Nat.pow_add, Nat.mul_comm]
  refine divInt_sz (by decide) ?_ ?_
  · rw [Int.natAbs_mul, show (127 : Int).natAbs = 127 from rfl]
    omega
  · show 60 < 10 ^ (p + 3)
    omega
theorem feetT_len (m : Int) {k : Nat} (hk : 1 ≤ k) (h : m.natAbs < 10 ^ k) : (feetT m).length ≤ k + 8 := by
  have h1 : (Lib.decDigits (m.natAbs / 144)).length ≤ k := (dec_len_le hk).2 (Nat.lt_of_le_of_lt (Nat.div_le_self _ _) h)
  have h2 : (Lib.decDigits (m.natAbs % 144 / 12)).length ≤ 2 := (dec_len_le (by omega)).2 (by omega)
  have h3 : (Lib.decDigits (m.natAbs % 144 % 12)).length ≤ 2 := (dec_len_le (by omega)).2 (by omega)
  have h4 : (if decide (m < 0) then [45] else [] : List UInt8).length ≤ 1 := by split <;> simp
  unfold feetT
  simp only [List.length_append, List.length_cons]
  omega
/-- A text's twelfths are few. -/
theorem feetV_lt {l : List UInt8} (h : feetOK l) {k : Nat} (hl : l.length ≤ k) : (feetV l).natAbs < 10 ^ (k + 3) := by
  have hv : feetV l = (if isNeg l then -1 else 1) * ((feetM l : Nat) : Int) := rfl
  have e : (feetV l).natAbs = feetM l := by
    rw [hv]
    cases isNeg l <;> simp
  rw [e]
  obtain ⟨_, _, h3, h4, h5, _⟩ := h
  obtain ⟨_, b4⟩ := smallT_dec h4
  obtain ⟨_, b5⟩ := smallT_dec h5
  have h6 : dv (ahead 39 (digs l)) < 10 ^ k := by
    refine Nat.lt_of_lt_of_le (dv_lt _ (List.all_eq_true.1 h3.2.1)) (Nat.pow_le_pow_right (by omega) ?_)
    have a1 : (ahead 39 (digs l)).length ≤ (digs l).length := List.Sublist.length_le (List.takeWhile_sublist _)
    have a2 : (digs l).length ≤ l.length := by
      cases l with
      | nil => exact Nat.le_refl _
      | cons c r =>
        simp only [digs]
        split <;> simp
    omega
  have h7 : 10 ^ (k + 3) = 1000 * 10 ^ k := by rw [Nat.pow_add, Nat.mul_comm]
  unfold feetM
  omega
end Go.KI
namespace Go.Proofs.YtfgjpnoeibiaaaaGreatDoor
open Go.RowKit Go.KP Go.KI Go.Shelf
attribute [local go_sem] Oper.semAt_some

theorem twelfths_tw (m : Int) : twelfths ((m : Rat) * qTw) = m := by
  obtain ⟨q, hq⟩ : ∃ q, q = (m : Rat) * qTw := ⟨_, rfl⟩
  rw [← hq]
  have dp := q.den_pos
  have h : q.num * 60 = m * 127 * (q.den : Int) := by
    have h1 := hq
    rw [tw_divInt, ← Rat.num_divInt_den q] at h1
    exact (Rat.divInt_eq_divInt_iff (den_ne q) (by decide)).1 h1
  unfold twelfths
  rw [h, Int.mul_assoc, Int.mul_comm 127]
  exact near2_mul m (by omega)
theorem tw_quo (q : Rat) : ((q.num * 60 : Int) : Rat) / (((q.den : Int) * 127 : Int) : Rat) = q / qTw := by
  have h1 := rat_parts q
  have hd : ((q.den : Nat) : Rat) ≠ 0 := by
    intro e
    have := congrArg Rat.num e
    have h3 : ((q.den : Nat) : Int) = 0 := this
    exact den_ne q h3
  rw [qTw_eq, Rat.intCast_mul, Rat.intCast_mul, show ((60 : Int) : Rat) = 60 from rfl, show ((127 : Int) : Rat) = 127 from rfl, show (((q.den : Nat) : Int) : Rat) = ((q.den : Nat) : Rat) from rfl]
  generalize ((q.den : Nat) : Rat) = D at h1 hd ⊢
  generalize (q.num : Rat) = M at h1 ⊢
  rw [← h1]
  grind
theorem ratS_tw : (⟨#[49, 50, 55, 47, 54, 48]⟩ : ByteArray).data.toList = ratS qTw := by
  unfold ratS
  rw [if_neg (by decide), show qTw.num = ((127 : Nat) : Int) from rfl, Lib.itoa_nonneg, dec_lit (l := [49, 50, 55]) (by decide) (by decide) (by decide) (u := 127) rfl, show qTw.den = 60 from rfl, dec_lit (l := [54, 48]) (by decide) (by decide) (by decide) (u := 60) rfl]
  rfl
/-- The twelfths of a short number. -/
theorem tw_short {q : Rat} (h : sz 30 q) : (twelfths q).natAbs < 10 ^ 34 := by
  have dp := q.den_pos
  have h1 := near2_abs (n := q.num * 60) (d := (q.den : Int) * 127) (by omega)
  have h2 := h.1
  have e : (10 : Nat) ^ 34 = 10000 * 10 ^ 30 := by rw [show 34 = 30 + 4 from rfl, Nat.pow_add, Nat.mul_comm]
  unfold twelfths
  omega
set_option maxRecDepth 100000 in
set_option maxHeartbeats 8000000 in
theorem lawFeet_any (s t : ByteArray) (B : Nat) (w : World) (hB : B ≤ w.heap.size) (hT : PQ B w) :
    Calls Tryz.prog 10 #[.string s, .string t] w (Ret w (.bool true)) := by
  have HT := hide hT
  have HFI := hide (fun b hb => mfine_any s b hb B w hB hT)
  have HAW := hide (fun w hB hT => mawake_any B w hB hT)
  by_cases hf : fineQ s.data.toList
  · have HF := hide (HFI.out true (by simpa using hf))
    by_cases h60 : 60 < t.size
    · have h60i : (60 : Int) < (t.size : Int) := by omega
      clear hf hT HFI h60
      go_enter Tryz.func10, Tryz.ntmps10
      go_wp2_with fail
      refine HF.out.mono ?_
      rintro e w1 ⟨rfl, hb1⟩
      have HB1 := hide hb1
      clear hb1
      go_wp2_with fail
      refine (HAW.out _ (Nat.le_trans hB HB1.out.size) (HT.out.on HB1.out hB)).mono ?_
      rintro e w2 ⟨rfl, hb2⟩
      have HB2 := hide (HB1.out.trans (hb2.mono HB1.out.size))
      clear hb2
      go_wp2_with fail
      go_ret
      exact ⟨rfl, HB2.out⟩
    · have h60i : ((60 : Int) < (t.size : Int)) = False := eq_false (by omega)
      obtain ⟨h1, h2⟩ := fine_num hf
      obtain ⟨q, hq⟩ : ∃ q, q = valQ s.data.toList := ⟨_, rfl⟩
      rw [← hq] at h1 h2
      have s9 := sz_30_90 h2
      have HFE := hide (fun w hB hT => mFeet_to h1 s9 B w hB hT)
      have hts := tw_short h2
      have dp := q.den_pos
      obtain ⟨n1, n2⟩ := unit_near q qTw_pos (n := q.num * 60) (d := (q.den : Int) * 127) (by omega) (tw_quo q)
      rw [show near2 (q.num * 60) ((q.den : Int) * 127) = twelfths q from rfl] at n1 n2
      obtain ⟨M, hM⟩ : ∃ M, M = twelfths q := ⟨_, rfl⟩
      rw [← hM] at HFE hts n1 n2
      obtain ⟨ok, ov⟩ := feetT_ok M
      have hfl := feetT_len M (k := 34) (by omega) hts
      have HPF := hide (fun w hB hT => mParseFeet_to (s := strB (feetT M)) (q := (M : Rat) * qTw) (by rw [strB_list]; exact ok) (by rw [strB_size]; omega) (by rw [strB_list, feetQ_V, ov]) B w hB hT)
      have z1 := sz_tw hts (by omega)
      have m3 : ∀ k : Nat, k ≤ 300 → k ≤ most := fun k h => by rw [most_eq]; exact h
      have HDI := hide (fun w hB hT => qdiv_to (s := strB (ratS ((M : Rat) * qTw))) (strB_list _) ratS_tw (fq z1 (by omega)) (fq sz_qTw (by omega)) qTw_ne (cmpC_of z1 sz_qTw (m3 _ (by omega))) B w hB hT)
      have hMq : (M : Rat) * qTw / qTw = (M : Rat) := by rw [Rat.div_def, Rat.mul_assoc, Rat.mul_inv_cancel _ qTw_ne, Rat.mul_one]
      rw [hMq] at HDI
      have zM : sz 34 ((M : Int) : Rat) := ⟨by rw [Rat.num_intCast]; exact hts, by rw [Rat.den_intCast]; omega⟩
      have HFL := hide (fun w hB hT => qfloor_to (s := strB (ratS ((M : Int) : Rat))) (strB_list _) (fq zM (by omega)) B w hB hT)
      rw [Rat.floor_intCast] at HFL
      have HNE := hide (fun w hB hT => near_any (s := strB (ratS ((M : Rat) * qTw))) (t := s) (v := ⟨#[49, 50, 55, 47, 54, 48]⟩) (strB_list _) h1 ratS_tw (sz_mono z1 (by omega)) h2 sz_qTw n1 n2 B w hB hT)
      obtain ⟨F, hF⟩ : ∃ D, D = strB (feetT M) := ⟨_, rfl⟩
      obtain ⟨Y, hY⟩ : ∃ D, D = strB (ratS ((M : Rat) * qTw)) := ⟨_, rfl⟩
      obtain ⟨Z, hZ⟩ : ∃ D, D = strB (ratS ((M : Int) : Rat)) := ⟨_, rfl⟩
      rw [← hF] at HFE
      rw [← hF, ← hY] at HPF
      rw [← hY, ← hZ] at HDI
      rw [← hZ] at HFL
      rw [← hY] at HNE
      have hmx := mx4
      have HPS := hide (fun w hB hT => mParseFeet_any t B w hB hT)
      by_cases hok : feetOK t.data.toList
      · have e0 : feetE t.data.toList = 0 := by unfold feetE; rw [bytes_len, if_neg (by omega), if_pos hok]
        have zt := feetV_lt hok (k := 60) (by rw [bytes_len]; omega)
        have zx := sz_tw zt (by omega)
        rw [e0, show feetR t.data.toList = ratS (feetQ t.data.toList) from if_pos e0, feetQ_V] at HPS
        have HF2 := hide (fun w hB hT => mFeet_to (s := strB (ratS ((feetV t.data.toList : Rat) * qTw))) (strB_list _) (sz_mono zx (by omega)) B w hB hT)
        rw [twelfths_tw, ← feetOK_eq hok, strB_of] at HF2
        obtain ⟨X, hX⟩ : ∃ D, D = strB (ratS ((feetV t.data.toList : Rat) * qTw)) := ⟨_, rfl⟩
        rw [show pairV (ratS ((feetV t.data.toList : Rat) * qTw)) 0 = .tuple #[.string X, .int .i64 0] by rw [hX]] at HPS
        rw [← hX] at HF2
        clear hok e0 zt zx hX h1 h2 hq s9 hts dp n1 n2 hM ok ov hfl z1 m3 hMq zM hF hY hZ hf hT HFI h60
        go_enter Tryz.func10, Tryz.ntmps10
        go_wp2_with fail
        refine HF.out.mono ?_
        rintro e w1 ⟨rfl, hb1⟩
        have HB1 := hide hb1
        clear hb1
        go_wp2_with fail
        refine (HFE.out _ (Nat.le_trans hB HB1.out.size) (HT.out.on HB1.out hB)).mono ?_
        rintro e w2 ⟨rfl, hb2⟩
        have HB2 := hide (HB1.out.trans (hb2.mono HB1.out.size))
        clear hb2
        go_wp2_with fail
        refine (HPF.out _ (Nat.le_trans hB HB2.out.size) (HT.out.on HB2.out hB)).mono ?_
        rintro e w3 ⟨rfl, hb3⟩
        have HB3 := hide (HB2.out.trans (hb3.mono HB2.out.size))
        clear hb3
        go_wp2_with fail
        refine (HDI.out _ (Nat.le_trans hB HB3.out.size) (HT.out.on HB3.out hB)).mono ?_
        rintro e w4 ⟨rfl, hb4⟩
        have HB4 := hide (HB3.out.trans (hb4.mono HB3.out.size))
        clear hb4
        go_wp2_with fail
        refine (HFL.out _ (Nat.le_trans hB HB4.out.size) (HT.out.on HB4.out hB)).mono ?_
        rintro e w5 ⟨rfl, hb5⟩
        have HB5 := hide (HB4.out.trans (hb5.mono HB4.out.size))
        clear hb5
        go_wp2_with fail
        refine (HNE.out _ (Nat.le_trans hB HB5.out.size) (HT.out.on HB5.out hB)).mono ?_
        rintro e w6 ⟨rfl, hb6⟩
        have HB6 := hide (HB5.out.trans (hb6.mono HB5.out.size))
        clear hb6
        go_wp2_with fail
        refine (HPS.out _ (Nat.le_trans hB HB6.out.size) (HT.out.on HB6.out hB)).mono ?_
        rintro e w7 ⟨rfl, hb7⟩
        have HB7 := hide (HB6.out.trans (hb7.mono HB6.out.size))
        clear hb7
        go_wp2_with fail
        refine (HF2.out _ (Nat.le_trans hB HB7.out.size) (HT.out.on HB7.out hB)).mono ?_
        rintro e w8 ⟨rfl, hb8⟩
        have HB8 := hide (HB7.out.trans (hb8.mono HB7.out.size))
        clear hb8
        go_wp2_with fail
        refine (HAW.out _ (Nat.le_trans hB HB8.out.size) (HT.out.on HB8.out hB)).mono ?_
        rintro e w9 ⟨rfl, hb9⟩
        have HB9 := hide (HB8.out.trans (hb9.mono HB8.out.size))
        clear hb9
        go_wp2_with fail
        go_ret
        exact ⟨rfl, HB9.out⟩
      · have e0 : feetE t.data.toList = 3 := by unfold feetE; rw [bytes_len, if_neg (by omega), if_neg hok]
        rw [e0, show feetR t.data.toList = [] by unfold feetR; rw [e0, if_neg (by decide)], pairV_err] at HPS
        clear hok e0 h1 h2 hq s9 hts dp n1 n2 hM ok ov hfl z1 m3 hMq zM hF hY hZ hf hT HFI h60
        go_enter Tryz.func10, Tryz.ntmps10
        go_wp2_with fail
        refine HF.out.mono ?_
        rintro e w1 ⟨rfl, hb1⟩
        have HB1 := hide hb1
        clear hb1
        go_wp2_with fail
        refine (HFE.out _ (Nat.le_trans hB HB1.out.size) (HT.out.on HB1.out hB)).mono ?_
        rintro e w2 ⟨rfl, hb2⟩
        have HB2 := hide (HB1.out.trans (hb2.mono HB1.out.size))
        clear hb2
        go_wp2_with fail
        refine (HPF.out _ (Nat.le_trans hB HB2.out.size) (HT.out.on HB2.out hB)).mono ?_
        rintro e w3 ⟨rfl, hb3⟩
        have HB3 := hide (HB2.out.trans (hb3.mono HB2.out.size))
        clear hb3
        go_wp2_with fail
        refine (HDI.out _ (Nat.le_trans hB HB3.out.size) (HT.out.on HB3.out hB)).mono ?_
        rintro e w4 ⟨rfl, hb4⟩
        have HB4 := hide (HB3.out.trans (hb4.mono HB3.out.size))
        clear hb4
        go_wp2_with fail
        refine (HFL.out _ (Nat.le_trans hB HB4.out.size) (HT.out.on HB4.out hB)).mono ?_
        rintro e w5 ⟨rfl, hb5⟩
        have HB5 := hide (HB4.out.trans (hb5.mono HB4.out.size))
        clear hb5
        go_wp2_with fail
        refine (HNE.out _ (Nat.le_trans hB HB5.out.size) (HT.out.on HB5.out hB)).mono ?_
        rintro e w6 ⟨rfl, hb6⟩
        have HB6 := hide (HB5.out.trans (hb6.mono HB5.out.size))
        clear hb6
        go_wp2_with fail
        refine (HPS.out _ (Nat.le_trans hB HB6.out.size) (HT.out.on HB6.out hB)).mono ?_
        rintro e w7 ⟨rfl, hb7⟩
        have HB7 := hide (HB6.out.trans (hb7.mono HB6.out.size))
        clear hb7
        go_wp2_with fail
        refine (HAW.out _ (Nat.le_trans hB HB7.out.size) (HT.out.on HB7.out hB)).mono ?_
        rintro e w8 ⟨rfl, hb8⟩
        have HB8 := hide (HB7.out.trans (hb8.mono HB7.out.size))
        clear hb8
        go_wp2_with fail
        go_ret
        exact ⟨rfl, HB8.out⟩
  · have HF := hide (HFI.out false (by simpa using hf))
    clear hf hT HFI
    go_enter Tryz.func10, Tryz.ntmps10
    go_wp2_with fail
    refine HF.out.mono ?_
    rintro e w1 ⟨rfl, hb1⟩
    have HB1 := hide hb1
    clear hb1
    go_wp2_with fail
    refine (HAW.out _ (Nat.le_trans hB HB1.out.size) (HT.out.on HB1.out hB)).mono ?_
    rintro e w2 ⟨rfl, hb2⟩
    have HB2 := hide (HB1.out.trans (hb2.mono HB1.out.size))
    clear hb2
    go_wp2_with fail
    go_ret
    exact ⟨rfl, HB2.out⟩
end Go.Proofs.YtfgjpnoeibiaaaaGreatDoor
