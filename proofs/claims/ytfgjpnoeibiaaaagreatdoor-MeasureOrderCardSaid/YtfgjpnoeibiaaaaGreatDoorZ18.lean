/-
  Texts of the integers, laid together: Ui.
-/
import Derived.Test.YtfgjpnoeibiaaaaGreatDoorZ17
namespace Go.KI
open Go
/-- Nearest multiples of a unit keep the order. -/
theorem near_mono {q1 q2 u : Rat} (hu : 0 < u) {m1 m2 : Int} (h : q1 ≤ q2) (a1 : (m1 : Rat) * u - q1 ≤ u / 2) (b2 : -(u / 2) < (m2 : Rat) * u - q2) : m1 ≤ m2 := by
  refine Int.not_lt.1 fun hlt => ?_
  have g : ((m2 + 1 : Int) : Rat) ≤ (m1 : Rat) := Rat.intCast_le_intCast.2 (by omega)
  rw [Rat.intCast_add] at g
  have g2 : ((m2 : Rat) + ((1 : Int) : Rat)) * u ≤ (m1 : Rat) * u := Rat.mul_le_mul_of_nonneg_right g (Rat.le_of_lt hu)
  rw [show ((1 : Int) : Rat) = 1 from rfl] at g2
  generalize (m1 : Rat) = M1 at a1 g2
  generalize (m2 : Rat) = M2 at b2 g2
  grind
/-- The order of two numbers. -/
def cmp3 (x y : Rat) : Int := if x < y then -1 else if y < x then 1 else 0
theorem cmp3_lt {x y : Rat} (h : x < y) : cmp3 x y = -1 := if_pos h
theorem cmp3_gt {x y : Rat} (h : y < x) : cmp3 x y = 1 := by unfold cmp3; rw [if_neg (Rat.not_lt.2 (Rat.le_of_lt h)), if_pos h]
theorem cmp3_eq (x : Rat) : cmp3 x x = 0 := by unfold cmp3; rw [if_neg Rat.lt_irrefl, if_neg Rat.lt_irrefl]
theorem cmp3_le {x y : Rat} (h : x ≤ y) : cmp3 x y = -1 ∨ cmp3 x y = 0 := by
  by_cases h1 : x < y
  · exact .inl (cmp3_lt h1)
  · refine .inr ?_
    unfold cmp3
    rw [if_neg h1, if_neg (Rat.not_lt.2 h)]
theorem cmp3_ge {x y : Rat} (h : y ≤ x) : cmp3 x y = 1 ∨ cmp3 x y = 0 := by
  by_cases h1 : y < x
  · exact .inl (cmp3_gt h1)
  · refine .inr ?_
    unfold cmp3
    rw [if_neg (Rat.not_lt.2 h), if_neg h1]
/-- Orders that agree. -/
def agree (n m : Int) : Prop := (n = -1 ∧ m = -1) ∨ (n = -1 ∧ m = 0) ∨ (n = 0 ∧ m = 0) ∨ (n = 1 ∧ m = 0) ∨ (n = 1 ∧ m = 1)
theorem agree_of {a b x y : Rat} (h1 : a ≤ b → x ≤ y) (h2 : b ≤ a → y ≤ x) (h3 : a = b → x = y) : agree (cmp3 a b) (cmp3 x y) := by
  by_cases h : a < b
  · rw [cmp3_lt h]
    rcases cmp3_le (h1 (Rat.le_of_lt h)) with e | e
    · exact .inl ⟨rfl, e⟩
    · exact .inr (.inl ⟨rfl, e⟩)
  · by_cases g : b < a
    · rw [cmp3_gt g]
      rcases cmp3_ge (h2 (Rat.le_of_lt g)) with e | e
      · exact .inr (.inr (.inr (.inr ⟨rfl, e⟩)))
      · exact .inr (.inr (.inr (.inl ⟨rfl, e⟩)))
    · have e : a = b := Rat.le_antisymm (Rat.not_lt.1 g) (Rat.not_lt.1 h)
      rw [h3 e, e, cmp3_eq, cmp3_eq]
      exact .inr (.inr (.inl ⟨rfl, rfl⟩))
end Go.KI
namespace Go.Proofs.YtfgjpnoeibiaaaaGreatDoor
open Go.RowKit Go.KP Go.KI Go.Shelf
attribute [local go_sem] Oper.semAt_some

theorem units_near (q : Rat) (p : Nat) : (unitsP q p : Rat) * unitQ p - q ≤ unitQ p / 2 ∧ -(unitQ p / 2) < (unitsP q p : Rat) * unitQ p - q := by
  have dp := q.den_pos
  exact unit_near q (unitQ_pos p) (n := q.num * ((10 ^ p : Nat) : Int)) (d := (q.den : Int)) (by omega) (unit_quo q p)
theorem tw_near (q : Rat) : (twelfths q : Rat) * qTw - q ≤ qTw / 2 ∧ -(qTw / 2) < (twelfths q : Rat) * qTw - q := by
  have dp := q.den_pos
  exact unit_near q qTw_pos (n := q.num * 60) (d := (q.den : Int) * 127) (by omega) (tw_quo q)
theorem mul_mono {m1 m2 : Int} {u : Rat} (hu : 0 < u) (h : m1 ≤ m2) : (m1 : Rat) * u ≤ (m2 : Rat) * u := Rat.mul_le_mul_of_nonneg_right (Rat.intCast_le_intCast.2 h) (Rat.le_of_lt hu)
theorem units_agree (a b : Rat) (p : Nat) : agree (cmp3 a b) (cmp3 ((unitsP a p : Rat) / ((10 ^ p : Nat) : Rat)) ((unitsP b p : Rat) / ((10 ^ p : Nat) : Rat))) := by
  rw [unit_mul, unit_mul]
  exact agree_of (fun h => mul_mono (unitQ_pos p) (near_mono (unitQ_pos p) h (units_near a p).1 (units_near b p).2)) (fun h => mul_mono (unitQ_pos p) (near_mono (unitQ_pos p) h (units_near b p).1 (units_near a p).2)) (fun h => by rw [h])
theorem tw_agree (a b : Rat) : agree (cmp3 a b) (cmp3 ((twelfths a : Rat) * qTw) ((twelfths b : Rat) * qTw)) :=
  agree_of (fun h => mul_mono qTw_pos (near_mono qTw_pos h (tw_near a).1 (tw_near b).2)) (fun h => mul_mono qTw_pos (near_mono qTw_pos h (tw_near b).1 (tw_near a).2)) (fun h => by rw [h])
set_option maxRecDepth 100000 in
set_option maxHeartbeats 16000000 in
theorem lawOrder_any (s t : ByteArray) (m : Nat) (hm : m < 256) (B : Nat) (w : World) (hB : B ≤ w.heap.size) (hT : PQ B w) :
    Calls Tryz.prog 12 #[.string s, .string t, .int .u8 m] w (Ret w (.bool true)) := by
  have HT := hide hT
  have HFI := hide (fun b hb => mfine_any s b hb B w hB hT)
  have HFI2 := hide (fun b hb w hB hT => mfine_any t b hb B w hB hT)
  have HAW := hide (fun w hB hT => mawake_any B w hB hT)
  obtain ⟨p, hp⟩ : ∃ p, p = m % 21 := ⟨_, rfl⟩
  have hpb : p ≤ 20 := by omega
  have hmp : (m : Int) % 21 = (p : Int) := by omega
  have hm0 : 0 ≤ (m : Int) := by omega
  have hm1 : (m : Int) ≤ 255 := by omega
  have hp1 : (p : Int) ≤ 20 := by omega
  have hp0 : 0 ≤ (p : Int) := by omega
  by_cases hf : fineQ s.data.toList
  · have HF := hide (HFI.out true (by simpa using hf))
    by_cases hg : fineQ t.data.toList
    · have HF2 := hide (fun w hB hT => HFI2.out true (by simpa using hg) w hB hT)
      obtain ⟨h1, h2⟩ := fine_num hf
      obtain ⟨g1, g2⟩ := fine_num hg
      obtain ⟨a, ha⟩ : ∃ q, q = valQ s.data.toList := ⟨_, rfl⟩
      obtain ⟨b, hb⟩ : ∃ q, q = valQ t.data.toList := ⟨_, rfl⟩
      rw [← ha] at h1 h2
      rw [← hb] at g1 g2
      have s9 := sz_30_90 h2
      have t9 := sz_30_90 g2
      have m3 : ∀ k : Nat, k ≤ 300 → k ≤ most := fun k h => by rw [most_eq]; exact h
      have HC := hide (fun w hB hT => qcmp_to h1 g1 (fq h2 (by omega)) (fq g2 (by omega)) (cmpC_of h2 g2 (m3 _ (by omega))) B w hB hT)
      have HP1 := hide (fun w hB hT => mPrint_to h1 s9 (p := p) (by omega) B w hB hT)
      have HP2 := hide (fun w hB hT => mPrint_to g1 t9 (p := p) (by omega) B w hB hT)
      obtain ⟨ua, _⟩ := units_text h2 (p := p) (by omega)
      obtain ⟨ub, _⟩ := units_text g2 (p := p) (by omega)
      obtain ⟨pe1, pv1⟩ := parse_decT (unitsP a p) p ua
      obtain ⟨pe2, pv2⟩ := parse_decT (unitsP b p) p ub
      have HX1 := hide (fun w hB hT => mParse_to (s := strB (decT (unitsP a p) p)) (q := (unitsP a p : Rat) / ((10 ^ p : Nat) : Rat)) (by rw [strB_list]; exact pe1) (by rw [strB_list]; exact pv1) B w hB hT)
      have HX2 := hide (fun w hB hT => mParse_to (s := strB (decT (unitsP b p) p)) (q := (unitsP b p : Rat) / ((10 ^ p : Nat) : Rat)) (by rw [strB_list]; exact pe2) (by rw [strB_list]; exact pv2) B w hB hT)
      have z1 := sz_units h2 (p := p) (by omega)
      have z2 := sz_units g2 (p := p) (by omega)
      have HC2 := hide (fun w hB hT => qcmp_to (s := strB (ratS ((unitsP a p : Rat) / ((10 ^ p : Nat) : Rat)))) (t := strB (ratS ((unitsP b p : Rat) / ((10 ^ p : Nat) : Rat)))) (strB_list _) (strB_list _) (fq z1 (by omega)) (fq z2 (by omega)) (cmpC_of z1 z2 (m3 _ (by omega))) B w hB hT)
      have HF3 := hide (fun w hB hT => mFeet_to h1 s9 B w hB hT)
      have HF4 := hide (fun w hB hT => mFeet_to g1 t9 B w hB hT)
      have ta := tw_short h2
      have tb := tw_short g2
      have la := feetT_len (twelfths a) (k := 34) (by omega) ta
      have lb := feetT_len (twelfths b) (k := 34) (by omega) tb
      obtain ⟨oka, ova⟩ := feetT_ok (twelfths a)
      obtain ⟨okb, ovb⟩ := feetT_ok (twelfths b)
      have HY1 := hide (fun w hB hT => mParseFeet_to (s := strB (feetT (twelfths a))) (q := (twelfths a : Rat) * qTw) (by rw [strB_list]; exact oka) (by rw [strB_size]; omega) (by rw [strB_list, feetQ_V, ova]) B w hB hT)
      have HY2 := hide (fun w hB hT => mParseFeet_to (s := strB (feetT (twelfths b))) (q := (twelfths b : Rat) * qTw) (by rw [strB_list]; exact okb) (by rw [strB_size]; omega) (by rw [strB_list, feetQ_V, ovb]) B w hB hT)
      have z3 := sz_tw ta (by omega)
      have z4 := sz_tw tb (by omega)
      have HC3 := hide (fun w hB hT => qcmp_to (s := strB (ratS ((twelfths a : Rat) * qTw))) (t := strB (ratS ((twelfths b : Rat) * qTw))) (strB_list _) (strB_list _) (fq z3 (by omega)) (fq z4 (by omega)) (cmpC_of z3 z4 (m3 _ (by omega))) B w hB hT)
      have hag := units_agree a b p
      have hag2 := tw_agree a b
      obtain ⟨n, hn⟩ : ∃ n, n = cmp3 a b := ⟨_, rfl⟩
      obtain ⟨k, hk⟩ : ∃ n, n = cmp3 ((unitsP a p : Rat) / ((10 ^ p : Nat) : Rat)) ((unitsP b p : Rat) / ((10 ^ p : Nat) : Rat)) := ⟨_, rfl⟩
      obtain ⟨l, hl⟩ : ∃ n, n = cmp3 ((twelfths a : Rat) * qTw) ((twelfths b : Rat) * qTw) := ⟨_, rfl⟩
      have HC : Hid (∀ w, B ≤ w.heap.size → PQ B w → Calls Tryz.prog 24 #[.string s, .string t] w (Ret w (.tuple #[.int .i64 n, .int .i64 0]))) := hide (by rw [hn]; exact HC.out)
      obtain ⟨D1, hD1⟩ : ∃ D, D = strB (decT (unitsP a p) p) := ⟨_, rfl⟩
      obtain ⟨D2, hD2⟩ : ∃ D, D = strB (decT (unitsP b p) p) := ⟨_, rfl⟩
      obtain ⟨E1, hE1⟩ : ∃ D, D = strB (ratS ((unitsP a p : Rat) / ((10 ^ p : Nat) : Rat))) := ⟨_, rfl⟩
      obtain ⟨E2, hE2⟩ : ∃ D, D = strB (ratS ((unitsP b p : Rat) / ((10 ^ p : Nat) : Rat))) := ⟨_, rfl⟩
      obtain ⟨F1, hF1⟩ : ∃ D, D = strB (feetT (twelfths a)) := ⟨_, rfl⟩
      obtain ⟨F2, hF2⟩ : ∃ D, D = strB (feetT (twelfths b)) := ⟨_, rfl⟩
      obtain ⟨G1, hG1⟩ : ∃ D, D = strB (ratS ((twelfths a : Rat) * qTw)) := ⟨_, rfl⟩
      obtain ⟨G2, hG2⟩ : ∃ D, D = strB (ratS ((twelfths b : Rat) * qTw)) := ⟨_, rfl⟩
      rw [← hD1] at HP1
      rw [← hD2] at HP2
      rw [← hD1, ← hE1] at HX1
      rw [← hD2, ← hE2] at HX2
      have HC2 : Hid (∀ w, B ≤ w.heap.size → PQ B w → Calls Tryz.prog 24 #[.string E1, .string E2] w (Ret w (.tuple #[.int .i64 k, .int .i64 0]))) := hide (by rw [hk, hE1, hE2]; exact HC2.out)
      rw [← hF1] at HF3
      rw [← hF2] at HF4
      rw [← hF1, ← hG1] at HY1
      rw [← hF2, ← hG2] at HY2
      have HC3 : Hid (∀ w, B ≤ w.heap.size → PQ B w → Calls Tryz.prog 24 #[.string G1, .string G2] w (Ret w (.tuple #[.int .i64 l, .int .i64 0]))) := hide (by rw [hl, hG1, hG2]; exact HC3.out)
      rw [← hn, ← hk] at hag
      rw [← hn, ← hl] at hag2
      have hmx := mx4
      have hmx2 := mx2
      clear hf hg h1 h2 g1 g2 ha hb s9 t9 m3 ua ub pe1 pv1 pe2 pv2 z1 z2 ta tb la lb oka ova okb ovb z3 z4 hn hk hl hD1 hD2 hE1 hE2 hF1 hF2 hG1 hG2 HFI HFI2 hT hp hpb hm
      rcases hag with ⟨x1, x2⟩ | ⟨x1, x2⟩ | ⟨x1, x2⟩ | ⟨x1, x2⟩ | ⟨x1, x2⟩
      all_goals
        subst x1
        subst x2
        rcases hag2 with ⟨y1, y2⟩ | ⟨y1, y2⟩ | ⟨y1, y2⟩ | ⟨y1, y2⟩ | ⟨y1, y2⟩
      all_goals first
        | (exfalso
           revert y1
           decide)
        | skip
      all_goals
        clear y1
        subst y2
        go_enter Tryz.func12, Tryz.ntmps12
        go_wp2_with fail
        refine HF.out.mono ?_
        rintro e w1 ⟨rfl, hb1⟩
        have HB1 := hide hb1
        clear hb1
        go_wp2_with fail
        refine (HF2.out _ (Nat.le_trans hB HB1.out.size) (HT.out.on HB1.out hB)).mono ?_
        rintro e w2 ⟨rfl, hb2⟩
        have HB2 := hide (HB1.out.trans (hb2.mono HB1.out.size))
        clear hb2
        go_wp2_with fail
        refine (HC.out _ (Nat.le_trans hB HB2.out.size) (HT.out.on HB2.out hB)).mono ?_
        rintro e w3 ⟨rfl, hb3⟩
        have HB3 := hide (HB2.out.trans (hb3.mono HB2.out.size))
        clear hb3
        go_wp2_with fail
        refine (HP1.out _ (Nat.le_trans hB HB3.out.size) (HT.out.on HB3.out hB)).mono ?_
        rintro e w4 ⟨rfl, hb4⟩
        have HB4 := hide (HB3.out.trans (hb4.mono HB3.out.size))
        clear hb4
        go_wp2_with fail
        refine (HP2.out _ (Nat.le_trans hB HB4.out.size) (HT.out.on HB4.out hB)).mono ?_
        rintro e w5 ⟨rfl, hb5⟩
        have HB5 := hide (HB4.out.trans (hb5.mono HB4.out.size))
        clear hb5
        go_wp2_with fail
        refine (HX1.out _ (Nat.le_trans hB HB5.out.size) (HT.out.on HB5.out hB)).mono ?_
        rintro e w6 ⟨rfl, hb6⟩
        have HB6 := hide (HB5.out.trans (hb6.mono HB5.out.size))
        clear hb6
        go_wp2_with fail
        refine (HX2.out _ (Nat.le_trans hB HB6.out.size) (HT.out.on HB6.out hB)).mono ?_
        rintro e w7 ⟨rfl, hb7⟩
        have HB7 := hide (HB6.out.trans (hb7.mono HB6.out.size))
        clear hb7
        go_wp2_with fail
        refine (HC2.out _ (Nat.le_trans hB HB7.out.size) (HT.out.on HB7.out hB)).mono ?_
        rintro e w8 ⟨rfl, hb8⟩
        have HB8 := hide (HB7.out.trans (hb8.mono HB7.out.size))
        clear hb8
        go_wp2_with fail
        refine (HF3.out _ (Nat.le_trans hB HB8.out.size) (HT.out.on HB8.out hB)).mono ?_
        rintro e w9 ⟨rfl, hb9⟩
        have HB9 := hide (HB8.out.trans (hb9.mono HB8.out.size))
        clear hb9
        go_wp2_with fail
        refine (HF4.out _ (Nat.le_trans hB HB9.out.size) (HT.out.on HB9.out hB)).mono ?_
        rintro e w10 ⟨rfl, hb10⟩
        have HB10 := hide (HB9.out.trans (hb10.mono HB9.out.size))
        clear hb10
        go_wp2_with fail
        refine (HY1.out _ (Nat.le_trans hB HB10.out.size) (HT.out.on HB10.out hB)).mono ?_
        rintro e w11 ⟨rfl, hb11⟩
        have HB11 := hide (HB10.out.trans (hb11.mono HB10.out.size))
        clear hb11
        go_wp2_with fail
        refine (HY2.out _ (Nat.le_trans hB HB11.out.size) (HT.out.on HB11.out hB)).mono ?_
        rintro e w12 ⟨rfl, hb12⟩
        have HB12 := hide (HB11.out.trans (hb12.mono HB11.out.size))
        clear hb12
        go_wp2_with fail
        refine (HC3.out _ (Nat.le_trans hB HB12.out.size) (HT.out.on HB12.out hB)).mono ?_
        rintro e w13 ⟨rfl, hb13⟩
        have HB13 := hide (HB12.out.trans (hb13.mono HB12.out.size))
        clear hb13
        go_wp2_with fail
        refine (HAW.out _ (Nat.le_trans hB HB13.out.size) (HT.out.on HB13.out hB)).mono ?_
        rintro e w14 ⟨rfl, hb14⟩
        have HB14 := hide (HB13.out.trans (hb14.mono HB13.out.size))
        clear hb14
        go_wp2_with fail
        go_ret
        exact ⟨rfl, HB14.out⟩
    · have HF2 := hide (fun w hB hT => HFI2.out false (by simpa using hg) w hB hT)
      clear hf hg HFI HFI2 hT hp hpb hm
      go_enter Tryz.func12, Tryz.ntmps12
      go_wp2_with fail
      refine HF.out.mono ?_
      rintro e w1 ⟨rfl, hb1⟩
      have HB1 := hide hb1
      clear hb1
      go_wp2_with fail
      refine (HF2.out _ (Nat.le_trans hB HB1.out.size) (HT.out.on HB1.out hB)).mono ?_
      rintro e w2 ⟨rfl, hb2⟩
      have HB2 := hide (HB1.out.trans (hb2.mono HB1.out.size))
      clear hb2
      go_wp2_with fail
      refine (HAW.out _ (Nat.le_trans hB HB2.out.size) (HT.out.on HB2.out hB)).mono ?_
      rintro e w3 ⟨rfl, hb3⟩
      have HB3 := hide (HB2.out.trans (hb3.mono HB2.out.size))
      clear hb3
      go_wp2_with fail
      go_ret
      exact ⟨rfl, HB3.out⟩
  · have HF := hide (HFI.out false (by simpa using hf))
    clear hf HFI HFI2 hT hp hpb hm
    go_enter Tryz.func12, Tryz.ntmps12
    go_wp2_with fail
    refine HF.out.mono ?_
    rintro e w1 ⟨rfl, hb1⟩
    have HB1 := hide hb1
    clear hb1
    go_wp2_with fail
    refine (HAW.out _ (Nat.le_trans hB HB1.out.size) (HT.out.on HB1.out hB)).mono ?_
    rintro e w2 ⟨rfl, hb2⟩
    have HB2 := hide (HB1.out.trans (hb2.mono HB1.out.size))
    clear hb2
    go_wp2_with fail
    go_ret
    exact ⟨rfl, HB2.out⟩
end Go.Proofs.YtfgjpnoeibiaaaaGreatDoor
