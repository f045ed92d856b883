/-
  Texts of the integers, laid together: Ue, Uf, Ug.
-/
import Derived.Test.YtfgjpnoeibiaaaaGreatDoorZ14
namespace Go.KI
open Go
theorem near_rat (n : Int) {d : Int} (hd : 0 < d) : (near2 n d : Rat) - 1 / 2 ≤ (n : Rat) / (d : Rat) ∧ (n : Rat) / (d : Rat) < (near2 n d : Rat) + 1 / 2 := by
  obtain ⟨h1, h2⟩ := near2_spec (n := n) hd
  obtain ⟨m, hm⟩ : ∃ m, m = near2 n d := ⟨_, rfl⟩
  rw [← hm] at h1 h2 ⊢
  have hd0 : (0 : Rat) < (d : Rat) := Rat.intCast_lt_intCast.2 hd
  have g1 := Rat.intCast_le_intCast.2 h1
  have g2 := Rat.intCast_lt_intCast.2 h2
  rw [Rat.intCast_mul, Rat.intCast_mul, Rat.intCast_add, Rat.intCast_mul] at g1
  rw [Rat.intCast_add, Rat.intCast_mul, Rat.intCast_add, Rat.intCast_mul, Rat.intCast_mul] at g2
  have e2 : ((2 : Int) : Rat) = 2 := rfl
  rw [e2] at g1 g2
  generalize (n : Rat) = N at g1 g2 ⊢
  generalize (d : Rat) = D at g1 g2 hd0 ⊢
  generalize (m : Rat) = M at g1 g2 ⊢
  constructor
  · refine Rat.not_lt.1 fun h => ?_
    rw [Rat.div_lt_iff hd0] at h
    grind
  · rw [Rat.div_lt_iff hd0]
    grind
/-- The nearest multiple of a unit. -/
theorem unit_near (q : Rat) {u : Rat} (hu : 0 < u) {n d : Int} (hd : 0 < d) (he : (n : Rat) / (d : Rat) = q / u) : (near2 n d : Rat) * u - q ≤ u / 2 ∧ -(u / 2) < (near2 n d : Rat) * u - q := by
  obtain ⟨h1, h2⟩ := near_rat n hd
  rw [he] at h1 h2
  rw [Rat.div_lt_iff hu] at h2
  have h3 : ¬ q < ((near2 n d : Rat) - 1 / 2) * u := fun h => by
    rw [← Rat.div_lt_iff hu] at h
    exact absurd h (Rat.not_lt.2 h1)
  generalize (near2 n d : Rat) = M at h2 h3 ⊢
  constructor
  · refine Rat.not_lt.1 fun h => h3 ?_
    grind
  · grind
end Go.KI
namespace Go.KI
open Go
theorem cmp_le {x y : Rat} (h : x ≤ y) : (if x < y then (-1 : Int) else if y < x then 1 else 0) ≤ 0 ∧ -1 ≤ (if x < y then (-1 : Int) else if y < x then 1 else 0) := by
  by_cases h1 : x < y
  · rw [if_pos h1]
    exact ⟨by decide, by decide⟩
  · rw [if_neg h1, if_neg (Rat.not_lt.2 h)]
    exact ⟨by decide, by decide⟩
theorem cmp_gt {x y : Rat} (h : y < x) : (if x < y then (-1 : Int) else if y < x then 1 else 0) = 1 := by
  rw [if_neg (Rat.not_lt.2 (Rat.le_of_lt h)), if_pos h]
theorem rat_two : (2 : Rat) ≠ 0 := by decide
theorem sz_two : sz 1 (2 : Rat) := ⟨by decide, by decide⟩
end Go.KI
namespace Go.Proofs.YtfgjpnoeibiaaaaGreatDoor
open Go.RowKit Go.KP Go.KI Go.Shelf
attribute [local go_sem] Oper.semAt_some

theorem ratS_two : (⟨#[50]⟩ : ByteArray).data.toList = ratS 2 := by
  rw [show (2 : Rat) = ((2 : Nat) : Rat) from rfl, ratS_nat, Lib.decDigits_one (by omega)]
  rfl
theorem ratS_zero0 : (⟨#[48]⟩ : ByteArray).data.toList = ratS 0 := by rw [ratS_zero]
theorem sz_zero : sz 1 (0 : Rat) := ⟨by decide, by decide⟩
theorem fq {p : Nat} {x : Rat} (h : sz p x) (hp : p ≤ 300) : fitsQ x := sz_fits h (by rw [most_eq]; exact hp)
set_option maxRecDepth 100000 in
set_option maxHeartbeats 4000000 in
theorem near_any {s t v : ByteArray} {r a u : Rat} (h1 : s.data.toList = ratS r) (h2 : t.data.toList = ratS a) (h3 : v.data.toList = ratS u) (z1 : sz 60 r) (z2 : sz 30 a) (z3 : sz 30 u) (hle : r - a ≤ u / 2) (hlt : -(u / 2) < r - a) (B : Nat) (w : World) (hB : B ≤ w.heap.size) (hT : PQ B w) :
    Calls Tryz.prog 53 #[.string s, .string t, .string v] w (Ret w (.bool true)) := by
  have HT := hide hT
  have y1 := sz_sub z1 z2
  have y2 := sz_div (by omega) z3 sz_two
  have y3 := sz_sub sz_zero y2
  have m3 : ∀ k : Nat, k ≤ 300 → k ≤ most := fun k h => by rw [most_eq]; exact h
  have H1 := hide (qsub_to h1 h2 (fq z1 (by omega)) (fq z2 (by omega)) (subC_of z1 z2 (m3 _ (by omega))) B w hB hT)
  have H2 := hide (fun w hB hT => qdiv_to h3 ratS_two (fq z3 (by omega)) (fq sz_two (by omega)) rat_two (cmpC_of z3 sz_two (m3 _ (by omega))) B w hB hT)
  have H3 := hide (fun w hB hT => qsub_to (t := strB (ratS (u / 2))) ratS_zero0 (strB_list _) (fq sz_zero (by omega)) (fq y2 (by omega)) (subC_of sz_zero y2 (m3 _ (by omega))) B w hB hT)
  have H4 := hide (fun w hB hT => qcmp_to (s := strB (ratS (r - a))) (t := strB (ratS (0 - u / 2))) (strB_list _) (strB_list _) (fq y1 (by omega)) (fq y3 (by omega)) (cmpC_of y1 y3 (m3 _ (by omega))) B w hB hT)
  have H5 := hide (fun w hB hT => qcmp_to (s := strB (ratS (r - a))) (t := strB (ratS (u / 2))) (strB_list _) (strB_list _) (fq y1 (by omega)) (fq y2 (by omega)) (cmpC_of y1 y2 (m3 _ (by omega))) B w hB hT)
  have e0 : (0 : Rat) - u / 2 = -(u / 2) := by rw [Rat.sub_eq_add_neg, Rat.zero_add]
  rw [cmp_gt (x := r - a) (y := 0 - u / 2) (by rw [e0]; exact hlt)] at H4
  obtain ⟨c1, c2⟩ := cmp_le hle
  obtain ⟨K, hK⟩ : ∃ K, K = (if r - a < u / 2 then (-1 : Int) else if u / 2 < r - a then 1 else 0) := ⟨_, rfl⟩
  rw [← hK] at H5 c1 c2
  obtain ⟨D, hD⟩ : ∃ D, D = strB (ratS (r - a)) := ⟨_, rfl⟩
  obtain ⟨F, hF⟩ : ∃ D, D = strB (ratS (u / 2)) := ⟨_, rfl⟩
  obtain ⟨L, hL⟩ : ∃ D, D = strB (ratS (0 - u / 2)) := ⟨_, rfl⟩
  rw [← hD] at H1 H4 H5
  rw [← hF] at H2 H3 H5
  rw [← hL] at H3 H4
  have hmx := mx4
  clear h1 h2 h3 z1 z2 z3 hle hlt y1 y2 y3 m3 e0 hK hD hF hL hT
  go_enter Tryz.func53, Tryz.ntmps53
  go_wp2_with fail
  refine H1.out.mono ?_
  rintro e w1 ⟨rfl, hb1⟩
  have HB1 := hide hb1
  clear hb1
  go_wp2_with fail
  refine (H2.out _ (Nat.le_trans hB HB1.out.size) (HT.out.on HB1.out hB)).mono ?_
  rintro e w2 ⟨rfl, hb2⟩
  have HB2 := hide (HB1.out.trans (hb2.mono HB1.out.size))
  clear hb2
  go_wp2_with fail
  refine (H3.out _ (Nat.le_trans hB HB2.out.size) (HT.out.on HB2.out hB)).mono ?_
  rintro e w3 ⟨rfl, hb3⟩
  have HB3 := hide (HB2.out.trans (hb3.mono HB2.out.size))
  clear hb3
  go_wp2_with fail
  refine (H4.out _ (Nat.le_trans hB HB3.out.size) (HT.out.on HB3.out hB)).mono ?_
  rintro e w4 ⟨rfl, hb4⟩
  have HB4 := hide (HB3.out.trans (hb4.mono HB3.out.size))
  clear hb4
  go_wp2_with fail
  refine (H5.out _ (Nat.le_trans hB HB4.out.size) (HT.out.on HB4.out hB)).mono ?_
  rintro e w5 ⟨rfl, hb5⟩
  have HB5 := hide (HB4.out.trans (hb5.mono HB4.out.size))
  clear hb5
  go_wp2_with fail
  go_ret
  exact ⟨rfl, HB5.out⟩
end Go.Proofs.YtfgjpnoeibiaaaaGreatDoor
namespace Go.KI
open Go
/-- The last of some places. -/
def unitQ (p : Nat) : Rat := ⟨1, 10 ^ p, Nat.ne_of_gt (pow10_pos p), Nat.gcd_one_left _⟩
theorem unitQ_eq (p : Nat) : unitQ p = 1 / ((10 ^ p : Nat) : Rat) := by
  have h := Rat.num_divInt_den (unitQ p)
  rw [← h, Rat.divInt_eq_div]
  rfl
theorem p10_ne (p : Nat) : ((10 ^ p : Nat) : Rat) ≠ 0 := by
  intro e
  have := congrArg Rat.num e
  have h2 := pow10_pos p
  have h3 : ((10 ^ p : Nat) : Int) = 0 := this
  omega
theorem p10_pos (p : Nat) : 0 < ((10 ^ p : Nat) : Rat) := Rat.natCast_pos.2 (pow10_pos p)
theorem unitQ_pos (p : Nat) : 0 < unitQ p := by
  rw [unitQ_eq, Rat.lt_div_iff (p10_pos p), Rat.zero_mul]
  decide
theorem unitQ_text (p : Nat) (hp : 0 < p) : ratS (unitQ p) = [49, 47, 49] ++ List.replicate p 48 := by
  have h1 : 10 ^ 1 ≤ 10 ^ p := Nat.pow_le_pow_right (by omega) hp
  unfold ratS
  rw [if_neg (by show ¬ 10 ^ p = 1; omega), show (unitQ p).num = ((1 : Nat) : Int) from rfl, Lib.itoa_nonneg, one_dec, show (unitQ p).den = 10 ^ p from rfl, dec_pow]
  rfl
theorem sz_unitQ {p : Nat} (hp : p ≤ 20) : sz 30 (unitQ p) := by
  refine ⟨?_, ?_⟩
  · show 1 < 10 ^ 30
    omega
  · exact Nat.pow_lt_pow_right (by omega) (by omega)
/-- A number in units of the last place. -/
theorem unit_quo (q : Rat) (p : Nat) : ((q.num * ((10 ^ p : Nat) : Int) : Int) : Rat) / (((q.den : Nat) : Int) : Rat) = q / unitQ p := by
  have h1 := rat_parts q
  have hd : ((q.den : Nat) : Rat) ≠ 0 := by
    intro e
    have := congrArg Rat.num e
    have h3 : ((q.den : Nat) : Int) = 0 := this
    exact den_ne q h3
  rw [unitQ_eq, Rat.intCast_mul, show ((((10 ^ p : Nat) : Int)) : Rat) = ((10 ^ p : Nat) : Rat) from rfl, show (((q.den : Nat) : Int) : Rat) = ((q.den : Nat) : Rat) from rfl]
  have hp := p10_ne p
  rw [Rat.div_def, Rat.div_def, Rat.div_def, Rat.one_mul, Rat.inv_inv]
  conv => rhs; rw [← h1]
  rw [Rat.mul_assoc, Rat.mul_assoc, Rat.mul_comm ((10 ^ p : Nat) : Rat)]
theorem unit_mul (m : Int) (p : Nat) : (m : Rat) / ((10 ^ p : Nat) : Rat) = (m : Rat) * unitQ p := by
  rw [unitQ_eq, Rat.div_def, Rat.div_def, Rat.one_mul]
theorem decT_behind (m : Int) (p : Nat) (hp : 0 < p) : 46 ∈ decT m p ∧ (behind 46 (decT m p)).length = p := by
  have e : decT m p = ((if m < 0 then [45] else []) ++ (own m p).take ((own m p).length - p)) ++ 46 :: (own m p).drop ((own m p).length - p) := by
    unfold decT
    rw [if_neg (show ¬ p = 0 by omega), List.append_assoc]
  obtain ⟨k1, k2, k3⟩ := cut_at (c := 46) (a := (if m < 0 then [45] else []) ++ (own m p).take ((own m p).length - p)) (b := (own m p).drop ((own m p).length - p)) (by
    intro x hx
    rcases List.mem_append.1 hx with h | h
    · by_cases hm : m < 0
      · rw [if_pos hm] at h
        have : x = 45 := by simpa using h
        rw [this]
        decide
      · rw [if_neg hm] at h
        simp at h
    · exact dg_ne (own_dg m p x (List.mem_of_mem_take h)) (by decide))
  rw [e]
  refine ⟨k3, ?_⟩
  rw [k2, List.length_drop]
  have := own_len m p
  omega
end Go.KI
namespace Go.Proofs.YtfgjpnoeibiaaaaGreatDoor
open Go.RowKit Go.KP Go.KI Go.Shelf
attribute [local go_sem] Oper.semAt_some

set_option maxRecDepth 100000 in
theorem unit_any (p : Nat) (h0 : 0 < p) (hp : p ≤ 100) (w : World) :
    Calls Tryz.prog 54 #[.int .i64 p] w (Ret w (.string (strB (ratS (unitQ p))))) := by
  have HR := hide (repeat_any ⟨#[48]⟩ p w (by omega) (by decide))
  rw [show (⟨#[48]⟩ : ByteArray).data.toList = [48] from rfl, repeat48] at HR
  have HX := hide (show strB (ratS (unitQ p)) = ⟨#[49, 47, 49]⟩ ++ strB (List.replicate p 48) by
    apply bytes_eq
    rw [strB_list, unitQ_text p h0, ByteArray.data_append, Array.toList_append, strB_list])
  have hs : (strB (List.replicate p 48)).size ≤ 100 := by rw [strB_size, List.length_replicate]; exact hp
  obtain ⟨Z, hZ⟩ : ∃ Z, Z = strB (List.replicate p 48) := ⟨_, rfl⟩
  obtain ⟨X, hX⟩ : ∃ Z, Z = strB (ratS (unitQ p)) := ⟨_, rfl⟩
  rw [← hZ] at HR HX hs
  rw [← hX] at HX ⊢
  have v : (9223372036854775807 < 3 + Z.size) = False := eq_false (by omega)
  clear hZ hX hp h0
  go_enter Tryz.func54, Tryz.ntmps54
  go_wp2_with fail
  refine HR.out.mono ?_
  rintro e w1 ⟨rfl, hb1⟩
  have HB1 := hide hb1
  clear hb1
  go_wp2_with fail
  go_ret
  rw [HX.out]
  exact ⟨rfl, HB1.out⟩
end Go.Proofs.YtfgjpnoeibiaaaaGreatDoor
namespace Go.Proofs.YtfgjpnoeibiaaaaGreatDoor
open Go.RowKit Go.KP Go.KI Go.Shelf
attribute [local go_sem] Oper.semAt_some

/-- The number that is read of what is printed. -/
theorem sz_units {q : Rat} (h : sz 30 q) {p : Nat} (hp : p ≤ 21) : sz 60 ((unitsP q p : Rat) / ((10 ^ p : Nat) : Rat)) := by
  rw [units_divInt]
  obtain ⟨_, h2⟩ := units_text h hp
  have h3 := (dec_len_le (u := (unitsP q p).natAbs) (n := 53) (by omega)).1 h2
  refine divInt_sz (by have := pow10_pos p; omega) (Nat.lt_of_lt_of_le h3 (Nat.pow_le_pow_right (by omega) (by omega))) ?_
  rw [Int.natAbs_natCast]
  exact Nat.pow_lt_pow_right (by omega) (by omega)
set_option maxRecDepth 100000 in
set_option maxHeartbeats 8000000 in
theorem lawRounds_any (s : ByteArray) (m : Nat) (hm : m < 256) (B : Nat) (w : World) (hB : B ≤ w.heap.size) (hT : PQ B w) :
    Calls Tryz.prog 11 #[.string s, .int .u8 m] w (Ret w (.bool true)) := by
  have HT := hide hT
  have HFI := hide (fun b hb => mfine_any s b hb B w hB hT)
  have HAW := hide (fun w hB hT => mawake_any B w hB hT)
  obtain ⟨z, hz⟩ : ∃ z, z = m % 20 := ⟨_, rfl⟩
  have hzb : z ≤ 19 := by omega
  have hmz : (m : Int) % 20 = (z : Int) := by omega
  have hm0 : 0 ≤ (m : Int) := by omega
  have hm1 : (m : Int) ≤ 255 := by omega
  have hz1 : (z : Int) ≤ 19 := by omega
  have hz0 : 0 ≤ (z : Int) := by omega
  by_cases hf : fineQ s.data.toList
  · have HF := hide (HFI.out true (by simpa using hf))
    obtain ⟨h1, h2⟩ := fine_num hf
    obtain ⟨q, hq⟩ : ∃ q, q = valQ s.data.toList := ⟨_, rfl⟩
    rw [← hq] at h1 h2
    have s9 := sz_30_90 h2
    obtain ⟨p, hp⟩ : ∃ p, p = z + 1 := ⟨_, rfl⟩
    have hpI : (1 : Int) + (z : Int) = (p : Int) := by omega
    have HPR := hide (fun w hB hT => mPrint_to h1 s9 (p := p) (by omega) B w hB hT)
    obtain ⟨ut, _⟩ := units_text h2 (p := p) (by omega)
    obtain ⟨pe, pv⟩ := parse_decT (unitsP q p) p ut
    have HPA := hide (fun w hB hT => mParse_to (s := strB (decT (unitsP q p) p)) (q := (unitsP q p : Rat) / ((10 ^ p : Nat) : Rat)) (by rw [strB_list]; exact pe) (by rw [strB_list]; exact pv) B w hB hT)
    have HUN := hide (fun w => unit_any p (by omega) (by omega) w)
    have dp := q.den_pos
    obtain ⟨n1, n2⟩ := unit_near q (unitQ_pos p) (n := q.num * ((10 ^ p : Nat) : Int)) (d := (q.den : Int)) (by omega) (unit_quo q p)
    rw [show near2 (q.num * ((10 ^ p : Nat) : Int)) (q.den : Int) = unitsP q p from rfl, ← unit_mul] at n1 n2
    have HNE := hide (fun w hB hT => near_any (s := strB (ratS ((unitsP q p : Rat) / ((10 ^ p : Nat) : Rat)))) (t := s) (v := strB (ratS (unitQ p))) (strB_list _) h1 (strB_list _) (sz_units h2 (by omega)) h2 (sz_unitQ (by omega)) n1 n2 B w hB hT)
    obtain ⟨b1, b2⟩ := decT_behind (unitsP q p) p (by omega)
    obtain ⟨D, hD⟩ : ∃ D, D = strB (decT (unitsP q p) p) := ⟨_, rfl⟩
    have hDl : D.data.toList = decT (unitsP q p) p := by rw [hD, strB_list]
    have HCU := hide (fun w hT => scut_any 46 D (by rw [← bytes_len, hDl]; omega) B w hT)
    rw [hDl, if_pos b1, show decide (46 ∈ decT (unitsP q p) p) = true by simpa using b1] at HCU
    obtain ⟨A, hA⟩ : ∃ D, D = strB (KI.ahead 46 (decT (unitsP q p) p)) := ⟨_, rfl⟩
    obtain ⟨C, hC⟩ : ∃ D, D = strB (KI.behind 46 (decT (unitsP q p) p)) := ⟨_, rfl⟩
    have hCs : C.size = p := by rw [hC, strB_size]; exact b2
    rw [← hA, ← hC] at HCU
    obtain ⟨Y, hY⟩ : ∃ D, D = strB (ratS ((unitsP q p : Rat) / ((10 ^ p : Nat) : Rat))) := ⟨_, rfl⟩
    obtain ⟨U, hU⟩ : ∃ D, D = strB (ratS (unitQ p)) := ⟨_, rfl⟩
    rw [← hD] at HPR
    rw [← hD, ← hY] at HPA
    rw [← hU] at HUN
    rw [← hY, ← hU] at HNE
    have hcs : ((C.size : Int) == (p : Int)) = true := by rw [hCs]; simp
    have hpI1 : 0 ≤ (p : Int) := by omega
    have hpI2 : (p : Int) ≤ 20 := by omega
    clear h1 h2 hq s9 ut pe pv dp n1 n2 b1 b2 hD hDl hA hC hCs hY hU hf hT hz hzb HFI hm hp
    go_enter Tryz.func11, Tryz.ntmps11
    go_wp2_with fail
    refine HF.out.mono ?_
    rintro e w1 ⟨rfl, hb1⟩
    have HB1 := hide hb1
    clear hb1
    go_wp2_with fail
    refine (HPR.out _ (Nat.le_trans hB HB1.out.size) (HT.out.on HB1.out hB)).mono ?_
    rintro e w2 ⟨rfl, hb2⟩
    have HB2 := hide (HB1.out.trans (hb2.mono HB1.out.size))
    clear hb2
    go_wp2_with fail
    refine (HPA.out _ (Nat.le_trans hB HB2.out.size) (HT.out.on HB2.out hB)).mono ?_
    rintro e w3 ⟨rfl, hb3⟩
    have HB3 := hide (HB2.out.trans (hb3.mono HB2.out.size))
    clear hb3
    go_wp2_with fail
    refine (HUN.out _).mono ?_
    rintro e w4 ⟨rfl, hb4⟩
    have HB4 := hide (HB3.out.trans (hb4.mono HB3.out.size))
    clear hb4
    go_wp2_with fail
    refine (HNE.out _ (Nat.le_trans hB HB4.out.size) (HT.out.on HB4.out hB)).mono ?_
    rintro e w5 ⟨rfl, hb5⟩
    have HB5 := hide (HB4.out.trans (hb5.mono HB4.out.size))
    clear hb5
    go_wp2_with fail
    refine (HCU.out _ (HT.out.on HB5.out hB)).mono ?_
    rintro e w6 ⟨rfl, hb6⟩
    have HB6 := hide (HB5.out.trans (hb6.mono HB5.out.size))
    clear hb6
    go_wp2_with fail
    refine (HAW.out _ (Nat.le_trans hB HB6.out.size) (HT.out.on HB6.out hB)).mono ?_
    rintro e w7 ⟨rfl, hb7⟩
    have HB7 := hide (HB6.out.trans (hb7.mono HB6.out.size))
    clear hb7
    go_wp2_with fail
    go_ret
    exact ⟨rfl, HB7.out⟩
  · have HF := hide (HFI.out false (by simpa using hf))
    clear hf hT hz hzb HFI hm
    go_enter Tryz.func11, Tryz.ntmps11
    go_wp2_with fail
    refine HF.out.mono ?_
    rintro e w1 ⟨rfl, hb1⟩
    have HB1 := hide hb1
    clear hb1
    go_wp2_with fail
    refine (HAW.out _ (Nat.le_trans hB HB1.out.size) (HT.out.on HB1.out hB)).mono ?_
    rintro e w2 ⟨rfl, hb2⟩
    have HB2 := hide (HB1.out.trans (hb2.mono HB1.out.size))
    clear hb2
    go_wp2_with fail
    go_ret
    exact ⟨rfl, HB2.out⟩
end Go.Proofs.YtfgjpnoeibiaaaaGreatDoor
