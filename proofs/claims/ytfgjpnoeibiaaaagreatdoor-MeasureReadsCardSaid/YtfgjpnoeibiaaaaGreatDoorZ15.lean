/-
  Texts of the integers, laid together: Ud.
-/
import Derived.Lib.IndexLaws
import Derived.Test.YtfgjpnoeibiaaaaGreatDoorZ14
namespace Go.KI
open Go
/-- An integer with zeros behind a point. -/
theorem parse_point (z : Int) (k : Nat) (hk : 0 < k) (hl : (Lib.itoa z ++ 46 :: List.replicate k 48).length ≤ 90) : parseE (Lib.itoa z ++ 46 :: List.replicate k 48) = 0 ∧ parseV (Lib.itoa z ++ 46 :: List.replicate k 48) = (z : Rat) := by
  have hi : Lib.itoa z = (if decide (z < 0) then [45] else []) ++ Lib.decDigits z.natAbs := by
    rcases itoa_cases z with ⟨h, e⟩ | ⟨h, e⟩
    · rw [e]; simp [h]
    · have hn : ¬ z < 0 := by omega
      rw [e]; simp [hn]
  rw [hi, List.append_assoc] at hl ⊢
  have hA : ∀ c ∈ Lib.decDigits z.natAbs, isDg c = true := decDigits_dg _
  have hne := decDigits_ne z.natAbs
  obtain ⟨A, hAe⟩ : ∃ A, A = Lib.decDigits z.natAbs := ⟨_, rfl⟩
  have hv : dv A = z.natAbs := by rw [hAe, dv_decDigits]
  rw [← hAe] at hA hne hl ⊢
  obtain ⟨d1, d2⟩ := digs_sign (decide (z < 0)) (r := A ++ 46 :: List.replicate k 48) (by
    intro c hc
    cases hq : A with
    | nil => exact absurd hq hne
    | cons a b =>
      rw [hq] at hc hA
      injection hc with hc
      rw [← hc]
      exact hA a (by simp)) (by simp)
  obtain ⟨k1, k2, k3⟩ := cut_at (c := 46) (a := A) (b := List.replicate k 48) (fun x hx => dg_ne (hA x hx) (by decide))
  have hz : allDg (List.replicate k 48) := ⟨by
    intro e
    have := congrArg List.length e
    rw [List.length_replicate] at this
    simp at this
    omega, fun c hc => by rw [List.eq_of_mem_replicate hc]; rfl⟩
  unfold parseE parseV
  rw [d1, d2, k1, k2, if_neg (by omega), if_pos k3, if_pos ⟨⟨hne, hA⟩, hz⟩, if_pos k3]
  refine ⟨rfl, ?_⟩
  rw [dv_append, dv_rep, hv, List.length_replicate, Nat.add_zero]
  have h10 : ((10 ^ k : Nat) : Rat) ≠ 0 := by
    intro e
    have := congrArg Rat.num e
    rw [show ((10 ^ k : Nat) : Rat) = (((10 ^ k : Nat) : Int) : Rat) from rfl, Rat.num_intCast] at this
    have h2 := pow10_pos k
    have h3 : ((10 ^ k : Nat) : Int) = 0 := this
    omega
  have e1 : ((z.natAbs * 10 ^ k : Nat) : Rat) / ((10 ^ k : Nat) : Rat) = ((z.natAbs : Nat) : Rat) := by
    rw [Rat.natCast_mul, Rat.div_def, Rat.mul_assoc, Rat.mul_inv_cancel _ h10, Rat.mul_one]
  rw [e1]
  have := sgn_num z 1
  rw [Rat.mul_one, Rat.mul_one] at this
  exact this
end Go.KI
namespace Go.Proofs.YtfgjpnoeibiaaaaGreatDoor
open Go.RowKit Go.KP Go.KI Go.Shelf
attribute [local go_sem] Oper.semAt_some

theorem index_mem (l : List UInt8) (c : UInt8) : 0 ≤ Lib.indexByte l c ↔ c ∈ l := by
  constructor
  · intro h
    obtain ⟨o, ho⟩ : ∃ o : Nat, Lib.indexByte l c = (o : Int) := ⟨(Lib.indexByte l c).toNat, by omega⟩
    exact List.mem_of_getElem? (Lib.indexByte_some ho).1
  · intro h
    have h1 := Lib.indexByte_ge l c
    refine Decidable.byContradiction fun hn => ?_
    obtain ⟨k, hk⟩ := List.mem_iff_getElem?.1 h
    exact Lib.indexByte_none (by omega) k hk
theorem contains_any (s : ByteArray) (c : UInt8) (b : Bool) (hb : b = decide (c ∈ s.data.toList)) (w : World) :
    Calls Tryz.prog 35 #[.string s, .string ⟨#[c]⟩] w fun e w' => e = .returned (.bool b) ∧ w = w' :=
  (Tryz.strings_Contains_one s c w).mono fun e w' ⟨he, hw⟩ => ⟨by rw [he, hb]; congr 2; exact decide_eq_decide.2 (index_mem _ _), hw.symm⟩
set_option maxRecDepth 100000 in
set_option maxHeartbeats 8000000 in
theorem lawReads_any (s : ByteArray) (m : Nat) (hm : m < 256) (B : Nat) (w : World) (hB : B ≤ w.heap.size) (hT : PQ B w) :
    Calls Tryz.prog 6 #[.string s, .int .u8 m] w (Ret w (.bool true)) := by
  have HT := hide hT
  have HFI := hide (fun b hb => mfine_any s b hb B w hB hT)
  have HAW := hide (fun w hB hT => mawake_any B w hB hT)
  obtain ⟨z, hz⟩ : ∃ z, z = m % 11 := ⟨_, rfl⟩
  have hzb : z ≤ 10 := by omega
  have hmz : (m : Int) % 11 = (z : Int) := by omega
  have hm0 : 0 ≤ (m : Int) := by omega
  have hm1 : (m : Int) ≤ 255 := by omega
  have hz1 : (z : Int) ≤ 10 := by omega
  have hz0 : 0 ≤ (z : Int) := by omega
  by_cases hf : fineQ s.data.toList
  · have HF := hide (HFI.out true (by simpa using hf))
    obtain ⟨h1, h2⟩ := fine_num hf
    have hl30 := hf.1
    obtain ⟨q, hq⟩ : ∃ q, q = valQ s.data.toList := ⟨_, rfl⟩
    rw [← hq] at h1 h2
    have hs : strB (ratS q) = s := by rw [← h1, strB_of]
    have hdl : (digs (ratS q)).length ≤ 30 := by
      have := digs_le (ratS q)
      rw [← h1] at this
      rw [← h1]
      omega
    have hzl : ∀ k : Nat, k ≤ 10 → (zerosT q k).length ≤ 90 := by
      intro k hk
      unfold zerosT
      rw [List.length_append, List.length_append, List.length_replicate]
      have : (if decide (q.num < 0) then [45] else [] : List UInt8).length ≤ 1 := by split <;> simp
      omega
    obtain ⟨p1, p2⟩ := parse_zeros q 0 (hzl 0 (by omega))
    rw [zerosT_zero] at p1 p2
    obtain ⟨p3, p4⟩ := parse_zeros q z (hzl z hzb)
    have HP1 := hide (fun w hB hT => mParse_to (s := s) (q := q) (by rw [h1]; exact p1) (by rw [h1]; exact p2) B w hB hT)
    have HP2 := hide (fun w hB hT => mParse_to (s := strB (zerosT q z)) (q := q) (by rw [strB_list]; exact p3) (by rw [strB_list]; exact p4) B w hB hT)
    rw [hs] at HP1 HP2
    have HCP := hide (fun w => cutPrefix_any s w)
    have hneg : decide (s.data.toList.head? = some 45) = decide (q.num < 0) := by
      refine decide_eq_decide.2 ?_
      rw [← digs_shorter, h1]
      exact (digs_ratS q).2
    rw [hneg, h1] at HCP
    have HRP := hide (fun w => repeat_any ⟨#[48]⟩ z w (by omega) (by decide))
    rw [show (⟨#[48]⟩ : ByteArray).data.toList = [48] from rfl, repeat48] at HRP
    obtain ⟨O, hO⟩ : ∃ O, O = strB (digs (ratS q)) := ⟨_, rfl⟩
    obtain ⟨Z, hZ⟩ : ∃ O, O = strB (List.replicate z 48) := ⟨_, rfl⟩
    have hOs : O.size ≤ 30 := by rw [hO, strB_size]; exact hdl
    have hZs : Z.size ≤ 10 := by rw [hZ, strB_size, List.length_replicate]; exact hzb
    have hOl : O.data.toList = digs (ratS q) := by rw [hO, strB_list]
    rw [← hO] at HCP
    rw [← hZ] at HRP
    have hv1 : (9223372036854775807 < Z.size + O.size) = False := eq_false (by omega)
    have hv2 : (9223372036854775807 < 1 + (Z.size + O.size)) = False := eq_false (by omega)
    have hsz : s.size ≤ 30 := by rw [← bytes_len]; exact hl30
    have hmore : (decide (q.num < 0) = true ∧ strB (zerosT q z) = ⟨#[45]⟩ ++ (Z ++ O)) ∨ (decide (q.num < 0) = false ∧ strB (zerosT q z) = Z ++ O) := by
      by_cases h : q.num < 0
      · refine .inl ⟨by simpa using h, ?_⟩
        unfold zerosT
        rw [hZ, hO, show decide (q.num < 0) = true by simpa using h]
        apply bytes_eq
        simp [strB]
      · refine .inr ⟨by simpa using h, ?_⟩
        unfold zerosT
        rw [hZ, hO, show decide (q.num < 0) = false by simpa using h]
        apply bytes_eq
        simp [strB]
    obtain ⟨M, hM⟩ : ∃ M, M = strB (zerosT q z) := ⟨_, rfl⟩
    rw [← hM] at HP2 hmore
    obtain ⟨neg, hng⟩ : ∃ n, n = decide (q.num < 0) := ⟨_, rfl⟩
    rw [← hng] at HCP hmore
    have HCO := hide (fun b hb w => contains_any O 47 b hb w)
    rw [hOl] at HCO
    have hden : 47 ∈ digs (ratS q) ↔ q.den ≠ 1 := by
      rw [(digs_ratS q).1]
      by_cases hd : q.den = 1
      · rw [if_pos hd, List.append_nil]
        refine ⟨fun h => absurd rfl (dg_ne (decDigits_dg _ _ h) (by decide)), fun h => absurd hd h⟩
      · rw [if_neg hd]
        exact ⟨fun _ => hd, fun _ => by simp⟩
    by_cases hd : q.den = 1
    · have HC := hide (HCO.out false (by rw [eq_comm, decide_eq_false_iff_not, hden]; exact fun h => h hd))
      have hqi : q = ((q.num : Int) : Rat) := by
        have := Rat.num_divInt_den q
        rw [hd, Rat.divInt_ofNat, Rat.mkRat_one] at this
        exact this.symm
      have hqs : ratS q = Lib.itoa q.num := by unfold ratS; rw [if_pos hd]
      have hpl : (Lib.itoa q.num ++ 46 :: List.replicate (z + 1) 48).length ≤ 90 := by
        rw [List.length_append, List.length_cons, List.length_replicate, ← hqs, ← h1]
        omega
      obtain ⟨g1, g2⟩ := parse_point q.num (z + 1) (by omega) hpl
      rw [← hqi] at g2
      have HP3 := hide (fun w hB hT => mParse_to (s := strB (Lib.itoa q.num ++ 46 :: List.replicate (z + 1) 48)) (q := q) (by rw [strB_list]; exact g1) (by rw [strB_list]; exact g2) B w hB hT)
      rw [hs] at HP3
      have HRP2 := hide (fun w => repeat_any ⟨#[48]⟩ (z + 1) w (by omega) (by decide))
      rw [show (⟨#[48]⟩ : ByteArray).data.toList = [48] from rfl, repeat48] at HRP2
      obtain ⟨Z2, hZ2⟩ : ∃ O, O = strB (List.replicate (z + 1) 48) := ⟨_, rfl⟩
      have hZs2 : Z2.size ≤ 11 := by rw [hZ2, strB_size, List.length_replicate]; omega
      rw [← hZ2] at HRP2
      have HX := hide (show strB (Lib.itoa q.num ++ 46 :: List.replicate (z + 1) 48) = s ++ ⟨#[46]⟩ ++ Z2 by
        rw [hZ2, ← hqs]
        apply bytes_eq
        rw [strB_list, ByteArray.data_append, ByteArray.data_append, Array.toList_append, Array.toList_append, h1, strB_list]
        simp)
      rw [HX.out] at HP3
      have hv3 : (9223372036854775807 < s.size + 1) = False := eq_false (by omega)
      have hv4 : (9223372036854775807 < s.size + 1 + Z2.size) = False := eq_false (by omega)
      have HPZ := hide (show (1 : Int) + (z : Int) = ((z + 1 : Nat) : Int) by omega)
      clear hqi hqs hpl g1 g2 hZ2 HX
      clear h1 h2 hl30 hq hs hdl hzl p1 p2 p3 p4 hneg hO hZ hOl hM hng hden hf hT hz hzb HFI HCO hm hd hsz
      rcases hmore with ⟨e1, e2⟩ | ⟨e1, e2⟩
      all_goals
        have HM := hide e2
        subst e1
        clear e2
        go_enter Tryz.func6, Tryz.ntmps6
        go_wp2_with fail
        refine HF.out.mono ?_
        rintro e w1 ⟨rfl, hb1⟩
        have HB1 := hide hb1
        clear hb1
        go_wp2_with fail
        refine (HP1.out _ (Nat.le_trans hB HB1.out.size) (HT.out.on HB1.out hB)).mono ?_
        rintro e w2 ⟨rfl, hb2⟩
        have HB2 := hide (HB1.out.trans (hb2.mono HB1.out.size))
        clear hb2
        go_wp2_with fail
        refine (HCP.out _).mono ?_
        rintro e w2' ⟨rfl, rfl⟩
        go_wp2_with fail
        refine (HRP.out _).mono ?_
        rintro e w3 ⟨rfl, hb3⟩
        have HB3 := hide (HB2.out.trans (hb3.mono HB2.out.size))
        clear hb3
        go_wp2_with fail
        rw [← HM.out]
        refine (HP2.out _ (Nat.le_trans hB HB3.out.size) (HT.out.on HB3.out hB)).mono ?_
        rintro e w4 ⟨rfl, hb4⟩
        have HB4 := hide (HB3.out.trans (hb4.mono HB3.out.size))
        clear hb4
        go_wp2_with fail
        refine (HC.out _).mono ?_
        rintro e w4' ⟨rfl, rfl⟩
        go_wp2_with fail
        rw [HPZ.out]
        refine (HRP2.out _).mono ?_
        rintro e w5 ⟨rfl, hb5⟩
        have HB5 := hide (HB4.out.trans (hb5.mono HB4.out.size))
        clear hb5
        go_wp2_with fail
        refine (HP3.out _ (Nat.le_trans hB HB5.out.size) (HT.out.on HB5.out hB)).mono ?_
        rintro e w6 ⟨rfl, hb6⟩
        have HB6 := hide (HB5.out.trans (hb6.mono HB5.out.size))
        clear hb6
        go_wp2_with fail
        refine (HAW.out _ (Nat.le_trans hB HB6.out.size) (HT.out.on HB6.out hB)).mono ?_
        rintro e w7 ⟨rfl, hb7⟩
        have HB7 := hide (HB6.out.trans (hb7.mono HB6.out.size))
        clear hb7
        go_wp2_with fail
        go_ret
        exact ⟨rfl, HB7.out⟩
    · have HC := hide (HCO.out true (by rw [eq_comm, decide_eq_true_iff, hden]; exact hd))
      clear h1 h2 hl30 hq hs hdl hzl p1 p2 p3 p4 hneg hO hZ hOl hM hng hden hf hT hz hzb HFI HCO hm hd hsz
      rcases hmore with ⟨e1, e2⟩ | ⟨e1, e2⟩
      all_goals
        have HM := hide e2
        subst e1
        clear e2
        go_enter Tryz.func6, Tryz.ntmps6
        go_wp2_with fail
        refine HF.out.mono ?_
        rintro e w1 ⟨rfl, hb1⟩
        have HB1 := hide hb1
        clear hb1
        go_wp2_with fail
        refine (HP1.out _ (Nat.le_trans hB HB1.out.size) (HT.out.on HB1.out hB)).mono ?_
        rintro e w2 ⟨rfl, hb2⟩
        have HB2 := hide (HB1.out.trans (hb2.mono HB1.out.size))
        clear hb2
        go_wp2_with fail
        refine (HCP.out _).mono ?_
        rintro e w2' ⟨rfl, rfl⟩
        go_wp2_with fail
        refine (HRP.out _).mono ?_
        rintro e w3 ⟨rfl, hb3⟩
        have HB3 := hide (HB2.out.trans (hb3.mono HB2.out.size))
        clear hb3
        go_wp2_with fail
        rw [← HM.out]
        refine (HP2.out _ (Nat.le_trans hB HB3.out.size) (HT.out.on HB3.out hB)).mono ?_
        rintro e w4 ⟨rfl, hb4⟩
        have HB4 := hide (HB3.out.trans (hb4.mono HB3.out.size))
        clear hb4
        go_wp2_with fail
        refine (HC.out _).mono ?_
        rintro e w4' ⟨rfl, rfl⟩
        go_wp2_with fail
        refine (HAW.out _ (Nat.le_trans hB HB4.out.size) (HT.out.on HB4.out hB)).mono ?_
        rintro e w5 ⟨rfl, hb5⟩
        have HB5 := hide (HB4.out.trans (hb5.mono HB4.out.size))
        clear hb5
        go_wp2_with fail
        go_ret
        exact ⟨rfl, HB5.out⟩
  · have HF := hide (HFI.out false (by simpa using hf))
    clear hf hT hz hzb HFI hm
    go_enter Tryz.func6, Tryz.ntmps6
    go_wp2_with fail
    refine HF.out.mono ?_
    rintro e w1 ⟨rfl, hb1⟩
    have HB1 := hide hb1
    clear hb1
    go_wp2_with fail
    refine (HAW.out _ (Nat.le_trans hB HB1.out.size) (HT.out.on HB1.out hB)).mono ?_
    rintro e w2 ⟨rfl, hb2⟩
    have HB2 := hide (HB1.out.trans (hb2.mono HB1.out.size))
    clear hb2
    go_wp2_with fail
    go_ret
    exact ⟨rfl, HB2.out⟩
end Go.Proofs.YtfgjpnoeibiaaaaGreatDoor
