/-
  Texts laid together.
-/
import Derived.Test.YtfcjaljaomknjaaGreatDoorME15
import Derived.Test.YtfcjaljaomknjaaGreatDoorME16
set_option maxRecDepth 100000
set_option maxHeartbeats 4000000
namespace Go.KI
open Go
theorem dv_drop0 (l : List UInt8) : dv (l.dropWhile (· == 48)) = dv l := by
  induction l with
  | nil => rfl
  | cons c r ih =>
    by_cases h : c = 48
    · subst h
      have e : dv (48 :: r) = dv r := by
        have := dv_append [48] r
        rw [show dv [48] = 0 from rfl, Nat.zero_mul, Nat.zero_add] at this
        exact this
      simpa [e] using ih
    · simp [h]
theorem dropW_head {p : UInt8 → Bool} {a : UInt8} {b : List UInt8} : ∀ {l : List UInt8}, l.dropWhile p = a :: b → p a = false := by
  intro l
  induction l with
  | nil => intro h; cases h
  | cons c r ih =>
    intro h
    by_cases hc : p c = true
    · rw [List.dropWhile_cons, if_pos hc] at h
      exact ih h
    · rw [List.dropWhile_cons, if_neg hc] at h
      injection h with h1 h2
      rw [← h1]
      simpa using hc
theorem whole_dec {l : List UInt8} (h : ∀ c ∈ l, isDg c = true) (hne : l.dropWhile (· == 48) ≠ []) : l.dropWhile (· == 48) = Lib.decDigits (dv l) := by
  have h1 := dec_of hne (fun c hc => h c (List.Sublist.subset (List.dropWhile_sublist _) hc)) (fun _ hh => by
    cases hq : l.dropWhile (· == 48) with
    | nil => exact absurd hq hne
    | cons a b =>
      have h3 := dropW_head hq
      rw [hq] at hh
      injection hh with hh
      rw [hh] at h3
      exact absurd h3 (by decide))
  rw [dv_drop0] at h1
  exact h1
theorem whole_zero {l : List UInt8} (he : l.dropWhile (· == 48) = []) : dv l = 0 := by
  rw [← dv_drop0, he]
  rfl
end Go.KI
namespace Go.Proofs.YtfcjaljaomknjaaGreatDoor
open Go.RowKit Go.KP Go.KI Go.Shelf
attribute [local go_sem] Oper.semAt_some

theorem mdigits_any (s : ByteArray) (hs : s.size ≤ 1000000) (b : Bool) (hb : b = decide (allDg s.data.toList)) (w : World) :
    Calls Tryz.prog 47 #[.string s] w (Ret w (.bool b)) := by
  have HT := hide (trimDg_any s w (by omega))
  obtain ⟨T, hT⟩ : ∃ T, T = strB (Lib.trimS s.data.toList cutset) := ⟨_, rfl⟩
  have hTl : T.data.toList = Lib.trimS s.data.toList cutset := by rw [hT, strB_list]
  rw [← hT] at HT
  by_cases h0 : s.data.toList = []
  · have e := empty_yes h0
    have hbf : b = false := by rw [hb, decide_eq_false_iff_not]; exact fun h => h.1 h0
    rw [hbf]
    clear hb hbf h0 hT hTl
    go_enter Tryz.func47, Tryz.ntmps47
    go_wp2_with fail
    go_ret
    exact ⟨rfl, Below.refl _ _⟩
  · have e := empty_no h0
    have hway : (T.toList.isEmpty = true ∧ b = true) ∨ (T.toList.isEmpty = false ∧ b = false) := by
      have hn := trimS_nil s.data.toList
      by_cases ha : s.data.toList.all isDg = true
      · exact .inl ⟨empty_yes (by rw [hTl]; exact hn.2 ha), by rw [hb, decide_eq_true_iff]; exact ⟨h0, List.all_eq_true.1 ha⟩⟩
      · exact .inr ⟨empty_no (by rw [hTl]; exact fun h => ha (hn.1 h)), by rw [hb, decide_eq_false_iff_not]; exact fun h => ha (List.all_eq_true.2 h.2)⟩
    clear hb h0 hT hTl
    rcases hway with ⟨h1, h2⟩ | ⟨h1, h2⟩
    all_goals
      subst h2
      go_enter Tryz.func47, Tryz.ntmps47
      go_wp2_with fail
      refine HT.out.mono ?_
      rintro e w1 ⟨rfl, hb1⟩
      have HB1 := hide hb1
      clear hb1
      go_wp2_with fail
      go_ret
      exact ⟨rfl, HB1.out⟩
theorem mwhole_any (s : ByteArray) (h : ∀ c ∈ s.data.toList, isDg c = true) (w : World) :
    Calls Tryz.prog 49 #[.string s] w (Ret w (.string (strB (Lib.decDigits (dv s.data.toList))))) := by
  have HT : Hid (Calls Tryz.prog 97 #[.string s, .string ⟨#[48]⟩] w fun e w' => e = .returned (.string (strB (s.data.toList.dropWhile (· == 48)))) ∧ w = w') := hide ((Tryz.strings_TrimLeft_one s 48 (by decide) w).mono fun e w' ⟨he, hw⟩ => ⟨by rw [he]; rfl, hw.symm⟩)
  obtain ⟨T, hT⟩ : ∃ T, T = strB (s.data.toList.dropWhile (· == 48)) := ⟨_, rfl⟩
  have hTl : T.data.toList = s.data.toList.dropWhile (· == 48) := by rw [hT, strB_list]
  rw [← hT] at HT
  by_cases h0 : s.data.toList.dropWhile (· == 48) = []
  · have e := empty_yes (s := T) (by rw [hTl, h0])
    have HE := hide (show strB (Lib.decDigits (dv s.data.toList)) = ⟨#[48]⟩ by rw [whole_zero h0, dec_zero]; rfl)
    clear h h0 hT hTl
    go_enter Tryz.func49, Tryz.ntmps49
    go_wp2_with fail
    refine HT.out.mono ?_
    rintro e w1 ⟨rfl, rfl⟩
    go_wp2_with fail
    go_ret
    rw [HE.out]
    exact ⟨rfl, Below.refl _ _⟩
  · have e := empty_no (s := T) (by rw [hTl]; exact h0)
    have HE := hide (show strB (Lib.decDigits (dv s.data.toList)) = T by rw [hT, whole_dec h h0])
    clear h h0 hT hTl
    go_enter Tryz.func49, Tryz.ntmps49
    go_wp2_with fail
    refine HT.out.mono ?_
    rintro e w1 ⟨rfl, rfl⟩
    go_wp2_with fail
    go_ret
    rw [HE.out]
    exact ⟨rfl, Below.refl _ _⟩
theorem sz_nat {u p : Nat} (h : u < 10 ^ p) (hp : 1 ≤ p) : sz p ((u : Nat) : Rat) := by
  have e : ((u : Nat) : Rat) = (((u : Nat) : Int) : Rat) := rfl
  refine ⟨?_, ?_⟩
  · rw [e, Rat.num_intCast, Int.natAbs_natCast]
    exact h
  · rw [e, Rat.den_intCast]
    have : 10 ^ 1 ≤ 10 ^ p := Nat.pow_le_pow_right (by omega) hp
    omega
theorem ratS_nat (u : Nat) : ratS ((u : Nat) : Rat) = Lib.decDigits u := by
  have e : ((u : Nat) : Rat) = (((u : Nat) : Int) : Rat) := rfl
  rw [e, ratS_int, Lib.itoa_nonneg]
theorem mfraction_any (neg : Bool) (n d : ByteArray) (D : Nat) (h : ∀ c ∈ n.data.toList, isDg c = true) (hn : n.size ≤ 92) (hd : d.data.toList = Lib.decDigits D) (hD : D < 10 ^ 92) (h0 : D ≠ 0) (B : Nat) (w : World) (hB : B ≤ w.heap.size) (hT : PQ B w) :
    Calls Tryz.prog 48 #[.string (strB (sgnT neg)), .string n, .string d] w (Ret w (.string (strB (ratS (sgn neg ((dv n.data.toList : Nat) / ((D : Nat) : Rat))))))) := by
  have HT := hide hT
  have HW := hide (mwhole_any n h w)
  have hv : dv n.data.toList < 10 ^ 92 := by
    refine Nat.lt_of_lt_of_le (dv_lt _ h) (Nat.pow_le_pow_right (by omega) ?_)
    rw [bytes_len]
    exact hn
  have s1 := sz_nat hv (by omega)
  have s2 := sz_nat hD (by omega)
  obtain ⟨u, hu⟩ : ∃ u, u = dv n.data.toList := ⟨_, rfl⟩
  rw [← hu] at HW s1 hv ⊢
  have hD0 : ((D : Nat) : Rat) ≠ 0 := by
    intro e
    have := congrArg Rat.num e
    rw [show ((D : Nat) : Rat) = (((D : Nat) : Int) : Rat) from rfl, Rat.num_intCast] at this
    simp at this
    exact h0 this
  have HD := hide (fun w hB hT => qdiv_to (s := strB (Lib.decDigits u)) (t := d) (x := ((u : Nat) : Rat)) (y := ((D : Nat) : Rat)) (by rw [strB_list, ratS_nat]) (by rw [hd, ratS_nat]) (sz_fits s1 (by rw [most_eq]; omega)) (sz_fits s2 (by rw [most_eq]; omega)) hD0 (cmpC_of s1 s2 (by rw [most_eq]; omega)) B w hB hT)
  have s3 := sz_div (by omega) s1 s2
  obtain ⟨q, hq⟩ : ∃ q, q = ((u : Nat) : Rat) / ((D : Nat) : Rat) := ⟨_, rfl⟩
  rw [← hq] at HD s3 ⊢
  have s0 : sz 1 (0 : Rat) := ⟨by decide, by decide⟩
  have HS := hide (fun w hB hT => qsub_to (s := ⟨#[48]⟩) (t := strB (ratS q)) (x := 0) (y := q) (by rw [ratS_zero]) (strB_list _) (sz_fits s0 (by rw [most_eq]; omega)) (sz_fits s3 (by rw [most_eq]; omega)) (subC_of s0 s3 (by rw [most_eq]; omega)) B w hB hT)
  rw [show (0 : Rat) - q = -q by rw [Rat.sub_eq_add_neg, Rat.zero_add]] at HS
  obtain ⟨A, hA⟩ : ∃ X, X = strB (Lib.decDigits u) := ⟨_, rfl⟩
  obtain ⟨Q, hQ⟩ : ∃ X, X = strB (ratS q) := ⟨_, rfl⟩
  obtain ⟨R, hR⟩ : ∃ X, X = strB (ratS (-q)) := ⟨_, rfl⟩
  rw [← hA] at HW HD
  rw [← hQ] at HD HS
  rw [← hR] at HS
  cases neg with
  | false =>
    have e1 : strB (sgnT false) = ⟨#[]⟩ := rfl
    rw [e1, show sgn false q = q from rfl, ← hQ]
    clear h hn hd hD h0 hT hv s1 s2 hu hD0 s3 hq s0 hA hQ hR e1 HS
    go_enter Tryz.func48, Tryz.ntmps48
    go_wp2_with fail
    refine HW.out.mono ?_
    rintro e w1 ⟨rfl, hb1⟩
    have HB1 := hide hb1
    clear hb1
    go_wp2_with fail
    refine (HD.out _ (Nat.le_trans hB HB1.out.size) (HT.out.on HB1.out hB)).mono ?_
    rintro e w2 ⟨rfl, hb2⟩
    have HB2 := hide (HB1.out.trans (hb2.mono HB1.out.size))
    clear hb2
    go_wp2_with fail
    go_ret
    exact ⟨rfl, HB2.out⟩
  | true =>
    have e1 : strB (sgnT true) = ⟨#[45]⟩ := rfl
    rw [e1, show sgn true q = -q from rfl, ← hR]
    clear h hn hd hD h0 hT hv s1 s2 hu hD0 s3 hq s0 hA hQ hR e1
    go_enter Tryz.func48, Tryz.ntmps48
    go_wp2_with fail
    refine HW.out.mono ?_
    rintro e w1 ⟨rfl, hb1⟩
    have HB1 := hide hb1
    clear hb1
    go_wp2_with fail
    refine (HD.out _ (Nat.le_trans hB HB1.out.size) (HT.out.on HB1.out hB)).mono ?_
    rintro e w2 ⟨rfl, hb2⟩
    have HB2 := hide (HB1.out.trans (hb2.mono HB1.out.size))
    clear hb2
    go_wp2_with fail
    refine (HS.out _ (Nat.le_trans hB HB2.out.size) (HT.out.on HB2.out hB)).mono ?_
    rintro e w3 ⟨rfl, hb3⟩
    have HB3 := hide (HB2.out.trans (hb3.mono HB2.out.size))
    clear hb3
    go_wp2_with fail
    go_ret
    exact ⟨rfl, HB3.out⟩
end Go.Proofs.YtfcjaljaomknjaaGreatDoor
namespace Go.KI
open Go
theorem behind_le (c : UInt8) (l : List UInt8) : (behind c l).length ≤ l.length := by
  unfold behind
  have h := List.Sublist.length_le (List.dropWhile_sublist (l := l) (fun x => x != c))
  rw [List.length_drop]
  omega
theorem ahead_le (c : UInt8) (l : List UInt8) : (ahead c l).length ≤ l.length := List.Sublist.length_le (List.takeWhile_sublist _)
theorem both_le {c : UInt8} {l : List UInt8} (h : c ∈ l) : (ahead c l).length + (behind c l).length + 1 = l.length := by
  have := congrArg List.length (split_eq h)
  rw [List.length_append, List.length_cons] at this
  omega
theorem digs_le (l : List UInt8) : (digs l).length ≤ l.length := by
  cases l with
  | nil => exact Nat.le_refl _
  | cons c r =>
    simp only [digs]
    split <;> simp
def parseS (l : List UInt8) : List UInt8 := if parseE l = 0 then ratS (parseV l) else []
end Go.KI
namespace Go.Proofs.YtfcjaljaomknjaaGreatDoor
open Go.RowKit Go.KP Go.KI Go.Shelf
attribute [local go_sem] Oper.semAt_some

theorem powT_dec (p : Nat) : powT p = Lib.decDigits (10 ^ p) := Lib.itoa_nonneg _
theorem mParse_any (s : ByteArray) (B : Nat) (w : World) (hB : B ≤ w.heap.size) (hT : PQ B w) :
    Calls Tryz.prog 13 #[.string s] w (Ret w (pairV (parseS s.data.toList) (parseE s.data.toList))) := by
  have HT := hide hT
  by_cases h90 : 90 < s.size
  · have e : parseE s.data.toList = 4 := by unfold parseE; rw [if_pos (by rw [bytes_len]; exact h90)]
    rw [show parseS s.data.toList = [] by unfold parseS; rw [e, if_neg (by decide)], e, pairV_err]
    have hm : (90 : Int) < (s.size : Int) := by omega
    clear e h90 hT
    go_enter Tryz.func13, Tryz.ntmps13
    go_wp2_with fail
    refine bodyPost_ret (results_tmp2 rfl _ _ _) rfl ?_
    exact ⟨rfl, Below.refl _ _⟩
  have hm : ((90 : Int) < (s.size : Int)) = False := eq_false (by omega)
  have hpe : parseE s.data.toList = if 46 ∈ digs s.data.toList then (if allDg (KI.ahead 46 (digs s.data.toList)) ∧ allDg (KI.behind 46 (digs s.data.toList)) then 0 else 3)
      else if ¬ allDg (KI.ahead 47 (digs s.data.toList)) ∨ (47 ∈ digs s.data.toList ∧ ¬ allDg (KI.behind 47 (digs s.data.toList))) then 3
      else if 47 ∈ digs s.data.toList ∧ dv (KI.behind 47 (digs s.data.toList)) = 0 then 12 else 0 := by
    unfold parseE
    rw [if_neg (by rw [bytes_len]; exact h90)]
  have HSI := hide (msigned_any s w)
  obtain ⟨neg, hneg⟩ : ∃ neg, neg = isNeg s.data.toList := ⟨_, rfl⟩
  obtain ⟨L, hL⟩ : ∃ L, L = digs s.data.toList := ⟨_, rfl⟩
  have hLl : L.length ≤ 90 := by rw [hL]; have := digs_le s.data.toList; rw [bytes_len] at this; omega
  have hpv : parseV s.data.toList = if 46 ∈ L then sgn neg ((dv (KI.ahead 46 L ++ KI.behind 46 L) : Nat) / ((10 ^ (KI.behind 46 L).length : Nat) : Rat)) else sgn neg ((dv (KI.ahead 47 L) : Nat) / ((if 47 ∈ L then dv (KI.behind 47 L) else 1 : Nat) : Rat)) := by
    rw [hL, hneg]; rfl
  rw [← hneg, ← hL] at HSI
  rw [← hL] at hpe
  obtain ⟨O, hO⟩ : ∃ O, O = strB L := ⟨_, rfl⟩
  have hOl : O.data.toList = L := by rw [hO, strB_list]
  have hOs : O.size ≤ 90 := by rw [← bytes_len, hOl]; exact hLl
  have HC46 := hide (fun w hT => scut_any 46 O (by omega) B w hT)
  have HC47 := hide (fun w hT => scut_any 47 O (by omega) B w hT)
  rw [hOl] at HC46 HC47
  rw [← hO] at HSI
  obtain ⟨SG, hSG⟩ : ∃ O, O = strB (sgnT neg) := ⟨_, rfl⟩
  have HFR := hide (fun n d D h hn hd hD h0 w hB hT => mfraction_any neg n d D h hn hd hD h0 B w hB hT)
  rw [← hSG] at HSI HFR
  by_cases h46 : 46 ∈ L
  · rw [if_pos h46] at hpe hpv
    have hlen := both_le h46
    obtain ⟨a, ha⟩ : ∃ a, a = KI.ahead 46 L := ⟨_, rfl⟩
    obtain ⟨b, hb⟩ : ∃ a, a = KI.behind 46 L := ⟨_, rfl⟩
    rw [if_pos h46, ← ha, ← hb, show decide (46 ∈ L) = true by simpa using h46] at HC46
    rw [← ha, ← hb] at hpe hpv hlen
    obtain ⟨A, hA⟩ : ∃ O, O = strB a := ⟨_, rfl⟩
    obtain ⟨C, hC⟩ : ∃ O, O = strB b := ⟨_, rfl⟩
    have hAl : A.data.toList = a := by rw [hA, strB_list]
    have hCl : C.data.toList = b := by rw [hC, strB_list]
    have hAs : A.size = a.length := by rw [hA, strB_size]
    have hCs : C.size = b.length := by rw [hC, strB_size]
    rw [← hA, ← hC] at HC46
    have HD1 := hide (fun b hb w => mdigits_any A (by omega) b hb w)
    have HD2 := hide (fun b hb w => mdigits_any C (by omega) b hb w)
    rw [hAl] at HD1
    rw [hCl] at HD2
    by_cases hda : allDg a
    · by_cases hdb : allDg b
      · have HDA := hide (HD1.out true (by simpa using hda))
        have HDB := hide (HD2.out true (by simpa using hdb))
        have e : parseE s.data.toList = 0 := by rw [hpe, if_pos ⟨hda, hdb⟩]
        rw [show parseS s.data.toList = ratS (parseV s.data.toList) by unfold parseS; rw [if_pos e], e, hpv]
        have hac : (A ++ C).data.toList = a ++ b := by rw [ByteArray.data_append, Array.toList_append, hAl, hCl]
        have HPW := hide (fun w => mpower_to C.size (by omega) w)
        have hpw : (strB (powT C.size)).data.toList = Lib.decDigits (10 ^ C.size) := by rw [strB_list]; exact powT_dec _
        have HF := hide (fun w hB hT => HFR.out (A ++ C) (strB (powT C.size)) (10 ^ C.size) (by
          rw [hac]
          intro c hc
          rcases List.mem_append.1 hc with h | h
          · exact hda.2 c h
          · exact hdb.2 c h) (by rw [ByteArray.size_append]; omega) hpw (Nat.pow_lt_pow_right (by omega) (by omega)) (by have := Nat.pow_pos (n := C.size) (show 0 < 10 by omega); omega) w hB hT)
        rw [hac, hCs] at HF
        obtain ⟨X, hX⟩ : ∃ X, X = strB (ratS (sgn neg ((dv (a ++ b) : Nat) / ((10 ^ b.length : Nat) : Rat)))) := ⟨_, rfl⟩
        rw [show pairV (ratS (sgn neg ((dv (a ++ b) : Nat) / ((10 ^ b.length : Nat) : Rat)))) 0 = .tuple #[.string X, .int .i64 0] by rw [hX]]
        rw [← hX] at HF
        rw [hCs] at HPW
        obtain ⟨PW, hPW⟩ : ∃ X, X = strB (powT b.length) := ⟨_, rfl⟩
        rw [← hPW] at HF HPW
        have HCL := hide hCs
        have hv1 : (9223372036854775807 < A.size + C.size) = False := eq_false (by omega)
        rw [← hCs] at HPW
        clear hac hpw hX hPW hda hdb e
        clear hpe hpv hlen ha hb hA hC hAl hCl hAs hCs h90 hneg hL hLl hO hOl hOs hSG h46 hT HD1 HD2 HFR HC47
        go_enter Tryz.func13, Tryz.ntmps13
        go_wp2_with fail
        refine (HSI.out).mono ?_
        rintro e w1 ⟨rfl, hb1⟩
        have HB1 := hide hb1
        clear hb1
        go_wp2_with fail
        refine (HC46.out _ (HT.out.on HB1.out hB)).mono ?_
        rintro e w2 ⟨rfl, hb2⟩
        have HB2 := hide (HB1.out.trans (hb2.mono HB1.out.size))
        clear hb2
        go_wp2_with fail
        refine (HDA.out _).mono ?_
        rintro e w3 ⟨rfl, hb3⟩
        have HB3 := hide (HB2.out.trans (hb3.mono HB2.out.size))
        clear hb3
        go_wp2_with fail
        refine (HDB.out _).mono ?_
        rintro e w4 ⟨rfl, hb4⟩
        have HB4 := hide (HB3.out.trans (hb4.mono HB3.out.size))
        clear hb4
        go_wp2_with fail
        refine (HPW.out _).mono ?_
        rintro e w5 ⟨rfl, hb5⟩
        have HB5 := hide (HB4.out.trans (hb5.mono HB4.out.size))
        clear hb5
        go_wp2_with fail
        refine (HF.out _ (Nat.le_trans hB HB5.out.size) (HT.out.on HB5.out hB)).mono ?_
        rintro e w6 ⟨rfl, hb6⟩
        have HB6 := hide (HB5.out.trans (hb6.mono HB5.out.size))
        clear hb6
        go_wp2_with fail
        refine bodyPost_ret (results_tmp2 rfl _ _ _) rfl ?_
        exact ⟨rfl, HB6.out⟩
      · have HDA := hide (HD1.out true (by simpa using hda))
        have HDB := hide (HD2.out false (by simpa using hdb))
        have e : parseE s.data.toList = 3 := by rw [hpe, if_neg (fun h => hdb h.2)]
        rw [show parseS s.data.toList = [] by unfold parseS; rw [e, if_neg (by decide)], e, pairV_err]
        clear hda hdb e
        clear hpe hpv hlen ha hb hA hC hAl hCl hAs hCs h90 hneg hL hLl hO hOl hOs hSG h46 hT HD1 HD2 HFR HC47
        go_enter Tryz.func13, Tryz.ntmps13
        go_wp2_with fail
        refine (HSI.out).mono ?_
        rintro e w1 ⟨rfl, hb1⟩
        have HB1 := hide hb1
        clear hb1
        go_wp2_with fail
        refine (HC46.out _ (HT.out.on HB1.out hB)).mono ?_
        rintro e w2 ⟨rfl, hb2⟩
        have HB2 := hide (HB1.out.trans (hb2.mono HB1.out.size))
        clear hb2
        go_wp2_with fail
        refine (HDA.out _).mono ?_
        rintro e w3 ⟨rfl, hb3⟩
        have HB3 := hide (HB2.out.trans (hb3.mono HB2.out.size))
        clear hb3
        go_wp2_with fail
        refine (HDB.out _).mono ?_
        rintro e w4 ⟨rfl, hb4⟩
        have HB4 := hide (HB3.out.trans (hb4.mono HB3.out.size))
        clear hb4
        go_wp2_with fail
        refine bodyPost_ret (results_tmp2 rfl _ _ _) rfl ?_
        exact ⟨rfl, HB4.out⟩
    · have HDA := hide (HD1.out false (by simpa using hda))
      have e : parseE s.data.toList = 3 := by rw [hpe, if_neg (fun h => hda h.1)]
      rw [show parseS s.data.toList = [] by unfold parseS; rw [e, if_neg (by decide)], e, pairV_err]
      clear hda e
      clear hpe hpv hlen ha hb hA hC hAl hCl hAs hCs h90 hneg hL hLl hO hOl hOs hSG h46 hT HD1 HD2 HFR HC47
      go_enter Tryz.func13, Tryz.ntmps13
      go_wp2_with fail
      refine (HSI.out).mono ?_
      rintro e w1 ⟨rfl, hb1⟩
      have HB1 := hide hb1
      clear hb1
      go_wp2_with fail
      refine (HC46.out _ (HT.out.on HB1.out hB)).mono ?_
      rintro e w2 ⟨rfl, hb2⟩
      have HB2 := hide (HB1.out.trans (hb2.mono HB1.out.size))
      clear hb2
      go_wp2_with fail
      refine (HDA.out _).mono ?_
      rintro e w3 ⟨rfl, hb3⟩
      have HB3 := hide (HB2.out.trans (hb3.mono HB2.out.size))
      clear hb3
      go_wp2_with fail
      refine bodyPost_ret (results_tmp2 rfl _ _ _) rfl ?_
      exact ⟨rfl, HB3.out⟩
  · rw [if_neg h46] at hpe hpv
    have h46d : decide (46 ∈ L) = false := by simpa using h46
    rw [h46d, if_neg h46, show KI.ahead 46 L = L from cut_not h46, ← hO, show strB [] = ⟨#[]⟩ from rfl] at HC46
    obtain ⟨a, ha⟩ : ∃ a, a = KI.ahead 47 L := ⟨_, rfl⟩
    have hal : a.length ≤ 90 := by rw [ha]; have := ahead_le 47 L; omega
    rw [← ha] at HC47 hpe hpv
    obtain ⟨A, hA⟩ : ∃ O, O = strB a := ⟨_, rfl⟩
    have hAl : A.data.toList = a := by rw [hA, strB_list]
    have hAs : A.size = a.length := by rw [hA, strB_size]
    rw [← hA] at HC47
    have HD1 := hide (fun b hb w => mdigits_any A (by omega) b hb w)
    rw [hAl] at HD1
    clear ha h46d
    by_cases hda : allDg a
    · have HDA := hide (HD1.out true (by simpa using hda))
      by_cases h47 : 47 ∈ L
      · rw [if_pos h47] at hpv
        have hbl := behind_le 47 L
        obtain ⟨b, hb⟩ : ∃ a, a = KI.behind 47 L := ⟨_, rfl⟩
        rw [if_pos h47, ← hb, show decide (47 ∈ L) = true by simpa using h47] at HC47
        rw [← hb] at hpe hpv hbl
        obtain ⟨C, hC⟩ : ∃ O, O = strB b := ⟨_, rfl⟩
        have hCl : C.data.toList = b := by rw [hC, strB_list]
        have hCs : C.size = b.length := by rw [hC, strB_size]
        rw [← hC] at HC47
        have HD2 := hide (fun b hb w => mdigits_any C (by omega) b hb w)
        rw [hCl] at HD2
        clear hb
        by_cases hdb : allDg b
        · have HDB := hide (HD2.out true (by simpa using hdb))
          have HWH := hide (fun w => mwhole_any C (by rw [hCl]; exact hdb.2) w)
          rw [hCl] at HWH
          have hvb : dv b < 10 ^ 92 := Nat.lt_of_lt_of_le (dv_lt _ hdb.2) (Nat.pow_le_pow_right (by omega) (by omega))
          have hn3 : ¬ (¬ allDg a ∨ (47 ∈ L ∧ ¬ allDg b)) := fun h => by
            rcases h with h | h
            · exact h hda
            · exact h.2 hdb
          rw [if_neg hn3] at hpe
          by_cases h0 : dv b = 0
          · have e : parseE s.data.toList = 12 := by rw [hpe, if_pos ⟨h47, h0⟩]
            rw [show parseS s.data.toList = [] by unfold parseS; rw [e, if_neg (by decide)], e, pairV_err]
            rw [h0, dec_zero, show strB [48] = ⟨#[48]⟩ from rfl] at HWH
            clear hda hdb e hn3 hvb h0 h47 hbl hC hCl hCs HD2 hal HFR
            clear hpe hpv h90 hneg hL hLl hO hOl hOs hSG h46 hT hA hAl hAs HD1
            go_enter Tryz.func13, Tryz.ntmps13
            go_wp2_with fail
            refine (HSI.out).mono ?_
            rintro e w1 ⟨rfl, hb1⟩
            have HB1 := hide hb1
            clear hb1
            go_wp2_with fail
            refine (HC46.out _ (HT.out.on HB1.out hB)).mono ?_
            rintro e w2 ⟨rfl, hb2⟩
            have HB2 := hide (HB1.out.trans (hb2.mono HB1.out.size))
            clear hb2
            go_wp2_with fail
            refine (HC47.out _ (HT.out.on HB2.out hB)).mono ?_
            rintro e w2b ⟨rfl, hb2b⟩
            have HB2b := hide (HB2.out.trans (hb2b.mono HB2.out.size))
            clear hb2b
            go_wp2_with fail
            refine (HDA.out _).mono ?_
            rintro e w3 ⟨rfl, hb3⟩
            have HB3 := hide (HB2b.out.trans (hb3.mono HB2b.out.size))
            clear hb3
            go_wp2_with fail
            refine (HDB.out _).mono ?_
            rintro e w4 ⟨rfl, hb4⟩
            have HB4 := hide (HB3.out.trans (hb4.mono HB3.out.size))
            clear hb4
            go_wp2_with fail
            refine (HWH.out _).mono ?_
            rintro e w5 ⟨rfl, hb5⟩
            have HB5 := hide (HB4.out.trans (hb5.mono HB4.out.size))
            clear hb5
            go_wp2_with fail
            refine bodyPost_ret (results_tmp2 rfl _ _ _) rfl ?_
            exact ⟨rfl, HB5.out⟩
          · have e : parseE s.data.toList = 0 := by rw [hpe, if_neg (fun h => h0 h.2)]
            rw [show parseS s.data.toList = ratS (parseV s.data.toList) by unfold parseS; rw [if_pos e], e, hpv]
            have hne : ((strB (Lib.decDigits (dv b))).toList == [48]) = false := (lit_eq (strB_list _)).2 (fun h => h0 (dec_inj (h.trans dec_zero.symm)))
            have HF := hide (fun w hB hT => HFR.out A (strB (Lib.decDigits (dv b))) (dv b) (by rw [hAl]; exact hda.2) (by omega) (strB_list _) hvb h0 w hB hT)
            rw [hAl] at HF
            obtain ⟨X, hX⟩ : ∃ X, X = strB (ratS (sgn neg ((dv a : Nat) / ((dv b : Nat) : Rat)))) := ⟨_, rfl⟩
            rw [show pairV (ratS (sgn neg ((dv a : Nat) / ((dv b : Nat) : Rat)))) 0 = .tuple #[.string X, .int .i64 0] by rw [hX]]
            rw [← hX] at HF
            obtain ⟨E, hE⟩ : ∃ X, X = strB (Lib.decDigits (dv b)) := ⟨_, rfl⟩
            rw [← hE] at HF HWH hne
            clear hda hdb e hn3 hvb h0 h47 hbl hC hCl hCs HD2 hal HFR hX hE
            clear hpe hpv h90 hneg hL hLl hO hOl hOs hSG h46 hT hA hAl hAs HD1
            go_enter Tryz.func13, Tryz.ntmps13
            go_wp2_with fail
            refine (HSI.out).mono ?_
            rintro e w1 ⟨rfl, hb1⟩
            have HB1 := hide hb1
            clear hb1
            go_wp2_with fail
            refine (HC46.out _ (HT.out.on HB1.out hB)).mono ?_
            rintro e w2 ⟨rfl, hb2⟩
            have HB2 := hide (HB1.out.trans (hb2.mono HB1.out.size))
            clear hb2
            go_wp2_with fail
            refine (HC47.out _ (HT.out.on HB2.out hB)).mono ?_
            rintro e w2b ⟨rfl, hb2b⟩
            have HB2b := hide (HB2.out.trans (hb2b.mono HB2.out.size))
            clear hb2b
            go_wp2_with fail
            refine (HDA.out _).mono ?_
            rintro e w3 ⟨rfl, hb3⟩
            have HB3 := hide (HB2b.out.trans (hb3.mono HB2b.out.size))
            clear hb3
            go_wp2_with fail
            refine (HDB.out _).mono ?_
            rintro e w4 ⟨rfl, hb4⟩
            have HB4 := hide (HB3.out.trans (hb4.mono HB3.out.size))
            clear hb4
            go_wp2_with fail
            refine (HWH.out _).mono ?_
            rintro e w5 ⟨rfl, hb5⟩
            have HB5 := hide (HB4.out.trans (hb5.mono HB4.out.size))
            clear hb5
            go_wp2_with fail
            refine (HF.out _ (Nat.le_trans hB HB5.out.size) (HT.out.on HB5.out hB)).mono ?_
            rintro e w6 ⟨rfl, hb6⟩
            have HB6 := hide (HB5.out.trans (hb6.mono HB5.out.size))
            clear hb6
            go_wp2_with fail
            refine bodyPost_ret (results_tmp2 rfl _ _ _) rfl ?_
            exact ⟨rfl, HB6.out⟩
        · have HDB := hide (HD2.out false (by simpa using hdb))
          have e : parseE s.data.toList = 3 := by rw [hpe, if_pos (.inr ⟨h47, hdb⟩)]
          rw [show parseS s.data.toList = [] by unfold parseS; rw [e, if_neg (by decide)], e, pairV_err]
          clear hda hdb e h47 hbl hC hCl hCs HD2 hal HFR
          clear hpe hpv h90 hneg hL hLl hO hOl hOs hSG h46 hT hA hAl hAs HD1
          go_enter Tryz.func13, Tryz.ntmps13
          go_wp2_with fail
          refine (HSI.out).mono ?_
          rintro e w1 ⟨rfl, hb1⟩
          have HB1 := hide hb1
          clear hb1
          go_wp2_with fail
          refine (HC46.out _ (HT.out.on HB1.out hB)).mono ?_
          rintro e w2 ⟨rfl, hb2⟩
          have HB2 := hide (HB1.out.trans (hb2.mono HB1.out.size))
          clear hb2
          go_wp2_with fail
          refine (HC47.out _ (HT.out.on HB2.out hB)).mono ?_
          rintro e w2b ⟨rfl, hb2b⟩
          have HB2b := hide (HB2.out.trans (hb2b.mono HB2.out.size))
          clear hb2b
          go_wp2_with fail
          refine (HDA.out _).mono ?_
          rintro e w3 ⟨rfl, hb3⟩
          have HB3 := hide (HB2b.out.trans (hb3.mono HB2b.out.size))
          clear hb3
          go_wp2_with fail
          refine (HDB.out _).mono ?_
          rintro e w4 ⟨rfl, hb4⟩
          have HB4 := hide (HB3.out.trans (hb4.mono HB3.out.size))
          clear hb4
          go_wp2_with fail
          refine bodyPost_ret (results_tmp2 rfl _ _ _) rfl ?_
          exact ⟨rfl, HB4.out⟩
      · rw [if_neg h47] at hpv
        have h47d : decide (47 ∈ L) = false := by simpa using h47
        rw [if_neg h47, h47d, show strB [] = ⟨#[]⟩ from rfl] at HC47
        have hn3 : ¬ (¬ allDg a ∨ (47 ∈ L ∧ ¬ allDg (KI.behind 47 L))) := fun h => by
          rcases h with h | h
          · exact h hda
          · exact h47 h.1
        have e : parseE s.data.toList = 0 := by rw [hpe, if_neg hn3, if_neg (fun h => h47 h.1)]
        rw [show parseS s.data.toList = ratS (parseV s.data.toList) by unfold parseS; rw [if_pos e], e, hpv]
        have HWH := hide (fun w => mwhole_any ⟨#[49]⟩ (by
          intro c hc
          have h49 : c = 49 := by simpa using hc
          rw [h49]
          rfl) w)
        rw [show dv (⟨#[49]⟩ : ByteArray).data.toList = 1 from rfl, one_dec, show strB [49] = ⟨#[49]⟩ from rfl] at HWH
        have HF := hide (fun w hB hT => HFR.out A ⟨#[49]⟩ 1 (by rw [hAl]; exact hda.2) (by omega) (by rw [one_dec]) (by decide) (by decide) w hB hT)
        rw [hAl] at HF
        obtain ⟨X, hX⟩ : ∃ X, X = strB (ratS (sgn neg ((dv a : Nat) / ((1 : Nat) : Rat)))) := ⟨_, rfl⟩
        rw [show pairV (ratS (sgn neg ((dv a : Nat) / ((1 : Nat) : Rat)))) 0 = .tuple #[.string X, .int .i64 0] by rw [hX]]
        rw [← hX] at HF
        clear hda e hn3 h47 h47d hal HFR hX
        clear hpe hpv h90 hneg hL hLl hO hOl hOs hSG h46 hT hA hAl hAs HD1
        go_enter Tryz.func13, Tryz.ntmps13
        go_wp2_with fail
        refine (HSI.out).mono ?_
        rintro e w1 ⟨rfl, hb1⟩
        have HB1 := hide hb1
        clear hb1
        go_wp2_with fail
        refine (HC46.out _ (HT.out.on HB1.out hB)).mono ?_
        rintro e w2 ⟨rfl, hb2⟩
        have HB2 := hide (HB1.out.trans (hb2.mono HB1.out.size))
        clear hb2
        go_wp2_with fail
        refine (HC47.out _ (HT.out.on HB2.out hB)).mono ?_
        rintro e w2b ⟨rfl, hb2b⟩
        have HB2b := hide (HB2.out.trans (hb2b.mono HB2.out.size))
        clear hb2b
        go_wp2_with fail
        refine (HDA.out _).mono ?_
        rintro e w3 ⟨rfl, hb3⟩
        have HB3 := hide (HB2b.out.trans (hb3.mono HB2b.out.size))
        clear hb3
        go_wp2_with fail
        refine (HWH.out _).mono ?_
        rintro e w5 ⟨rfl, hb5⟩
        have HB5 := hide (HB3.out.trans (hb5.mono HB3.out.size))
        clear hb5
        go_wp2_with fail
        refine (HF.out _ (Nat.le_trans hB HB5.out.size) (HT.out.on HB5.out hB)).mono ?_
        rintro e w6 ⟨rfl, hb6⟩
        have HB6 := hide (HB5.out.trans (hb6.mono HB5.out.size))
        clear hb6
        go_wp2_with fail
        refine bodyPost_ret (results_tmp2 rfl _ _ _) rfl ?_
        exact ⟨rfl, HB6.out⟩
    · have HDA := hide (HD1.out false (by simpa using hda))
      have e : parseE s.data.toList = 3 := by rw [hpe, if_pos (.inl hda)]
      rw [show parseS s.data.toList = [] by unfold parseS; rw [e, if_neg (by decide)], e, pairV_err]
      obtain ⟨C, hC⟩ : ∃ O, O = strB (if 47 ∈ L then KI.behind 47 L else []) := ⟨_, rfl⟩
      obtain ⟨is, his⟩ : ∃ is, is = decide (47 ∈ L) := ⟨_, rfl⟩
      rw [← hC, ← his] at HC47
      clear hda e hal HFR hC his
      clear hpe hpv h90 hneg hL hLl hO hOl hOs hSG h46 hT hA hAl hAs HD1
      go_enter Tryz.func13, Tryz.ntmps13
      go_wp2_with fail
      refine (HSI.out).mono ?_
      rintro e w1 ⟨rfl, hb1⟩
      have HB1 := hide hb1
      clear hb1
      go_wp2_with fail
      refine (HC46.out _ (HT.out.on HB1.out hB)).mono ?_
      rintro e w2 ⟨rfl, hb2⟩
      have HB2 := hide (HB1.out.trans (hb2.mono HB1.out.size))
      clear hb2
      go_wp2_with fail
      refine (HC47.out _ (HT.out.on HB2.out hB)).mono ?_
      rintro e w2b ⟨rfl, hb2b⟩
      have HB2b := hide (HB2.out.trans (hb2b.mono HB2.out.size))
      clear hb2b
      go_wp2_with fail
      refine (HDA.out _).mono ?_
      rintro e w3 ⟨rfl, hb3⟩
      have HB3 := hide (HB2b.out.trans (hb3.mono HB2b.out.size))
      clear hb3
      go_wp2_with fail
      refine bodyPost_ret (results_tmp2 rfl _ _ _) rfl ?_
      exact ⟨rfl, HB3.out⟩
end Go.Proofs.YtfcjaljaomknjaaGreatDoor
