/-
  The library's functions that integers call, in short words; Check, both and small walked.
-/
import Derived.Test.YthkioajalhglfaaGreatDoorShelfB
import Derived.Shelf.Strings.SlTrimAscii
import Derived.Lib.ItoaLen
import Derived.Lib.AppendIntMem
import Derived.Test.YthkioajalhglfaaGreatDoorPa
namespace Go.Proofs.YthkioajalhglfaaGreatDoor
open Go.RowKit Go.KP Go.KI Go.Shelf

/-- The table of powers of ten stands. -/
abbrev P10 (B : Nat) (w : World) : Prop := Lib.TabBelow Tryz.prog B w "internal/strconv.uint64pow10" .u64 Lib.pow10Tab
theorem P10.mono {B B2 : Nat} {w : World} (h : P10 B w) (hB : B ≤ B2) : P10 B2 w := fun w' hb => h w' (hb.mono hB)
theorem below_grow (w : World) (n : Nat) (os : Array Obj) : Below w.heap.size w (Go.Sort.grow (w.drewN n) os) :=
  ⟨rfl, rfl, rfl, by show w.heap.size ≤ (w.heap ++ os).size; rw [Array.size_append]; omega, fun j hj => by
    show (w.heap ++ os)[j]? = w.heap[j]?
    rw [Array.getElem?_append_left hj]⟩
/-- A string by its bytes. -/
def strB (l : List UInt8) : ByteArray := ⟨l.toArray⟩
theorem strB_list (l : List UInt8) : (strB l).data.toList = l := by simp [strB]
theorem strB_of (s : ByteArray) : strB s.data.toList = s := rfl
theorem strB_size (l : List UInt8) : (strB l).size = l.length := by
  show l.toArray.size = l.length
  simp
theorem bytes_len (s : ByteArray) : s.data.toList.length = s.size := by rw [Array.length_toList]; rfl
theorem bytes_eq {s t : ByteArray} (h : s.data.toList = t.data.toList) : s = t := by
  rw [← strB_of s, h, strB_of]
theorem itoa_any (n : Int) (h0 : -9223372036854775808 ≤ n) (h1 : n ≤ 9223372036854775807) (B : Nat) (w : World) (hT : P10 B w) :
    Calls Tryz.prog 34 #[.int .i64 n] w fun e w' => e = .returned (.string (strB (Lib.itoa n))) ∧ Below w.heap.size w w' :=
  (Tryz.strconv_Itoa n h0 h1 w hT.here).mono fun e w' ⟨h, k, os, hw⟩ => ⟨h, by rw [hw]; exact below_grow w k os⟩
theorem trimPrefix_digs (l : List UInt8) : Lib.trimPrefix l [45] = digs l := by
  cases l with
  | nil => rfl
  | cons c r =>
    by_cases h : c = 45
    · subst h
      simp [Lib.trimPrefix, Lib.hasPrefix, digs, List.isPrefixOf]
    · simp [Lib.trimPrefix, Lib.hasPrefix, digs, List.isPrefixOf, h, Ne.symm h]
theorem trimPrefix_any (s : ByteArray) (w : World) :
    Calls Tryz.prog 62 #[.string s, .string ⟨#[45]⟩] w fun e w' => e = .returned (.string (strB (digs s.data.toList))) ∧ w = w' :=
  (Tryz.strings_TrimPrefix s ⟨#[45]⟩ w).mono fun e w' ⟨h, hw⟩ => ⟨by rw [h, ← trimPrefix_digs]; rfl, hw.symm⟩
theorem cutPrefix_any (s : ByteArray) (w : World) :
    Calls Tryz.prog 66 #[.string s, .string ⟨#[45]⟩] w fun e w' => e = .returned (.tuple #[.string (strB (digs s.data.toList)), .bool (decide (s.data.toList.head? = some 45))]) ∧ w = w' :=
  (Tryz.strings_CutPrefix s ⟨#[45]⟩ w).mono fun e w' ⟨h, hw⟩ => ⟨by
    have e1 : Lib.hasPrefix s.data.toList (⟨#[45]⟩ : ByteArray).data.toList = decide (s.data.toList.head? = some 45) := by
      show Lib.hasPrefix s.data.toList [45] = _
      cases s.data.toList with
      | nil => rfl
      | cons c r =>
        by_cases h : c = 45
        · subst h
          simp [Lib.hasPrefix, List.isPrefixOf]
        · simp [Lib.hasPrefix, List.isPrefixOf, h, Ne.symm h]
    rw [h, e1, ← trimPrefix_digs]
    rfl, hw.symm⟩
def cutset : List UInt8 := [48, 49, 50, 51, 52, 53, 54, 55, 56, 57]
theorem cutset_dg (c : UInt8) : cutset.contains c = isDg c := by
  have h : ∀ n : Fin 256, cutset.contains (UInt8.ofNat n.val) = isDg (UInt8.ofNat n.val) := by decide +kernel
  have := h ⟨c.toNat, c.toNat_lt⟩
  simpa using this
theorem dropW_nil {p : UInt8 → Bool} : ∀ {l : List UInt8}, l.dropWhile p = [] ↔ l.all p = true := by
  intro l
  induction l with
  | nil => simp
  | cons a r ih =>
    by_cases h : p a = true
    · rw [List.dropWhile_cons_of_pos h, ih]
      simp [h]
    · rw [List.dropWhile_cons_of_neg h]
      simp [h]
theorem trimS_nil (l : List UInt8) : Lib.trimS l cutset = [] ↔ l.all isDg = true := by
  have hp : (fun x => cutset.contains x) = isDg := funext cutset_dg
  unfold Lib.trimS Lib.trimLeftS Lib.trimRightS
  rw [hp, dropW_nil, List.all_reverse]
  constructor
  · intro h
    cases hd : l.reverse.dropWhile isDg with
    | nil => rw [dropW_nil, List.all_reverse] at hd; exact hd
    | cons a r =>
      exfalso
      rw [hd] at h
      simp only [List.all_cons, Bool.and_eq_true] at h
      have key : ∀ l : List UInt8, ∀ a r, l.dropWhile isDg = a :: r → isDg a = false := by
        intro l
        induction l with
        | nil => intro a r h; simp at h
        | cons x t ih =>
          intro a r h
          by_cases hx : isDg x = true
          · rw [List.dropWhile_cons_of_pos hx] at h
            exact ih a r h
          · rw [List.dropWhile_cons_of_neg hx] at h
            injection h with h1 h2
            rw [← h1]
            simpa using hx
      rw [key _ _ _ hd] at h
      exact absurd h.1 (by simp)
  · intro h
    have h2 : l.reverse.dropWhile isDg = [] := by rw [dropW_nil, List.all_reverse]; exact h
    rw [h2]
    rfl
theorem trimDg_any (s : ByteArray) (w : World) (hs : s.size ≤ 9223372036854775807) :
    Calls Tryz.prog 63 #[.string s, .string ⟨#[48, 49, 50, 51, 52, 53, 54, 55, 56, 57]⟩] w fun e w' => e = .returned (.string (strB (Lib.trimS s.data.toList cutset))) ∧ Below w.heap.size w w' :=
  (Any.strings_Trim_laid Tryz.lays160 (by kernel_rfl) s ⟨#[48, 49, 50, 51, 52, 53, 54, 55, 56, 57]⟩ w hs (by decide) (by
    intro j b h
    have hm : b ∈ cutset := List.mem_of_getElem? h
    have h2 : cutset.contains b = true := by simpa using hm
    rw [cutset_dg] at h2
    have := isDg_iff.1 h2
    omega)).mono fun e w' ⟨h, hw⟩ => ⟨h, hw⟩
theorem repeat_any (s : ByteArray) (c : Nat) (w : World) (hc : c ≤ 1000000) (hs : s.size ≤ 1000) :
    Calls Tryz.prog 54 #[.string s, .int .i64 c] w fun e w' => e = .returned (.string (strB (Lib.repeatL s.data.toList c))) ∧ Below w.heap.size w w' :=
  Tryz.strings_Repeat s c w (by omega) (by have : s.size * c ≤ 1000 * 1000000 := Nat.mul_le_mul hs hc; omega)

theorem empty_yes {s : ByteArray} (h : s.data.toList = []) : s.toList.isEmpty = true := by
  rw [ByteArray.toList_eq, h]
  rfl
theorem empty_no {s : ByteArray} (h : s.data.toList ≠ []) : s.toList.isEmpty = false := by
  rw [ByteArray.toList_eq]
  cases hx : s.data.toList with
  | nil => exact absurd hx h
  | cons a r => rfl
theorem bytes_head {s : ByteArray} (h : s.data.toList ≠ []) : ∃ hp : 0 < s.size, s.data.toList.head? = some s[0] := by
  have hp : 0 < s.size := by
    rw [← bytes_len]
    exact List.length_pos_iff.2 h
  refine ⟨hp, ?_⟩
  rw [List.head?_eq_getElem?]
  have h1 : s.data.toList[0]? = some s.data[0] := by simp
  exact h1
set_option maxRecDepth 100000 in
set_option maxHeartbeats 1000000 in
theorem check_any (s : ByteArray) (hs : s.size ≤ 1000000) (w : World) :
    Calls Tryz.prog 32 #[.string s] w (Ret w (.int .i64 (chkI s.data.toList))) := by
  obtain ⟨d, hd⟩ : ∃ d, d = strB (digs s.data.toList) := ⟨_, rfl⟩
  have hdl : d.data.toList = digs s.data.toList := by rw [hd]; exact strB_list _
  have hds : d.size ≤ 1000000 := by
    rw [← bytes_len, hdl]
    have : (digs s.data.toList).length ≤ s.data.toList.length := by
      cases s.data.toList with
      | nil => exact Nat.le_refl _
      | cons c r =>
        simp only [digs]
        split <;> simp
    rw [bytes_len] at this
    omega
  have HTP := hide (trimPrefix_any s w)
  rw [← hd] at HTP
  have HC := hide (show chkI s.data.toList = if d.data.toList = [] ∨ (d.data.toList.head? = some 48 ∧ s.data.toList ≠ [48]) ∨ ¬ d.data.toList.all isDg = true then 11 else if 300 < d.data.toList.length then 4 else 0 by rw [hdl]; rfl)
  have HTR := hide (trimDg_any d w (by omega))
  have HS := hide (show s.data.toList = [48] → d.data.toList = [48] by intro h; rw [hdl, h]; rfl)
  clear hd hdl
  by_cases h0 : d.data.toList = []
  · have hemp := empty_yes h0
    have HE := hide (show chkI s.data.toList = 11 by rw [HC.out, if_pos (.inl h0)])
    clear h0
    go_enter Tryz.func32, Tryz.ntmps32
    go_wp2_with fail
    refine HTP.out.mono ?_
    rintro e w1 ⟨rfl, rfl⟩
    go_wp2_with fail
    go_ret
    rw [HE.out]
    exact ⟨rfl, Below.refl _ _⟩
  have hemp := empty_no h0
  obtain ⟨hp, hh⟩ := bytes_head h0
  have hp0 : (0 : Int) < (d.size : Int) := by omega
  by_cases h1 : d.data.toList.head? = some 48 ∧ s.data.toList ≠ [48]
  · have h48 : ((d[0].toNat : Int) == 48) = true := by
      rw [hh] at h1
      injection h1.1 with h2
      rw [h2]
      rfl
    have hne : (s.toList == [48]) = false := by
      rw [ByteArray.toList_eq]
      simpa using h1.2
    have HE := hide (show chkI s.data.toList = 11 by rw [HC.out, if_pos (.inr (.inl h1))])
    clear h0 h1 hh
    go_enter Tryz.func32, Tryz.ntmps32
    go_wp2_with fail
    refine HTP.out.mono ?_
    rintro e w1 ⟨rfl, rfl⟩
    go_wp2_with fail
    go_ret
    rw [HE.out]
    exact ⟨rfl, Below.refl _ _⟩
  have hway : (((d[0].toNat : Int) == 48) = false) ∨ (((d[0].toNat : Int) == 48) = true ∧ (s.toList == [48]) = true) := by
    by_cases h48 : d[0] = 48
    · right
      refine ⟨by rw [h48]; rfl, ?_⟩
      rw [ByteArray.toList_eq]
      have : s.data.toList = [48] := Decidable.byContradiction fun h => h1 ⟨by rw [hh, h48], h⟩
      rw [this]
      rfl
    · left
      have : d[0].toNat ≠ 48 := fun h => h48 (UInt8.toNat_inj.1 h)
      simp
      omega
  obtain ⟨tr, htr⟩ : ∃ tr, tr = strB (Lib.trimS d.data.toList cutset) := ⟨_, rfl⟩
  rw [← htr] at HTR
  have htl : tr.data.toList = Lib.trimS d.data.toList cutset := by rw [htr]; exact strB_list _
  by_cases hall : d.data.toList.all isDg = true
  · have htn : tr.data.toList = [] := by rw [htl]; exact (trimS_nil _).2 hall
    have het : tr.toList.isEmpty = true := empty_yes htn
    have HE := hide (show chkI s.data.toList = if 300 < d.size then 4 else 0 by
      rw [HC.out, if_neg (fun h => by
        rcases h with h | h | h
        · exact h0 h
        · exact h1 h
        · exact h hall), bytes_len])
    clear h0 h1 hh htr htl hall htn
    rcases hway with h48 | ⟨h48, hne⟩
    all_goals
      by_cases hl : 300 < d.size
      · have hl2 : (300 : Int) < (d.size : Int) := by omega
        have HE2 := hide (HE.out.trans (if_pos hl))
        go_enter Tryz.func32, Tryz.ntmps32
        go_wp2_with fail
        refine HTP.out.mono ?_
        rintro e w1 ⟨rfl, rfl⟩
        go_wp2_with fail
        refine HTR.out.mono ?_
        rintro e w1 ⟨rfl, hb⟩
        have HB := hide hb
        clear hb
        go_wp2_with fail
        go_ret
        rw [HE2.out]
        exact ⟨rfl, HB.out⟩
      · have hl2 : ¬ (300 : Int) < (d.size : Int) := by omega
        have HE2 := hide (HE.out.trans (if_neg hl))
        go_enter Tryz.func32, Tryz.ntmps32
        go_wp2_with fail
        refine HTP.out.mono ?_
        rintro e w1 ⟨rfl, rfl⟩
        go_wp2_with fail
        refine HTR.out.mono ?_
        rintro e w1 ⟨rfl, hb⟩
        have HB := hide hb
        clear hb
        go_wp2_with fail
        go_ret
        rw [HE2.out]
        exact ⟨rfl, HB.out⟩
  · have htn : tr.data.toList ≠ [] := by rw [htl]; exact fun h => hall ((trimS_nil _).1 h)
    have het : tr.toList.isEmpty = false := empty_no htn
    have HE := hide (show chkI s.data.toList = 11 by rw [HC.out, if_pos (.inr (.inr hall))])
    clear h0 h1 hh htr htl hall htn
    rcases hway with h48 | ⟨h48, hne⟩
    all_goals
      go_enter Tryz.func32, Tryz.ntmps32
      go_wp2_with fail
      refine HTP.out.mono ?_
      rintro e w1 ⟨rfl, rfl⟩
      go_wp2_with fail
      refine HTR.out.mono ?_
      rintro e w1 ⟨rfl, hb⟩
      have HB := hide hb
      clear hb
      go_wp2_with fail
      go_ret
      rw [HE.out]
      exact ⟨rfl, HB.out⟩
/-- The first error of two strings. -/
def bothI (a b : List UInt8) : Int := if chkI a = 0 then chkI b else chkI a
set_option maxRecDepth 100000 in
theorem both_any (s t : ByteArray) (hs : s.size ≤ 1000000) (ht : t.size ≤ 1000000) (w : World) :
    Calls Tryz.prog 36 #[.string s, .string t] w (Ret w (.int .i64 (bothI s.data.toList t.data.toList))) := by
  have H1 := hide (check_any s hs w)
  by_cases h : chkI s.data.toList = 0
  · have hq : (chkI s.data.toList != 0) = false := by simp [h]
    have HE := hide (show bothI s.data.toList t.data.toList = chkI t.data.toList by unfold bothI; rw [if_pos h])
    obtain ⟨E, hE⟩ : ∃ E, E = chkI s.data.toList := ⟨_, rfl⟩
    rw [← hE] at H1 hq
    clear h hE
    go_enter Tryz.func36, Tryz.ntmps36
    go_wp2_with fail
    refine H1.out.mono ?_
    rintro e w1 ⟨rfl, hb⟩
    have HB := hide hb
    clear hb
    go_wp2_with fail
    refine (check_any t ht w1).mono ?_
    rintro e w2 ⟨rfl, hb⟩
    have HB2 := hide (HB.out.trans (hb.mono HB.out.size))
    clear hb
    go_wp2_with fail
    go_ret
    rw [HE.out]
    exact ⟨rfl, HB2.out⟩
  · have hq : (chkI s.data.toList != 0) = true := by simpa using h
    have HE := hide (show bothI s.data.toList t.data.toList = chkI s.data.toList by unfold bothI; rw [if_neg h])
    obtain ⟨E, hE⟩ : ∃ E, E = chkI s.data.toList := ⟨_, rfl⟩
    rw [← hE] at H1 hq HE
    clear h hE
    go_enter Tryz.func36, Tryz.ntmps36
    go_wp2_with fail
    refine H1.out.mono ?_
    rintro e w1 ⟨rfl, hb⟩
    have HB := hide hb
    clear hb
    go_wp2_with fail
    go_ret
    rw [HE.out]
    exact ⟨rfl, HB.out⟩
/-- A valid string of up to 18 bytes is read by Atoi. -/
theorem atoi_valid {l : List UInt8} (h : chkI l = 0) (hl : l.length ≤ 18) : Lib.atoiAll l = .ok (valI l) := by
  obtain ⟨h1, _⟩ := chk_ok h
  have hd : ∀ (r : List UInt8), r = Lib.decDigits (valI l).natAbs → r.length ≤ 18 → ∃ c t, r = c :: t ∧ c.toNat ≠ 43 ∧ c.toNat ≠ 45 ∧ Lib.decNat r = some (valI l).natAbs := by
    intro r hr _
    cases hc : r with
    | nil => exact absurd (hr.symm.trans hc) (decDigits_ne _)
    | cons c t =>
      have h2 := isDg_iff.1 (decDigits_dg (valI l).natAbs c (by rw [← hr, hc]; simp))
      refine ⟨c, t, rfl, by omega, by omega, ?_⟩
      unfold Lib.decNat
      rw [← hc, hr, decFrom_decDigits]
      rw [← hr, hc]
      rfl
  rcases itoa_cases (valI l) with ⟨hn, h2⟩ | ⟨hn, h2⟩
  · rw [h2] at h1
    obtain ⟨c, t, hct, h3, h4, h5⟩ := hd _ rfl (by rw [h1] at hl; simp at hl; omega)
    rw [h1, Lib.atoiAll_minus, Lib.signed_short (by rw [h1] at hl; simp at hl; omega), h5, ← h2, val_itoa]
    show Lib.NumEnd.ok (-((valI l).natAbs : Int)) = _
    congr 1
    omega
  · rw [h2] at h1
    obtain ⟨c, t, hct, h3, h4, h5⟩ := hd _ rfl (by rw [← h1]; exact hl)
    have e := Lib.signless_short (l := Lib.decDigits (valI l).natAbs) (by rw [← h1]; exact hl)
    rw [h5] at e
    have e2 : Lib.atoiAll (Lib.decDigits (valI l).natAbs) = .ok ((valI l).natAbs : Int) := by
      rw [hct] at e ⊢
      rw [Lib.atoiAll_plain c t h3 h4, e]
      rfl
    rw [h1, e2, ← h2, val_itoa]
    congr 1
    omega
end Go.Proofs.YthkioajalhglfaaGreatDoor
