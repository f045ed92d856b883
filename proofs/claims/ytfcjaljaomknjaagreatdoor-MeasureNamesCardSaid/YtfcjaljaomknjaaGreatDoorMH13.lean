/-
  Texts laid together.
-/
import Derived.Test.YtfcjaljaomknjaaGreatDoorMH12
import Derived.Test.YtfcjaljaomknjaaGreatDoorMH11
set_option maxRecDepth 100000
set_option maxHeartbeats 8000000
namespace Go.KI
open Go
theorem dec_lit {l : List UInt8} (h0 : l ≠ []) (hd : ∀ c ∈ l, isDg c = true) (h1 : 1 < l.length → l.head? ≠ some 48) {u : Nat} (hu : dv l = u) : Lib.decDigits u = l := by
  rw [← hu]
  exact (dec_of h0 hd h1).symm
theorem sz_90 {q : Rat} (h : sz 90 q) : fitsQ q := sz_fits h (by rw [most_eq]; omega)
theorem chkM_short {q : Rat} (h : sz 90 q) : chkM (ratS q) = 0 := by
  unfold chkM
  rw [ratS_num, if_neg (by simp [chkQ_fits (sz_90 h)]), if_neg]
  have h1 := (dec_len_le (u := q.num.natAbs) (n := 90) (by omega)).2 h.1
  have h2 := (dec_len_le (u := q.den) (n := 90) (by omega)).2 h.2
  omega
end Go.KI
namespace Go.Proofs.YtfcjaljaomknjaaGreatDoor
open Go.RowKit Go.KP Go.KI Go.Shelf
attribute [local go_sem] Oper.semAt_some

theorem chkP_short {q : Rat} (h : sz 90 q) {p : Nat} (hp : p ≤ 100) : chkP (ratS q) (p : Int) = 0 := by
  unfold chkP
  rw [if_neg (by simp [chkM_short h]), if_neg (by omega)]
theorem mPrint_to {s : ByteArray} {q : Rat} {p : Nat} (h : s.data.toList = ratS q) (f : sz 90 q) (hp : p ≤ 100) (B : Nat) (w : World) (hB : B ≤ w.heap.size) (hT : PQ B w) :
    Calls Tryz.prog 9 #[.string s, .int .i64 p] w (Ret w (.tuple #[.string (strB (decT (unitsP q p) p)), .int .i64 0])) := by
  have h1 := mPrint_any s (good_len h (sz_90 f)) (p : Int) B w hB hT
  unfold printS at h1
  rw [h, chkP_short f hp, if_pos rfl, ratS_num, Int.toNat_natCast] at h1
  exact h1
theorem mFeet_to {s : ByteArray} {q : Rat} (h : s.data.toList = ratS q) (f : sz 90 q) (B : Nat) (w : World) (hB : B ≤ w.heap.size) (hT : PQ B w) :
    Calls Tryz.prog 15 #[.string s] w (Ret w (.tuple #[.string (strB (feetT (twelfths q))), .int .i64 0])) := by
  have h1 := mFeet_any s (good_len h (sz_90 f)) B w hB hT
  unfold feetS at h1
  rw [h, chkM_short f, if_pos rfl, ratS_num] at h1
  exact h1
theorem mParseFeet_to {s : ByteArray} {q : Rat} (h1 : feetOK s.data.toList) (hl : s.size ≤ 90) (h2 : feetQ s.data.toList = q) (B : Nat) (w : World) (hB : B ≤ w.heap.size) (hT : PQ B w) :
    Calls Tryz.prog 17 #[.string s] w (Ret w (.tuple #[.string (strB (ratS q)), .int .i64 0])) := by
  have h := mParseFeet_any s B w hB hT
  have e : feetE s.data.toList = 0 := by unfold feetE; rw [bytes_len, if_neg (by omega), if_pos h1]
  unfold feetR at h
  rw [e, if_pos rfl, h2] at h
  exact h
abbrev q52 : Rat := ⟨5, 2, by decide, by decide⟩
abbrev qm52 : Rat := ⟨-5, 2, by decide, by decide⟩
abbrev q13 : Rat := ⟨1, 3, by decide, by decide⟩
abbrev q1275 : Rat := ⟨127, 5, by decide, by decide⟩
theorem dig1 (u : Nat) (h : u < 10) : Lib.decDigits u = [UInt8.ofNat (48 + u)] := Lib.decDigits_one h
theorem t52 : (⟨#[53, 47, 50]⟩ : ByteArray).data.toList = ratS q52 := by
  unfold ratS
  rw [if_neg (by decide), show q52.num = ((5 : Nat) : Int) from rfl, Lib.itoa_nonneg, dig1 5 (by omega), show q52.den = 2 from rfl, dig1 2 (by omega)]
  rfl
theorem tm52 : (⟨#[45, 53, 47, 50]⟩ : ByteArray).data.toList = ratS qm52 := by
  unfold ratS
  rw [if_neg (by decide), show qm52.num = -((5 : Nat) : Int) from rfl, Lib.itoa_neg 5 (by omega), dig1 5 (by omega), show qm52.den = 2 from rfl, dig1 2 (by omega)]
  rfl
theorem t13 : (⟨#[49, 47, 51]⟩ : ByteArray).data.toList = ratS q13 := by
  unfold ratS
  rw [if_neg (by decide), show q13.num = ((1 : Nat) : Int) from rfl, Lib.itoa_nonneg, dig1 1 (by omega), show q13.den = 3 from rfl, dig1 3 (by omega)]
  rfl
theorem t1275 : (⟨#[49, 50, 55, 47, 53]⟩ : ByteArray).data.toList = ratS q1275 := by
  unfold ratS
  rw [if_neg (by decide), show q1275.num = ((127 : Nat) : Int) from rfl, Lib.itoa_nonneg, dec_lit (l := [49, 50, 55]) (by decide) (by decide) (by decide) (u := 127) rfl, show q1275.den = 5 from rfl, dig1 5 (by omega)]
  rfl
theorem t1000 : (⟨#[49, 48, 48, 48]⟩ : ByteArray).data.toList = ratS ((1000 : Nat) : Rat) := by
  rw [ratS_nat, dec_lit (l := [49, 48, 48, 48]) (by decide) (by decide) (by decide) (u := 1000) rfl]
theorem p52 : strB (decT (unitsP q52 0) 0) = ⟨#[51]⟩ := by
  rw [show unitsP q52 0 = 3 from by decide]
  unfold decT
  rw [if_neg (by decide), if_pos rfl, show (3 : Int).natAbs = 3 from rfl, dig1 3 (by omega)]
  rfl
theorem pm52 : strB (decT (unitsP qm52 0) 0) = ⟨#[45, 50]⟩ := by
  rw [show unitsP qm52 0 = -2 from by decide]
  unfold decT
  rw [if_pos (by decide), if_pos rfl, show (-2 : Int).natAbs = 2 from rfl, dig1 2 (by omega)]
  rfl
theorem p13 : strB (decT (unitsP q13 2) 2) = ⟨#[48, 46, 51, 51]⟩ := by
  rw [show unitsP q13 2 = 33 from by decide]
  unfold decT own
  rw [show (33 : Int).natAbs = 33 from rfl, dec_lit (l := [51, 51]) (by decide) (by decide) (by decide) (u := 33) rfl, if_neg (by decide), if_neg (by decide)]
  rfl
theorem f1000 : strB (feetT (twelfths ((1000 : Nat) : Rat))) = ⟨#[51, 39, 51, 34, 52]⟩ := by
  rw [show twelfths ((1000 : Nat) : Rat) = 472 from by decide]
  unfold feetT
  rw [show (472 : Int).natAbs = 472 from rfl, dig1 (472 / 144) (by omega), dig1 (472 % 144 % 12) (by omega)]
  rfl
theorem f010 : feetOK (⟨#[48, 39, 49, 34, 48]⟩ : ByteArray).data.toList := by
  show feetOK [48, 39, 49, 34, 48]
  decide
theorem fq010 : feetQ (⟨#[48, 39, 49, 34, 48]⟩ : ByteArray).data.toList = q1275 := by
  show feetQ [48, 39, 49, 34, 48] = q1275
  decide +kernel
theorem mx4 (w : World) : (Builtin.max_ #[25, 25, 25, 25] 25 #[.int .i64 0, .int .i64 0, .int .i64 0, .int .i64 0]).run Tryz.prog w = .ok (.int .i64 0) w := by kernel_rfl
theorem mawake_any (B : Nat) (w : World) (hB : B ≤ w.heap.size) (hT : PQ B w) :
    Calls Tryz.prog 8 #[] w (Ret w (.bool true)) := by
  have HT := hide hT
  have H1 := hide (mPrint_to t52 (by exact ⟨by decide +kernel, by decide +kernel⟩) (p := 0) (by omega) B w hB hT)
  rw [p52] at H1
  have H2 := hide (fun w hB hT => mPrint_to tm52 (by exact ⟨by decide +kernel, by decide +kernel⟩) (p := 0) (by omega) B w hB hT)
  rw [pm52] at H2
  have H3 := hide (fun w hB hT => mPrint_to t13 (by exact ⟨by decide +kernel, by decide +kernel⟩) (p := 2) (by omega) B w hB hT)
  rw [p13] at H3
  have H4 := hide (fun w hB hT => mFeet_to t1000 (by exact sz_nat (by decide +kernel) (by omega)) B w hB hT)
  rw [f1000] at H4
  have H5 := hide (fun w hB hT => mParseFeet_to f010 (by decide) fq010 B w hB hT)
  rw [show strB (ratS q1275) = ⟨#[49, 50, 55, 47, 53]⟩ by rw [← t1275]; rfl] at H5
  have hmx := mx4
  clear hT
  go_enter Tryz.func8, Tryz.ntmps8
  go_wp2_with fail
  refine H1.out.mono ?_
  rintro e w1 ⟨rfl, hb1⟩
  have HB1 := hide hb1
  clear hb1
  go_wp2_with fail
  refine (H2.out _ (Nat.le_trans hB HB1.out.size) (HT.out.on HB1.out hB)).mono ?_
  rintro e w2 ⟨rfl, hb2⟩
  have HB2 := hide (HB1.out.trans (hb2.mono HB1.out.size))
  clear hb2
  go_wp2_with fail
  refine (H3.out _ (Nat.le_trans hB HB2.out.size) (HT.out.on HB2.out hB)).mono ?_
  rintro e w3 ⟨rfl, hb3⟩
  have HB3 := hide (HB2.out.trans (hb3.mono HB2.out.size))
  clear hb3
  go_wp2_with fail
  refine (H4.out _ (Nat.le_trans hB HB3.out.size) (HT.out.on HB3.out hB)).mono ?_
  rintro e w4 ⟨rfl, hb4⟩
  have HB4 := hide (HB3.out.trans (hb4.mono HB3.out.size))
  clear hb4
  go_wp2_with fail
  refine (H5.out _ (Nat.le_trans hB HB4.out.size) (HT.out.on HB4.out hB)).mono ?_
  rintro e w5 ⟨rfl, hb5⟩
  have HB5 := hide (HB4.out.trans (hb5.mono HB4.out.size))
  clear hb5
  go_wp2_with fail
  go_ret
  exact ⟨rfl, HB5.out⟩
def fineQ (l : List UInt8) : Prop := l.length ≤ 30 ∧ chkQ l = 0
instance (l : List UInt8) : Decidable (fineQ l) := inferInstanceAs (Decidable (_ ∧ _))
end Go.Proofs.YtfcjaljaomknjaaGreatDoor
namespace Go.KI
open Go
def cutset36 : List UInt8 := [97, 98, 99, 100, 101, 102, 103, 104, 105, 106, 107, 108, 109, 110, 111, 112, 113, 114, 115, 116, 117, 118, 119, 120, 121, 122, 48, 49, 50, 51, 52, 53, 54, 55, 56, 57]
theorem lower_table : ∀ n : Fin 256, alnum (UInt8.ofNat n.val) = true → cutset36.contains (Lib.lowerB (UInt8.ofNat n.val)) = true := by decide +kernel
theorem lower_in {c : UInt8} (h : alnum c = true) : cutset36.contains (Lib.lowerB c) = true := by
  have h1 := lower_table ⟨c.toNat, c.toNat_lt⟩
  rw [UInt8.ofNat_toNat] at h1
  exact h1 h
theorem drop_while_all {p : UInt8 → Bool} {l : List UInt8} (h : ∀ c ∈ l, p c = true) : l.dropWhile p = [] := by
  induction l with
  | nil => rfl
  | cons a b ih => rw [List.dropWhile_cons, if_pos (h a (by simp)), ih (fun c hc => h c (by simp [hc]))]
theorem trim_lower {l : List UInt8} (h : l.all alnum = true) : Lib.trimS (Lib.toLowerA l) cutset36 = [] := by
  have h1 : ∀ c ∈ Lib.toLowerA l, cutset36.contains c = true := by
    intro c hc
    unfold Lib.toLowerA at hc
    obtain ⟨a, ha, rfl⟩ := List.mem_map.1 hc
    exact lower_in (List.all_eq_true.1 h a ha)
  have h2 : Lib.trimRightS (Lib.toLowerA l) cutset36 = [] := by
    unfold Lib.trimRightS
    rw [drop_while_all (fun c hc => h1 c (List.mem_reverse.1 hc))]
    rfl
  unfold Lib.trimS
  rw [h2]
  rfl
theorem name_all {l : List UInt8} (h : nameL l = true) : l.all alnum = true ∧ l ≠ [] ∧ l.length ≤ 16 := by
  unfold nameL at h
  simp only [Bool.and_eq_true, decide_eq_true_eq] at h
  exact ⟨h.1.1, fun e => by rw [e] at h; simp at h, h.2⟩
end Go.KI
namespace Go.Proofs.YtfcjaljaomknjaaGreatDoor
open Go.RowKit Go.KP Go.KI Go.Shelf
attribute [local go_sem] Oper.semAt_some

theorem trim36_any (s : ByteArray) (w : World) (hs : s.size ≤ 9223372036854775807) :
    Calls Tryz.prog 32 #[.string s, .string ⟨#[97, 98, 99, 100, 101, 102, 103, 104, 105, 106, 107, 108, 109, 110, 111, 112, 113, 114, 115, 116, 117, 118, 119, 120, 121, 122, 48, 49, 50, 51, 52, 53, 54, 55, 56, 57]⟩] w fun e w' => e = .returned (.string (strB (Lib.trimS s.data.toList cutset36))) ∧ Below w.heap.size w w' :=
  (Any.strings_Trim_laid Tryz.lays160 (by kernel_rfl) s ⟨#[97, 98, 99, 100, 101, 102, 103, 104, 105, 106, 107, 108, 109, 110, 111, 112, 113, 114, 115, 116, 117, 118, 119, 120, 121, 122, 48, 49, 50, 51, 52, 53, 54, 55, 56, 57]⟩ w hs (by decide) (by
    intro j b h
    have hm : b ∈ cutset36 := List.mem_of_getElem? h
    have h2 : ∀ b ∈ cutset36, b.toNat < 128 := by decide
    exact h2 b hm)).mono fun e w' ⟨h, hw⟩ => ⟨h, hw⟩
theorem measureNames_any (s t : ByteArray) (hss : s.size ≤ 9223372036854775807) (htt : t.size ≤ 9223372036854775807) (B : Nat) (w : World) (hB : B ≤ w.heap.size) (hT : PQ B w) :
    Calls Tryz.prog 6 #[.string s, .string t] w (Ret w (.bool true)) := by
  have HT := hide (hT.mono hB)
  clear hT hB B
  have HAW := hide (fun w2 (h : Below w.heap.size w w2) => mawake_any w.heap.size w2 h.size (HT.out.on h (Nat.le_refl _)))
  by_cases h1 : 40 < s.size
  · have m1 : (40 : Int) < (s.size : Int) := by omega
    clear h1 hss htt
    go_enter Tryz.func6, Tryz.ntmps6
    go_wp2_with fail
    refine (HAW.out _ (Below.refl w.heap.size w)).mono ?_
    rintro e w9 ⟨rfl, hb9⟩
    have HB9 := hide (Below.trans (Below.refl w.heap.size w) (hb9.mono (Below.refl w.heap.size w).size))
    clear hb9
    go_wp2_with fail
    refine bodyPost_ret (results_tmp rfl _ _ _) rfl ?_
    exact ⟨rfl, HB9.out⟩
  have m1 : ((40 : Int) < (s.size : Int)) = False := eq_false (by omega)
  by_cases h2 : 40 < t.size
  · have m2 : (40 : Int) < (t.size : Int) := by omega
    clear h1 h2 hss htt
    go_enter Tryz.func6, Tryz.ntmps6
    go_wp2_with fail
    refine (HAW.out _ (Below.refl w.heap.size w)).mono ?_
    rintro e w9 ⟨rfl, hb9⟩
    have HB9 := hide (Below.trans (Below.refl w.heap.size w) (hb9.mono (Below.refl w.heap.size w).size))
    clear hb9
    go_wp2_with fail
    refine bodyPost_ret (results_tmp rfl _ _ _) rfl ?_
    exact ⟨rfl, HB9.out⟩
  have m2 : ((40 : Int) < (t.size : Int)) = False := eq_false (by omega)
  have HI := hide (fun w => mIsName_any s (by omega) w)
  obtain ⟨l, hl⟩ : ∃ l, l = s.data.toList := ⟨_, rfl⟩
  have hll : l.length = s.size := by rw [hl, bytes_len]
  rw [← hl] at HI
  by_cases hn : nameL l = true
  rotate_left
  · have hnf : nameL l = false := by simpa using hn
    rw [hnf] at HI
    clear hn hnf hl hll h1 h2 hss htt
    go_enter Tryz.func6, Tryz.ntmps6
    go_wp2_with fail
    refine (HI.out _).mono ?_
    rintro e w1 ⟨rfl, hb1⟩
    have HB1 := hide (Below.trans (Below.refl w.heap.size w) (hb1.mono (Below.refl w.heap.size w).size))
    clear hb1
    go_wp2_with fail
    refine (HAW.out _ (HB1.out)).mono ?_
    rintro e w9 ⟨rfl, hb9⟩
    have HB9 := hide (Below.trans (HB1.out) (hb9.mono (HB1.out).size))
    clear hb9
    go_wp2_with fail
    refine bodyPost_ret (results_tmp rfl _ _ _) rfl ?_
    exact ⟨rfl, HB9.out⟩
  rw [hn] at HI
  obtain ⟨a1, a2, a3⟩ := name_all hn
  obtain ⟨w1, w2⟩ := words_name hn
  have hsl : s = strB l := by rw [hl]; rfl
  have HE := hide (wordsE_ok (l := l) (by omega) w2)
  have HW := hide (fun w2 (h : Below w.heap.size w w2) => (mWords_any s (by omega) w.heap.size w2 h.size (HT.out.on h (Nat.le_refl _))).mono (fun e w' (k : WordsAt w2 s.data.toList e w') => show ∃ g cap, e = .returned (.tuple #[.slice (some ⟨g, 0, none⟩) 1 cap, .int .i64 0]) ∧ w'.cell? ⟨g, 0, none⟩ = some (.string s) ∧ Below w2.heap.size w2 w' from by
    rw [← hl] at k
    obtain ⟨v, k1, k2, k3⟩ := k
    rw [HE.out] at k1
    rw [if_pos HE.out, w1] at k2
    obtain ⟨_, _, k2⟩ := k2
    rcases k2.2 with ⟨_, q⟩ | ⟨g, cap, cur, hv, _⟩
    · cases q
    · refine ⟨g, cap, by rw [k1, hv]; rfl, ?_, k3⟩
      have hc := k2.cells (g := g) (by rw [hv]; rfl) 0 (.string (strB l)) rfl
      rw [← hsl] at hc
      exact hc))
  have HL := hide (fun w => Tryz.strings_ToLower_ascii s w (by omega) (fun j b hb => by
    rw [← hl] at hb
    have := List.all_eq_true.1 a1 b (List.mem_of_getElem? hb)
    have h3 := alnum_iff.1 this
    omega))
  rw [← hl] at HL
  obtain ⟨X, hX⟩ : ∃ X : ByteArray, X = ⟨(Lib.toLowerA l).toArray⟩ := ⟨_, rfl⟩
  rw [← hX] at HL
  have hXl : X.data.toList = Lib.toLowerA l := by rw [hX]
  have hXs : X.size ≤ 40 := by rw [← bytes_len, hXl]; unfold Lib.toLowerA; rw [List.length_map]; omega
  have HTR := hide (fun w => trim36_any X w (by omega))
  rw [hXl, trim_lower a1, show strB [] = (⟨#[]⟩ : ByteArray) from rfl] at HTR
  have HIT := hide (fun w => mIsName_any t (by omega) w)
  have hcs : (9223372036854775807 < s.size + t.size) = False := eq_false (by omega)
  have HIC := hide (fun w => mIsName_any (s ++ t) (by rw [ByteArray.size_append]; omega) w)
  rw [show (s ++ t).data.toList = l ++ t.data.toList by rw [ByteArray.data_append, Array.toList_append, hl]] at HIC
  obtain ⟨m, hm⟩ : ∃ m, m = t.data.toList := ⟨_, rfl⟩
  have hmm : m.length = t.size := by rw [hm, bytes_len]
  rw [← hm] at HIT HIC
  have m16 : ((16 : Int) < (s.size : Int)) = False := eq_false (by omega)
  have e1 : (s.toList == s.toList) = true := beq_self_eq_true _
  have e2 : (s.toList != s.toList) = false := by simp only [bne, e1]; rfl
  have hs16 : s.size ≤ 40 := by omega
  have ht40 : t.size ≤ 40 := by omega
  by_cases hmn : nameL m = true
  · rw [hmn] at HIT
    have hap := name_append hn hmn
    rw [hll, hmm] at hap
    by_cases h16 : s.size + t.size ≤ 16
    · rw [hap, decide_eq_true h16] at HIC
      have q1 : (s.size : Int) + (t.size : Int) ≤ 16 := by omega
      clear hap h16 hmn hm hmm hX hXl hXs hn a1 a2 a3 w1 w2 hsl hl hll h1 h2 hss htt HE
      go_enter Tryz.func6, Tryz.ntmps6
      go_wp2_with fail
      refine (HI.out _).mono ?_
      rintro e w1 ⟨rfl, hb1⟩
      have HB1 := hide (Below.trans (Below.refl w.heap.size w) (hb1.mono (Below.refl w.heap.size w).size))
      clear hb1
      go_wp2_with fail
      refine (HW.out _ HB1.out).mono ?_
      rintro e w2 ⟨g, cap, rfl, hc, hb2⟩
      have HB2 := hide (Below.trans HB1.out (hb2.mono HB1.out.size))
      have hg : g < w2.heap.size := by
        unfold World.cell? at hc
        cases hh : w2.heap[g]? with
        | none => simp [hh] at hc
        | some o => exact (Array.getElem?_eq_some_iff.1 hh).1
      clear hb2
      go_wp2_with fail
      refine (HL.out _).mono ?_
      rintro e w3 ⟨rfl, hb3⟩
      have HB3 := hide (Below.trans (HB2.out) (hb3.mono (HB2.out).size))
      clear hb3
      go_wp2_with fail
      refine (HTR.out _).mono ?_
      rintro e w4 ⟨rfl, hb4⟩
      have HB4 := hide (Below.trans (HB3.out) (hb4.mono (HB3.out).size))
      clear hb4
      clear hc hg
      go_wp2_with fail
      refine (HIT.out _).mono ?_
      rintro e w5 ⟨rfl, hb5⟩
      have HB5 := hide (Below.trans (HB4.out) (hb5.mono (HB4.out).size))
      clear hb5
      go_wp2_with fail
      refine (HIC.out _).mono ?_
      rintro e w6 ⟨rfl, hb6⟩
      have HB6 := hide (Below.trans (HB5.out) (hb6.mono (HB5.out).size))
      clear hb6
      go_wp2_with fail
      refine (HAW.out _ (HB6.out)).mono ?_
      rintro e w9 ⟨rfl, hb9⟩
      have HB9 := hide (Below.trans (HB6.out) (hb9.mono (HB6.out).size))
      clear hb9
      go_wp2_with fail
      refine bodyPost_ret (results_tmp rfl _ _ _) rfl ?_
      exact ⟨rfl, HB9.out⟩
    · rw [hap, decide_eq_false h16] at HIC
      have q1 : ((s.size : Int) + (t.size : Int) ≤ 16) = False := eq_false (by omega)
      clear hap h16 hmn hm hmm hX hXl hXs hn a1 a2 a3 w1 w2 hsl hl hll h1 h2 hss htt HE
      go_enter Tryz.func6, Tryz.ntmps6
      go_wp2_with fail
      refine (HI.out _).mono ?_
      rintro e w1 ⟨rfl, hb1⟩
      have HB1 := hide (Below.trans (Below.refl w.heap.size w) (hb1.mono (Below.refl w.heap.size w).size))
      clear hb1
      go_wp2_with fail
      refine (HW.out _ HB1.out).mono ?_
      rintro e w2 ⟨g, cap, rfl, hc, hb2⟩
      have HB2 := hide (Below.trans HB1.out (hb2.mono HB1.out.size))
      have hg : g < w2.heap.size := by
        unfold World.cell? at hc
        cases hh : w2.heap[g]? with
        | none => simp [hh] at hc
        | some o => exact (Array.getElem?_eq_some_iff.1 hh).1
      clear hb2
      go_wp2_with fail
      refine (HL.out _).mono ?_
      rintro e w3 ⟨rfl, hb3⟩
      have HB3 := hide (Below.trans (HB2.out) (hb3.mono (HB2.out).size))
      clear hb3
      go_wp2_with fail
      refine (HTR.out _).mono ?_
      rintro e w4 ⟨rfl, hb4⟩
      have HB4 := hide (Below.trans (HB3.out) (hb4.mono (HB3.out).size))
      clear hb4
      clear hc hg
      go_wp2_with fail
      refine (HIT.out _).mono ?_
      rintro e w5 ⟨rfl, hb5⟩
      have HB5 := hide (Below.trans (HB4.out) (hb5.mono (HB4.out).size))
      clear hb5
      go_wp2_with fail
      refine (HIC.out _).mono ?_
      rintro e w6 ⟨rfl, hb6⟩
      have HB6 := hide (Below.trans (HB5.out) (hb6.mono (HB5.out).size))
      clear hb6
      go_wp2_with fail
      refine (HAW.out _ (HB6.out)).mono ?_
      rintro e w9 ⟨rfl, hb9⟩
      have HB9 := hide (Below.trans (HB6.out) (hb9.mono (HB6.out).size))
      clear hb9
      go_wp2_with fail
      refine bodyPost_ret (results_tmp rfl _ _ _) rfl ?_
      exact ⟨rfl, HB9.out⟩
  · have hmf : nameL m = false := by simpa using hmn
    rw [hmf] at HIT
    clear hmn hmf hm hmm hX hXl hXs hn a1 a2 a3 w1 w2 hsl hl hll h1 h2 hss htt HE HIC
    go_enter Tryz.func6, Tryz.ntmps6
    go_wp2_with fail
    refine (HI.out _).mono ?_
    rintro e w1 ⟨rfl, hb1⟩
    have HB1 := hide (Below.trans (Below.refl w.heap.size w) (hb1.mono (Below.refl w.heap.size w).size))
    clear hb1
    go_wp2_with fail
    refine (HW.out _ HB1.out).mono ?_
    rintro e w2 ⟨g, cap, rfl, hc, hb2⟩
    have HB2 := hide (Below.trans HB1.out (hb2.mono HB1.out.size))
    have hg : g < w2.heap.size := by
      unfold World.cell? at hc
      cases hh : w2.heap[g]? with
      | none => simp [hh] at hc
      | some o => exact (Array.getElem?_eq_some_iff.1 hh).1
    clear hb2
    go_wp2_with fail
    refine (HL.out _).mono ?_
    rintro e w3 ⟨rfl, hb3⟩
    have HB3 := hide (Below.trans (HB2.out) (hb3.mono (HB2.out).size))
    clear hb3
    go_wp2_with fail
    refine (HTR.out _).mono ?_
    rintro e w4 ⟨rfl, hb4⟩
    have HB4 := hide (Below.trans (HB3.out) (hb4.mono (HB3.out).size))
    clear hb4
    clear hc hg
    go_wp2_with fail
    refine (HIT.out _).mono ?_
    rintro e w5 ⟨rfl, hb5⟩
    have HB5 := hide (Below.trans (HB4.out) (hb5.mono (HB4.out).size))
    clear hb5
    go_wp2_with fail
    refine (HAW.out _ (HB5.out)).mono ?_
    rintro e w9 ⟨rfl, hb9⟩
    have HB9 := hide (Below.trans (HB5.out) (hb9.mono (HB5.out).size))
    clear hb9
    go_wp2_with fail
    refine bodyPost_ret (results_tmp rfl _ _ _) rfl ?_
    exact ⟨rfl, HB9.out⟩
end Go.Proofs.YtfcjaljaomknjaaGreatDoor
