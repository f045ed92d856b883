/-
  Texts of the integers, laid together: Zf, Zl, Zo, Yv.
-/
import Derived.Laws.StructEq
import Derived.ChangeSame
import Derived.OpenShut
import Derived.Test.YtbfojhneajedmaaGreatDoorZ13
import Derived.Test.YtbfojhneajedmaaGreatDoorZ14
import Derived.Test.YtbfojhneajedmaaGreatDoorZ15
import Derived.Test.YtbfojhneajedmaaGreatDoorZ24
namespace Go.Proofs.YtbfojhneajedmaaGreatDoor
open Go.RowKit Go.KP Go.KI Go.Shelf
attribute [local go_sem] Oper.semAt_some

abbrev termV (c n : ByteArray) : Value := .agg #[.string c, .string n]
abbrev termO (c n : ByteArray) : Obj := .cells #[.string c, .string n] 135
/-- The longer one of a number's parts. -/
def dlen (q : Rat) : Nat := max (Lib.decDigits q.num.natAbs).length (Lib.decDigits q.den).length
theorem dlen_sz {q : Rat} {p : Nat} (h : sz p q) (hp : 1 ≤ p) : dlen q ≤ p := by
  have h1 := (dec_len_le hp).2 h.1
  have h2 := (dec_len_le hp).2 h.2
  unfold dlen
  omega
set_option maxRecDepth 100000 in
theorem sDigits_at (s : ByteArray) (w : World) :
    Calls Tryz.prog 249 #[.string s] w (fun e w' => e = .returned (.int .i64 (strB (digs s.data.toList)).size) ∧ w' = w) := by
  have H := hide (trimPrefix_any s w)
  obtain ⟨D, hD⟩ : ∃ D, D = strB (digs s.data.toList) := ⟨_, rfl⟩
  rw [← hD] at H ⊢
  clear hD
  go_enter Tryz.func249, Tryz.ntmps249
  go_wp2_with fail
  refine H.out.mono ?_
  rintro e w1 ⟨rfl, rfl⟩
  go_wp2_with fail
  go_ret
  exact ⟨rfl, rfl⟩
set_option maxRecDepth 100000 in
set_option maxHeartbeats 4000000 in
theorem sLongest_T {q : Rat} (fq : fitsQ q) (B : Nat) (w : World) (hB : B ≤ w.heap.size) (hT : PQ B w) :
    Calls Tryz.prog 207 #[.string (T q)] w (Ret w (.int .i64 (dlen q))) := by
  have H1 : Hid (Calls Tryz.prog 122 #[.string (T q)] w (Ret w (.tuple #[.string (numB q), .string (denB q), .int .i64 0]))) := hide (by
    have h := qParts_any (T q) (T_good fq).1 B w hB hT
    obtain ⟨_, g2, g3⟩ := T_good fq
    unfold partsR at h
    rw [if_pos g2, g3] at h
    exact h)
  have HN := hide (fun w => sDigits_at (numB q) w)
  have HD := hide (fun w => sDigits_at (denB q) w)
  have e1 : (strB (digs (numB q).data.toList)).size = (Lib.decDigits q.num.natAbs).length := by unfold numB; rw [strB_list, digs_itoa, strB_size]
  have e2 : (strB (digs (denB q).data.toList)).size = (Lib.decDigits q.den).length := by unfold denB; rw [strB_list, digs_itoa, strB_size, Int.natAbs_natCast]
  rw [e1] at HN
  rw [e2] at HD
  have e3 : ((dlen q : Nat) : Int) = max ((Lib.decDigits q.num.natAbs).length : Int) ((Lib.decDigits q.den).length : Int) := by unfold dlen; omega
  rw [e3]
  obtain ⟨X, hX⟩ : ∃ X, X = T q := ⟨_, rfl⟩
  obtain ⟨N, hN⟩ : ∃ X, X = numB q := ⟨_, rfl⟩
  obtain ⟨D, hD⟩ : ∃ X, X = denB q := ⟨_, rfl⟩
  obtain ⟨x, hx⟩ : ∃ X, X = (Lib.decDigits q.num.natAbs).length := ⟨_, rfl⟩
  obtain ⟨y, hy⟩ : ∃ X, X = (Lib.decDigits q.den).length := ⟨_, rfl⟩
  rw [← hX] at H1 ⊢
  rw [← hN] at H1 HN
  rw [← hD] at H1 HD
  rw [← hx] at HN ⊢
  rw [← hy] at HD ⊢
  clear hX hN hD hT fq e1 e2 e3 hx hy
  go_enter Tryz.func207, Tryz.ntmps207
  go_wp2_with fail
  refine H1.out.mono ?_
  rintro e w1 ⟨rfl, hb1⟩
  have HB1 := hide hb1
  clear hb1 H1
  go_wp2_with fail
  refine (HN.out _).mono ?_
  rintro e w2 ⟨rfl, rfl⟩
  go_wp2_with fail
  refine (HD.out _).mono ?_
  rintro e w3 ⟨rfl, rfl⟩
  go_wp2_with fail
  go_ret
  exact ⟨rfl, HB1.out⟩
theorem nat_T (m : Nat) : T ((m : Nat) : Rat) = strB (Lib.decDigits m) := by
  unfold T
  rw [show ((m : Nat) : Rat) = (((m : Nat) : Int) : Rat) from rfl, ratS_int, Lib.itoa_nonneg]
theorem nat_num (m : Nat) : ((m : Nat) : Rat).num = m ∧ ((m : Nat) : Rat).den = 1 := ⟨rfl, rfl⟩
/-- A root of a term: its normal form is itself. -/
structure RootOk (m : Nat) : Prop where
  pos : 0 < m
  few : (Lib.decDigits m).length ≤ 16
  norm : normN m = (1, m)
theorem RootOk.sz {m : Nat} (h : RootOk m) : sz 16 ((m : Nat) : Rat) := ⟨by
  rw [(nat_num m).1, Int.natAbs_natCast]
  exact (dec_len_le (by omega)).1 h.few, by rw [(nat_num m).2]; decide⟩
set_option maxRecDepth 100000 in
set_option maxHeartbeats 8000000 in
theorem sRight_ok {c : Rat} {m : Nat} (fc : fitsQ c) (hc : c ≠ 0) (lc : dlen c ≤ 60) (hm : RootOk m) (B : Nat) (w : World) (hB : B ≤ w.heap.size) (hT : PR B w) :
    Calls Tryz.prog 157 #[termV (T c) (T (m : Rat))] w (Ret w (.int .i64 0)) := by
  have HT := hide hT
  have fm : fitsQ ((m : Nat) : Rat) := sz_fits hm.sz (by rw [most_eq]; omega)
  have hck : ∀ {q : Rat}, fitsQ q → ∀ w, B ≤ w.heap.size → PQ B w → Calls Tryz.prog 88 #[.string (T q)] w (Ret w (.int .i64 0)) := fun {q} hq w hB hT => by
    have h := qCheck_any (T q) (T_good hq).1 B w hB hT
    rw [(T_good hq).2.1] at h
    exact h
  have HC1 := hide (hck fc)
  have HC2 := hide (hck fm)
  have HL1 := hide (fun w hB hT => sLongest_T fc B w hB hT)
  have HL2 := hide (fun w hB hT => sLongest_T fm B w hB hT)
  have l2 : dlen ((m : Nat) : Rat) ≤ 40 := Nat.le_trans (dlen_sz hm.sz (by omega)) (by omega)
  have hz : ((T c).toList == [48]) = false := (lit_eq (T_list c)).2 (fun e => hc (T_inj (bytes_eq (by rw [T_list, e, T0]))))
  obtain ⟨hN, hD⟩ := nat_num m
  have hm0 := hm.pos
  have hX0 : ((T ((m : Nat) : Rat)).toList == [48]) = false := (lit_eq (T_list _)).2 (fun e => by
    have h : ((m : Nat) : Rat) = 0 := T_inj (bytes_eq (by rw [T_list, e, T0]))
    have h2 := congrArg Rat.num h
    rw [hN] at h2
    have h3 : (m : Int) = 0 := h2
    omega)
  have HP := hide (fun w => Tryz.strings_HasPrefix (T ((m : Nat) : Rat)) ⟨#[45]⟩ w)
  have eP : Lib.hasPrefix (T ((m : Nat) : Rat)).data.toList (⟨#[45]⟩ : ByteArray).data.toList = false := by
    refine (prefix45 _).trans ?_
    rw [T_list]
    simp only [beq_eq_false_iff_ne, ne_eq]
    intro e
    have := ratS_head.1 e
    rw [hN] at this
    omega
  rw [eP] at HP
  have HK := hide (fun w => Tryz.strings_Contains_one (T ((m : Nat) : Rat)) 47 w)
  have eK : decide (0 ≤ Lib.indexByte (T ((m : Nat) : Rat)).data.toList 47) = false := by
    rw [← Lib.contains_iff_indexByte, nat_T, strB_list]
    cases hc : (Lib.decDigits m).contains 47 with
    | false => rfl
    | true =>
      have h := decDigits_dg m 47 (by simpa using hc)
      exact absurd h (by decide)
  rw [eK] at HK
  have eX : strB (Lib.itoa (normL ((m : Nat) : Rat))) = T ((m : Nat) : Rat) := by
    rw [nat_T, Lib.itoa_nonneg]
    unfold normL
    rw [hN, hD, Int.toNat_natCast, Nat.mul_one, hm.norm]
  have eC : T (normC ((m : Nat) : Rat)) = ⟨#[49]⟩ := by
    have e : normC ((m : Nat) : Rat) = ((1 : Nat) : Rat) := by
      unfold normC
      rw [hN, hD, Int.toNat_natCast, Nat.mul_one, hm.norm]
      show Rat.divInt 1 1 = 1
      decide +kernel
    rw [e, nat_T, one_dec]
    rfl
  have sN : (numB ((m : Nat) : Rat)).size + (denB ((m : Nat) : Rat)).size ≤ 17 := by
    have h1 : (numB ((m : Nat) : Rat)).size = (Lib.decDigits m).length := by unfold numB; rw [strB_size, hN, Lib.itoa_nonneg]
    have h2 : (denB ((m : Nat) : Rat)).size = 1 := by
      unfold denB
      rw [strB_size, hD, Lib.itoa_nonneg]
      decide +kernel
    have := hm.few
    omega
  have HNO := hide (fun w hB hT => rNormal_small (roomy_of hm.sz (by omega)) (by rw [hN]; omega) sN B w hB hT)
  rw [eX, eC] at HNO
  have l1i : ((60 : Int) < (dlen c : Int)) = False := eq_false (by omega)
  have l2i : ((40 : Int) < (dlen ((m : Nat) : Rat) : Int)) = False := eq_false (by omega)
  have h1 : ((T ((m : Nat) : Rat)).toList == [49]) = true ∨ ((T ((m : Nat) : Rat)).toList == [49]) = false := by
    cases (T ((m : Nat) : Rat)).toList == [49] <;> simp
  obtain ⟨X, hX⟩ : ∃ X, X = T ((m : Nat) : Rat) := ⟨_, rfl⟩
  obtain ⟨Y, hY⟩ : ∃ X, X = T c := ⟨_, rfl⟩
  obtain ⟨x1, hx1⟩ : ∃ X, X = dlen c := ⟨_, rfl⟩
  obtain ⟨x2, hx2⟩ : ∃ X, X = dlen ((m : Nat) : Rat) := ⟨_, rfl⟩
  rw [← hX] at HC2 HL2 HP HK HNO hX0 h1 ⊢
  rw [← hY] at HC1 HL1 hz ⊢
  rw [← hx1] at HL1 l1i
  rw [← hx2] at HL2 l2i
  have X0 := hide (heap1 w (termO Y X))
  clear hck hN hD eP eK eX eC sN hX hY hx1 hx2 l2 lc fc hc fm hm hm0 hT
  rcases h1 with h1 | h1
  all_goals
    go_enter Tryz.func157, Tryz.ntmps157
    go_wp2_with fail
    refine (HC1.out _ (Nat.le_trans hB X0.out.2.2.size) (HT.out.on X0.out.2.2 hB).pq).mono ?_
    rintro e w1 ⟨rfl, hb1⟩
    have G1 := hide (below_blk hb1 X0.out.1 (lt_blk X0.out.1))
    have HB1 := hide (X0.out.2.2.trans (hb1.mono X0.out.2.2.size))
    have k0 := cell_blk G1.out 0
    have k1 := cell_blk G1.out 1
    have kl := lt_blk G1.out
    clear hb1
    go_wp2_with fail
    refine (HC2.out _ (Nat.le_trans hB HB1.out.size) (HT.out.on HB1.out hB).pq).mono ?_
    rintro e w2 ⟨rfl, hb2⟩
    have G2 := hide (below_blk hb2 G1.out (lt_blk G1.out))
    have HB2 := hide (HB1.out.trans (hb2.mono HB1.out.size))
    clear hb2 k0 k1 kl
    have k0 := cell_blk G2.out 0
    have k1 := cell_blk G2.out 1
    have kl := lt_blk G2.out
    go_wp2_with fail
    refine (HL1.out _ (Nat.le_trans hB HB2.out.size) (HT.out.on HB2.out hB).pq).mono ?_
    rintro e w3 ⟨rfl, hb3⟩
    have G3 := hide (below_blk hb3 G2.out (lt_blk G2.out))
    have HB3 := hide (HB2.out.trans (hb3.mono HB2.out.size))
    clear hb3 k0 k1 kl
    have k0 := cell_blk G3.out 0
    have k1 := cell_blk G3.out 1
    have kl := lt_blk G3.out
    go_wp2_with fail
    refine (HL2.out _ (Nat.le_trans hB HB3.out.size) (HT.out.on HB3.out hB).pq).mono ?_
    rintro e w4 ⟨rfl, hb4⟩
    have G4 := hide (below_blk hb4 G3.out (lt_blk G3.out))
    have HB4 := hide (HB3.out.trans (hb4.mono HB3.out.size))
    clear hb4 k0 k1 kl
    have k0 := cell_blk G4.out 0
    have k1 := cell_blk G4.out 1
    have kl := lt_blk G4.out
    go_wp2_with fail
  · go_ret
    exact ⟨rfl, HB4.out⟩
  · refine (HP.out _).mono ?_
    rintro e w5 ⟨rfl, rfl⟩
    go_wp2_with fail
    refine (HK.out _).mono ?_
    rintro e w5 ⟨rfl, rfl⟩
    go_wp2_with fail
    refine (HNO.out _ (Nat.le_trans hB HB4.out.size) (HT.out.on HB4.out hB)).mono ?_
    rintro e w6 ⟨rfl, hb6⟩
    have G6 := hide (below_blk hb6 G4.out (lt_blk G4.out))
    have HB6 := hide (HB4.out.trans (hb6.mono HB4.out.size))
    clear hb6 k0 k1 kl
    have k0 := cell_blk G6.out 0
    have k1 := cell_blk G6.out 1
    have kl := lt_blk G6.out
    go_wp2_with fail
    go_ret
    exact ⟨rfl, HB6.out⟩
end Go.Proofs.YtbfojhneajedmaaGreatDoor
namespace Go.Proofs.YtbfojhneajedmaaGreatDoor
open Go.RowKit Go.KP Go.KI Go.Shelf
attribute [local go_sem] Oper.semAt_some

set_option maxRecDepth 100000 in
set_option maxHeartbeats 8000000 in
theorem sCheck_one {c : Rat} {m : Nat} (fc : fitsQ c) (hc : c ≠ 0) (lc : dlen c ≤ 60) (hm : RootOk m) (b : Nat) (B : Nat) (w : World) (hb : w.heap[b]? = some (termO (T c) (T (m : Rat)))) (hB : B ≤ w.heap.size) (hT : PR B w) :
    Calls Tryz.prog 106 #[.slice (some ⟨b, 0, none⟩) 1 1] w (Ret w (.int .i64 0)) := by
  have HT := hide hT
  have HR := hide (fun w hB hT => sRight_ok fc hc lc hm B w hB hT)
  obtain ⟨X, hX⟩ : ∃ X, X = T ((m : Nat) : Rat) := ⟨_, rfl⟩
  obtain ⟨Y, hY⟩ : ∃ X, X = T c := ⟨_, rfl⟩
  rw [← hX, ← hY] at HR hb
  have G := hide hb
  have k0 := cell_blk G.out 0
  have k1 := cell_blk G.out 1
  have kl := lt_blk G.out
  have X0 := hide (heap1 w (termO Y X))
  clear hX hY fc hc lc hm hT hb
  go_enter Tryz.func106, Tryz.ntmps106
  go_wp2_with fail
  refine wp_loop_rounds 2 ?_
  rw [rounds_succ]
  go_wp2_with fail
  refine (HR.out _ (Nat.le_trans hB X0.out.2.2.size) (HT.out.on X0.out.2.2 hB)).mono ?_
  rintro e w1 ⟨rfl, hb1⟩
  have HB1 := hide (X0.out.2.2.trans (hb1.mono X0.out.2.2.size))
  clear hb1
  go_wp2_with fail
  rw [rounds_succ]
  go_wp2_with fail
  go_ret
  exact ⟨rfl, HB1.out⟩
/-- A surd of one term as a result. -/
def ResS (w : World) (c n : ByteArray) (e : Ending) (w' : World) : Prop := ∃ b, w.heap.size ≤ b ∧ w'.heap[b]? = some (termO c n) ∧ e = .returned (.tuple #[.slice (some ⟨b, 0, none⟩) 1 1, .int .i64 0]) ∧ Below w.heap.size w w'
set_option maxRecDepth 100000 in
set_option maxHeartbeats 8000000 in
theorem vLength_small {a : V3} {q : Rat} (fa : fitsV a) (hd : dotO a a = some q) (fq : roomy q) (h0 : 0 < q.num) (hs : (numB q).size + (denB q).size ≤ 17) (fc : fitsQ (normC q)) (hc : normC q ≠ 0) (lc : dlen (normC q) ≤ 60) (hm : RootOk (normL q)) (B : Nat) (w : World) (hB : B ≤ w.heap.size) (hT : PR B w) :
    Calls Tryz.prog 53 #[vecV a] w (ResS w (T (normC q)) (T (normL q : Rat))) := by
  have HT := hide hT
  have HC := hide (fun w hB hT => vchk_T fa B w hB hT)
  have HN := hide (fun w hB hT => rNormal_small fq h0 hs B w hB hT)
  have HS := hide (fun b w hb hB hT => sCheck_one fc hc lc hm b B w hb hB hT)
  have eX : strB (Lib.itoa (normL q)) = T ((normL q : Nat) : Rat) := by rw [nat_T, Lib.itoa_nonneg]
  rw [eX] at HN
  have hz : ((T (normC q)).toList == [48]) = false := (lit_eq (T_list _)).2 (fun e => hc (T_inj (bytes_eq (by rw [T_list, e, T0]))))
  obtain ⟨X, hX⟩ : ∃ X, X = T ((normL q : Nat) : Rat) := ⟨_, rfl⟩
  obtain ⟨Y, hY⟩ : ∃ X, X = T (normC q) := ⟨_, rfl⟩
  rw [← hX, ← hY] at HN HS ⊢
  rw [← hY] at hz
  have HD := hide (fun w hB hT => (vdot_in fa fa B w hB hT).mono fun _ _ hr => ResO.of hd hr)
  have X0 := hide (heap1 w (vecO a))
  clear hX hY eX fa hd fq h0 hs fc hc lc hm hT
  go_enter Tryz.func53, Tryz.ntmps53
  go_wp2_with fail
  refine (HC.out _ (Nat.le_trans hB X0.out.2.2.size) (HT.out.on X0.out.2.2 hB).pq).mono ?_
  rintro e w1 ⟨rfl, hb1⟩
  have G1 := hide (below_blk hb1 X0.out.1 (lt_blk X0.out.1))
  have HB1 := hide (X0.out.2.2.trans (hb1.mono X0.out.2.2.size))
  have k0 := cell_blk G1.out 0
  have k1 := cell_blk G1.out 1
  have k2 := cell_blk G1.out 2
  have kl := lt_blk G1.out
  clear hb1
  go_wp2_with fail
  refine (HD.out _ (Nat.le_trans hB HB1.out.size) (HT.out.on HB1.out hB).pq).mono ?_
  rintro e w2 ⟨rfl, hb2⟩
  have HB2 := hide (HB1.out.trans (hb2.mono HB1.out.size))
  clear hb2 k0 k1 k2 kl G1
  go_wp2_with fail
  refine (HN.out _ (Nat.le_trans hB HB2.out.size) (HT.out.on HB2.out hB)).mono ?_
  rintro e w3 ⟨rfl, hb3⟩
  have HB3 := hide (HB2.out.trans (hb3.mono HB2.out.size))
  clear hb3
  have X3 := hide (heap1 w3 (termO Y X))
  have HB4 := hide (HB3.out.trans (X3.out.2.2.mono HB3.out.size))
  have HS4 := hide (HS.out w3.heap.size (w3.alloc (termO Y X)) X3.out.1 (Nat.le_trans hB HB4.out.size) (HT.out.on HB4.out hB))
  go_wp2_with fail
  refine HS4.out.mono ?_
  rintro e w5 ⟨rfl, hb5⟩
  have G5 := hide (below_blk hb5 X3.out.1 (lt_blk X3.out.1))
  have HB5 := hide (HB4.out.trans (hb5.mono HB4.out.size))
  have HL := hide HB3.out.size
  clear hb5 X3 HS4
  go_wp2_with fail
  refine bodyPost_ret (results_tmp2 rfl _ _ _) rfl ?_
  exact ⟨w3.heap.size, HL.out, G5.out, rfl, HB5.out⟩
set_option maxRecDepth 100000 in
theorem eqTerm (a b : ByteArray) (w : World) : (Op.equalIn 10000 135 (.agg #[.string a, .string b]) (.agg #[.string a, .string b])).run Tryz.prog w = .ok true w := by
  have hS : Tryz.prog.underlying 135 = some (.struct (Tryz.prog.fieldsOf 135)) := by kernel_rfl
  have hp : Tryz.prog.stoodInHeld 135 = false := by kernel_rfl
  rw [show (10000 : Nat) = 9999 + 1 from rfl, run_equalIn_agg w 9999 135 _ _ hS hp]
  simp only [Program.fieldsOf, Tryz.underlying135]
  go_simp
set_option maxRecDepth 100000 in
set_option maxHeartbeats 4000000 in
theorem sEqual_one (a b : Nat) (c n : ByteArray) (w : World) (h1 : w.heap[a]? = some (termO c n)) (h2 : w.heap[b]? = some (termO c n)) :
    Calls Tryz.prog 92 #[.slice (some ⟨a, 0, none⟩) 1 1, .slice (some ⟨b, 0, none⟩) 1 1] w (Ret w (.bool true)) := by
  have k0 := cell_blk h1 0
  have k1 := cell_blk h1 1
  have kl := lt_blk h1
  have m0 := cell_blk h2 0
  have m1 := cell_blk h2 1
  have ml := lt_blk h2
  have he := fun w => eqTerm c n w
  clear h1 h2
  go_enter Tryz.func92, Tryz.ntmps92
  go_wp2_with fail
  refine wp_loop_rounds 2 ?_
  rw [rounds_succ]
  go_wp2_with fail
  go_quiet (fail)
  go_wp2_with fail
  rw [rounds_succ]
  go_wp2_with fail
  go_ret
  exact ⟨rfl, below_drewN (Below.refl _ _) _⟩
abbrev v100 : V3 := ⟨1, 0, 0⟩
abbrev v010 : V3 := ⟨0, 1, 0⟩
abbrev v001 : V3 := ⟨0, 0, 1⟩
abbrev r12 : Rat := ⟨1, 2, by decide, by decide⟩
abbrev r13 : Rat := ⟨1, 3, by decide, by decide⟩
abbrev vHalf : V3 := ⟨r12, r12, 0⟩
abbrev v3412 : V3 := ⟨3, 4, 12⟩
abbrev vC1 : V3 := ⟨r12, 0, 0⟩
abbrev vC2 : V3 := ⟨r13, 9, 0⟩
theorem tx (m : Nat) (l : List UInt8) (h : Lib.decDigits m = l) : T ((m : Nat) : Rat) = strB l := by rw [nat_T, h]
theorem tx1 : T 1 = ⟨#[49]⟩ := tx 1 [49] (by decide +kernel)
theorem tx3 : T 3 = ⟨#[51]⟩ := tx 3 [51] (by decide +kernel)
theorem tx4 : T 4 = ⟨#[52]⟩ := tx 4 [52] (by decide +kernel)
theorem tx9 : T 9 = ⟨#[57]⟩ := tx 9 [57] (by decide +kernel)
theorem tx12 : T 12 = ⟨#[49, 50]⟩ := tx 12 [49, 50] (by decide +kernel)
theorem tx13 : T 13 = ⟨#[49, 51]⟩ := tx 13 [49, 51] (by decide +kernel)
theorem tx2 : T 2 = ⟨#[50]⟩ := tx 2 [50] (by decide +kernel)
theorem txf {x : Rat} {l : List UInt8} (h1 : x.num = 1) (h2 : x.den ≠ 1) (h : Lib.decDigits x.den = l) : T x = strB (49 :: 47 :: l) := by
  unfold T ratS
  rw [if_neg h2, h1, show (1 : Int) = ((1 : Nat) : Int) from rfl, Lib.itoa_nonneg, Lib.decDigits_one (by omega), h]
  rfl
theorem txr12 : T r12 = ⟨#[49, 47, 50]⟩ := txf rfl (by decide) (by decide +kernel)
theorem txr13 : T r13 = ⟨#[49, 47, 51]⟩ := txf rfl (by decide) (by decide +kernel)
theorem szd {x : Rat} {p : Nat} (h : x.num.natAbs < 10 ^ p ∧ x.den < 10 ^ p) : sz p x := h
theorem vv (a : V3) {x y z : ByteArray} (h1 : T a.x = x) (h2 : T a.y = y) (h3 : T a.z = z) : vecV a = spotV x y z := by
  show Value.agg #[.string (T a.x), .string (T a.y), .string (T a.z)] = _
  rw [h1, h2, h3]
theorem rootOk_2 : RootOk 2 := ⟨by omega, by decide +kernel, normN_2⟩
theorem rootOk_1 : RootOk 1 := ⟨by omega, by decide +kernel, by decide +kernel⟩
theorem norm12 : normC r12 = r12 ∧ normL r12 = 2 := by
  have e : normN (r12.num.toNat * r12.den) = (1, 2) := normN_2
  unfold normC normL
  rw [e]
  exact ⟨by decide +kernel, rfl⟩
theorem norm169 : normC 169 = 13 ∧ normL 169 = 1 := by
  have e : normN ((169 : Rat).num.toNat * (169 : Rat).den) = (13, 1) := normN_169
  unfold normC normL
  rw [e]
  exact ⟨by decide +kernel, rfl⟩
theorem mxe4 (w : World) : (Builtin.max_ #[31, 31, 31, 31] 31 #[.int .i64 0, .int .i64 0, .int .i64 0, .int .i64 0]).run Tryz.prog w = .ok (.int .i64 0) w := by kernel_rfl
set_option maxRecDepth 100000 in
set_option maxHeartbeats 16000000 in
theorem v9awake_any (B : Nat) (w : World) (hB : B ≤ w.heap.size) (hT : PR B w) :
    Calls Tryz.prog 47 #[] w (Ret w (.bool true)) := by
  have HT := hide hT
  have s1 : szV 1 v100 := ⟨szd (by decide), szd (by decide), szd (by decide)⟩
  have s2 : szV 1 v010 := ⟨szd (by decide), szd (by decide), szd (by decide)⟩
  have s3 : szV 1 vHalf := ⟨szd (by decide), szd (by decide), szd (by decide)⟩
  have s4 : szV 2 v3412 := ⟨szd (by decide), szd (by decide), szd (by decide)⟩
  have s5 : szV 1 vC1 := ⟨szd (by decide), szd (by decide), szd (by decide)⟩
  have s6 : szV 1 vC2 := ⟨szd (by decide), szd (by decide), szd (by decide)⟩
  have HX := hide (fun w hB hT => (vCross_O (szV_fits s1 (by rw [most_eq]; omega)) (szV_fits s2 (by rw [most_eq]; omega)) B w hB hT).mono fun _ _ hr => ResV.of (cross_sz s1 s2 (by rw [most_eq]; omega)).1 hr)
  rw [show vcross v100 v010 = v001 by decide +kernel, vv v100 tx1 T0 T0, vv v010 T0 tx1 T0, vv v001 T0 T0 tx1] at HX
  have d3 := (dot_sz s3 s3 (by rw [most_eq]; omega)).1
  rw [show vdot vHalf vHalf = r12 by decide +kernel] at d3
  have d4 := (dot_sz s4 s4 (by rw [most_eq]; omega)).1
  rw [show vdot v3412 v3412 = 169 by decide +kernel] at d4
  have HL1 := hide (fun w hB hT => vLength_small (szV_fits s3 (by rw [most_eq]; omega)) d3 (roomy_of (p := 1) (szd (by decide)) (by omega)) (by decide) (by decide +kernel) (by rw [norm12.1]; exact sz_fits (p := 1) (szd (by decide)) (by rw [most_eq]; omega)) (by rw [norm12.1]; decide) (by rw [norm12.1]; decide +kernel) (by rw [norm12.2]; exact rootOk_2) B w hB hT)
  have HL2 := hide (fun w hB hT => vLength_small (szV_fits s4 (by rw [most_eq]; omega)) d4 (roomy_of (p := 3) (szd (by decide)) (by omega)) (by decide) (by decide +kernel) (by rw [norm169.1]; exact sz_fits (p := 2) (szd (by decide)) (by rw [most_eq]; omega)) (by rw [norm169.1]; decide) (by rw [norm169.1]; decide +kernel) (by rw [norm169.2]; exact rootOk_1) B w hB hT)
  rw [norm12.1, norm12.2, show ((2 : Nat) : Rat) = 2 from rfl, txr12, tx2, vv vHalf txr12 txr12 T0] at HL1
  rw [norm169.1, norm169.2, show ((1 : Nat) : Rat) = 1 from rfl, tx13, tx1, vv v3412 tx3 tx4 tx12] at HL2
  have HC := hide (fun w hB hT => vCompare_T (szV_fits s5 (by rw [most_eq]; omega)) (szV_fits s6 (by rw [most_eq]; omega)) (cmpsV_of s5 s6 (by rw [most_eq]; omega)) B w hB hT)
  rw [show vcmp vC1 vC2 = 1 by decide +kernel, vv vC1 txr12 T0 T0, vv vC2 txr13 tx9 T0] at HC
  have HE := hide (fun a b c n w h1 h2 => sEqual_one a b c n w h1 h2)
  have hmx := mxe4
  have he : ∀ w, (Op.equalIn 10000 24 (spotV ⟨#[48]⟩ ⟨#[48]⟩ ⟨#[49]⟩) (spotV ⟨#[48]⟩ ⟨#[48]⟩ ⟨#[49]⟩)).run Tryz.prog w = .ok true w := fun w => by rw [eqSpot]; simp
  clear s1 s2 s3 s4 s5 s6 d3 d4 hT
  go_enter Tryz.func47, Tryz.ntmps47
  go_wp2_with fail
  refine (HX.out _ hB HT.out.pq).mono ?_
  rintro e w1 ⟨rfl, hb1⟩
  have X1 := hide (heap1 w1 (spotO ⟨#[48]⟩ ⟨#[48]⟩ ⟨#[49]⟩))
  have G1 := hide X1.out.1
  have HB1 := hide (hb1.trans (X1.out.2.2.mono hb1.size))
  clear hb1 X1
  go_wp2_with fail
  refine (HL1.out _ (Nat.le_trans hB HB1.out.size) (HT.out.on HB1.out hB)).mono ?_
  rintro e w2 ⟨p1, hp1, g2, rfl, hb2⟩
  have G1 := hide (below_blk hb2 G1.out (lt_blk G1.out))
  have G2 := hide g2
  have HB2 := hide (HB1.out.trans (hb2.mono HB1.out.size))
  clear hb2 g2
  go_wp2_with fail
  refine (HL2.out _ (Nat.le_trans hB HB2.out.size) (HT.out.on HB2.out hB)).mono ?_
  rintro e w3 ⟨p2, hp2, g3, rfl, hb3⟩
  have G1 := hide (below_blk hb3 G1.out (lt_blk G1.out))
  have G2 := hide (below_blk hb3 G2.out (lt_blk G2.out))
  have G3 := hide g3
  have HB3 := hide (HB2.out.trans (hb3.mono HB2.out.size))
  clear hb3 g3
  go_wp2_with fail
  refine (HC.out _ (Nat.le_trans hB HB3.out.size) (HT.out.on HB3.out hB).pq).mono ?_
  rintro e w4 ⟨rfl, hb4⟩
  have G1 := hide (below_blk hb4 G1.out (lt_blk G1.out))
  have G2 := hide (below_blk hb4 G2.out (lt_blk G2.out))
  have G3 := hide (below_blk hb4 G3.out (lt_blk G3.out))
  have HB4 := hide (HB3.out.trans (hb4.mono HB3.out.size))
  clear hb4
  have k0 := cell_blk G1.out 0
  have k1 := cell_blk G1.out 1
  have k2 := cell_blk G1.out 2
  have kl := lt_blk G1.out
  go_wp2_with fail
  have A1 := hide (heap1 w4 (termO ⟨#[49, 47, 50]⟩ ⟨#[50]⟩))
  refine (HE.out p1 w4.heap.size _ _ _ (below_blk A1.out.2.2 G2.out (lt_blk G2.out)) A1.out.1).mono ?_
  rintro e w5 ⟨rfl, hb5⟩
  have hb5 := A1.out.2.2.trans (hb5.mono A1.out.2.2.size)
  have G3 := hide (below_blk hb5 G3.out (lt_blk G3.out))
  have HB5 := hide (HB4.out.trans (hb5.mono HB4.out.size))
  clear hb5 A1 k0 k1 k2 kl
  go_wp2_with fail
  have A1 := hide (heap1 w5 (termO ⟨#[49, 51]⟩ ⟨#[49]⟩))
  refine (HE.out p2 w5.heap.size _ _ _ (below_blk A1.out.2.2 G3.out (lt_blk G3.out)) A1.out.1).mono ?_
  rintro e w6 ⟨rfl, hb6⟩
  have hb6 := A1.out.2.2.trans (hb6.mono A1.out.2.2.size)
  have HB6 := hide (HB5.out.trans (hb6.mono HB5.out.size))
  clear hb6 A1
  go_wp2_with fail
  go_ret
  exact ⟨rfl, HB6.out⟩
end Go.Proofs.YtbfojhneajedmaaGreatDoor
namespace Go.Proofs.YtbfojhneajedmaaGreatDoor
open Go.RowKit Go.KP Go.KI Go.Shelf

theorem heapq4 (w : World) (o1 o2 o3 o4 : Obj) : ((((w.alloc o1).alloc o2).alloc o3).alloc o4).heap[w.heap.size]? = some o1 ∧ ((((w.alloc o1).alloc o2).alloc o3).alloc o4).heap[w.heap.size + 1]? = some o2 ∧
    ((((w.alloc o1).alloc o2).alloc o3).alloc o4).heap[w.heap.size + 2]? = some o3 ∧ ((((w.alloc o1).alloc o2).alloc o3).alloc o4).heap[w.heap.size + 3]? = some o4 ∧ ((((w.alloc o1).alloc o2).alloc o3).alloc o4).heap.size = w.heap.size + 4 ∧ Below w.heap.size w ((((w.alloc o1).alloc o2).alloc o3).alloc o4) := by
  obtain ⟨a1, a2, a3, a4, a5⟩ := heap3 w o1 o2 o3
  obtain ⟨b1, b2, b3⟩ := heap1 (((w.alloc o1).alloc o2).alloc o3) o4
  rw [a4] at b1
  exact ⟨below_blk b3 a1 (by omega), below_blk b3 a2 (by omega), below_blk b3 a3 (by omega), b1, by omega, a5.trans (b3.mono (by omega))⟩
theorem spots3 {w : World} {r : Nat} {a b c : S3} (h : w.heap[r]? = some (.cells #[.string a.x, .string a.y, .string a.z, .string b.x, .string b.y, .string b.z, .string c.x, .string c.y, .string c.z] 24 (0, 0))) : SpotsAt w r [a, b, c] := by
  refine ⟨lt_blk h, fun i V hi => ?_⟩
  match i with
  | 0 => simp at hi; subst hi; exact ⟨cell_blk h 0, cell_blk h 1, cell_blk h 2⟩
  | 1 => simp at hi; subst hi; exact ⟨cell_blk h 3, cell_blk h 4, cell_blk h 5⟩
  | 2 => simp at hi; subst hi; exact ⟨cell_blk h 6, cell_blk h 7, cell_blk h 8⟩
  | n + 3 => simp at hi
theorem spots2 {w : World} {r : Nat} {a b : S3} (h : w.heap[r]? = some (.cells #[.string a.x, .string a.y, .string a.z, .string b.x, .string b.y, .string b.z] 24 (0, 0))) : SpotsAt w r [a, b] := by
  refine ⟨lt_blk h, fun i V hi => ?_⟩
  match i with
  | 0 => simp at hi; subst hi; exact ⟨cell_blk h 0, cell_blk h 1, cell_blk h 2⟩
  | 1 => simp at hi; subst hi; exact ⟨cell_blk h 3, cell_blk h 4, cell_blk h 5⟩
  | n + 2 => simp at hi
theorem txt_rat {s : ByteArray} {p : Nat} (h : chkQ s.data.toList = 0) (hs : s.size ≤ p) (hp : 1 ≤ p) : sz p (valQ s.data.toList) ∧ s = T (valQ s.data.toList) := by
  refine ⟨chkQ_sz h (by rw [bytes_len]; exact hs) hp, T_of (chkQ_ok h).1⟩
theorem vec_of {V : S3} {p : Nat} (hp : 1 ≤ p) (h1 : V.x.size ≤ p) (h2 : V.y.size ≤ p) (h3 : V.z.size ≤ p) (h : chk3 V.x.data.toList V.y.data.toList V.z.data.toList = 0) : ∃ A : V3, szV p A ∧ V = ⟨T A.x, T A.y, T A.z⟩ := by
  obtain ⟨c1, c2, c3⟩ := chk3_zero.1 h
  obtain ⟨s1, e1⟩ := txt_rat c1 h1 hp
  obtain ⟨s2, e2⟩ := txt_rat c2 h2 hp
  obtain ⟨s3, e3⟩ := txt_rat c3 h3 hp
  refine ⟨⟨_, _, _⟩, ⟨s1, s2, s3⟩, ?_⟩
  cases V
  simp only [S3.mk.injEq]
  exact ⟨e1, e2, e3⟩
theorem fine_vec {V : S3} (h : fine3 V) : ∃ A : V3, szV 40 A ∧ V = ⟨T A.x, T A.y, T A.z⟩ := vec_of (by omega) h.1 h.2.1 h.2.2.1 h.2.2.2
theorem short_vec {V : S3} (h : short3 V ∧ fine3 V) : ∃ A : V3, szV 20 A ∧ V = ⟨T A.x, T A.y, T A.z⟩ := vec_of (by omega) h.1.1 h.1.2.1 h.1.2.2 h.2.2.2.2
theorem num_rat {k : ByteArray} (h : k.size ≤ 40 ∧ chkQ k.data.toList = 0) : ∃ K : Rat, sz 40 K ∧ k = T K := by
  obtain ⟨a, b⟩ := txt_rat h.2 h.1 (by omega)
  exact ⟨_, a, b⟩
theorem mxs {P : Program} (w : World) (ts : Array TypeId) (t : TypeId) (l : List Int) (h : ∀ y ∈ l, y = 0) : (Builtin.max_ ts t ⟨.int .i64 0 :: l.map (fun y => .int .i64 y)⟩).run P w = .ok (.int .i64 0) w := by
  rw [run_maxL]
  rcases foldl_max4 l 0 (.inl rfl) (fun y hy => .inl (h y hy)) with ⟨e, _⟩ | ⟨_, e⟩
  · rw [e]
  · exact absurd ⟨rfl, h⟩ e
theorem mxo4 (w : World) : (Builtin.max_ #[31, 31, 31, 31] 31 #[.int .i64 0, .int .i64 0, .int .i64 0, .int .i64 0]).run Tryz.prog w = .ok (.int .i64 0) w := mxs w _ _ [0, 0, 0] (by simp)
theorem mxo5 (w : World) : (Builtin.max_ #[31, 31, 31, 31, 31] 31 #[.int .i64 0, .int .i64 0, .int .i64 0, .int .i64 0, .int .i64 0]).run Tryz.prog w = .ok (.int .i64 0) w := mxs w _ _ [0, 0, 0, 0] (by simp)
theorem mxo6 (w : World) : (Builtin.max_ #[31, 31, 31, 31, 31, 31] 31 #[.int .i64 0, .int .i64 0, .int .i64 0, .int .i64 0, .int .i64 0, .int .i64 0]).run Tryz.prog w = .ok (.int .i64 0) w := mxs w _ _ [0, 0, 0, 0, 0] (by simp)
theorem mxo7 (w : World) : (Builtin.max_ #[31, 31, 31, 31, 31, 31, 31] 31 #[.int .i64 0, .int .i64 0, .int .i64 0, .int .i64 0, .int .i64 0, .int .i64 0, .int .i64 0]).run Tryz.prog w = .ok (.int .i64 0) w := mxs w _ _ [0, 0, 0, 0, 0, 0] (by simp)
end Go.Proofs.YtbfojhneajedmaaGreatDoor
namespace Go.Proofs.YtbfojhneajedmaaGreatDoor
open Go.ChangeShapes Go.WideShapes Go.RowKit Go.KP Go.KI

set_option maxRecDepth 100000 in
theorem cell_num {W : World} {base : Nat} {v : Value} (h : Cell.okWide Tryz.prog W .any base 22 v) : ∃ s : ByteArray, v = .string s := by
  have u := Tryz.underlying22
  simp only [Cell.okWide, u, Cell.ok] at h
  cases v <;> simp_all
set_option maxRecDepth 100000 in
theorem open_spot {W : World} {base : Nat} {v : Value} (h : Value.okWide Tryz.prog W .any base 24 v) : ∃ a : S3, v = .agg #[.string a.x, .string a.y, .string a.z] := by
  have u := Tryz.underlying24
  simp only [Value.okWide, u] at h
  obtain ⟨cs, rfl, hsz, ts, hts, _, hi⟩ := h
  have hts2 : Tryz.prog.cellTypes Tryz.prog.depth 24 = some [22, 22, 22] := by kernel_rfl
  rw [hts2] at hts
  obtain rfl := Option.some.inj hts
  have hC : Tryz.prog.cellsOf 24 = 3 := by kernel_rfl
  rw [hC] at hsz
  obtain ⟨l⟩ := cs
  match l, hsz with
  | [c0, c1, c2], _ =>
    have key : ∀ (i : Nat) (v : Value), i < 3 → (#[c0, c1, c2] : Array Value)[i]? = some v → ∃ s : ByteArray, v = .string s := by
      intro i v hlt hv
      obtain ⟨t, ht, hc⟩ := hi i v hv
      have e : t = 22 := by
        rw [show i % [22, 22, 22].length = i from Nat.mod_eq_of_lt hlt] at ht
        have : i = 0 ∨ i = 1 ∨ i = 2 := by omega
        rcases this with rfl | rfl | rfl <;> simpa using ht.symm
      rw [e] at hc
      exact cell_num hc
    obtain ⟨n0, rfl⟩ := key 0 _ (by omega) rfl
    obtain ⟨n1, rfl⟩ := key 1 _ (by omega) rfl
    obtain ⟨n2, rfl⟩ := key 2 _ (by omega) rfl
    exact ⟨⟨n0, n1, n2⟩, rfl⟩
end Go.Proofs.YtbfojhneajedmaaGreatDoor
