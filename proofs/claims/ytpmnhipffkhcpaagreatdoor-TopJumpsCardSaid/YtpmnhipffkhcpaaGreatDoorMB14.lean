/-
  Texts laid together.
-/
import Derived.Test.YtpmnhipffkhcpaaGreatDoorMB5
import Derived.Test.YtpmnhipffkhcpaaGreatDoorMB10
import Derived.Test.YtpmnhipffkhcpaaGreatDoorMB13
import Derived.Laws.BytesArg
set_option maxRecDepth 100000
set_option maxHeartbeats 8000000
namespace Go.KI
open Go
theorem ahead_at {c : UInt8} {l : List UInt8} {k : Nat} (h : k < (ahead c l).length) : ∃ x, l[k]? = some x ∧ x ≠ c := by
  have hp : (ahead c l) <+: l := List.takeWhile_prefix _
  obtain ⟨t, ht⟩ := hp
  refine ⟨(ahead c l)[k], ?_, ahead_ne l _ (List.getElem_mem h)⟩
  have e : l[k]? = (ahead c l ++ t)[k]? := by rw [ht]
  rw [e, List.getElem?_append_left h]
  exact List.getElem?_eq_getElem h
theorem ahead_take {c : UInt8} {l : List UInt8} (h : c ∈ l) : l.take (ahead c l).length = ahead c l := by
  have h2 := congrArg (List.take (ahead c l).length) (split_eq h)
  rw [List.take_left] at h2
  exact h2
theorem behind_drop {c : UInt8} {l : List UInt8} (h : c ∈ l) : l.drop ((ahead c l).length + 1) = behind c l := by
  have h2 := congrArg (List.drop ((ahead c l).length + 1)) (split_eq h)
  rw [h2, List.drop_append]
  simp
theorem ahead_stop {c : UInt8} {l : List UInt8} (h : c ∈ l) : l[(ahead c l).length]? = some c := by
  have e := split_eq h
  have h2 := congrArg (fun m : List UInt8 => m[(ahead c l).length]?) e
  rw [h2, List.getElem?_append_right (Nat.le_refl _), Nat.sub_self]
  rfl
end Go.KI
namespace Go.Proofs.YtpmnhipffkhcpaaGreatDoor
open Go.RowKit Go.KP Go.KI Go.Shelf
attribute [local go_sem] Oper.semAt_some

def splitR (l : List UInt8) : Value := .tuple #[.bool (isNeg l), .string (strB (KI.ahead 47 (digs l))), .string (strB (if 47 ∈ digs l then KI.behind 47 (digs l) else [])), .bool (decide (47 ∈ digs l))]
theorem ret4 {f : Func} {R : Ending → World → Prop} {a : Act} {W : World} {t0 t1 t2 t3 : Tmp} {v0 v1 v2 v3 : Value} (hf : f.results = #[.tmp t0, .tmp t1, .tmp t2, .tmp t3]) (h0 : a.tmps[t0]? = some v0) (h1 : a.tmps[t1]? = some v1) (h2 : a.tmps[t2]? = some v2) (h3 : a.tmps[t3]? = some v3) (hd : a.defers = []) (hR : R (.returned (.tuple #[v0, v1, v2, v3])) W) :
    bodyPost Tryz.prog f R .ret a W := by
  refine bodyPost_ret ?_ hd hR
  simp [results, hf, go_sem, h0, h1, h2, h3]
theorem r2split_any (s : ByteArray) (hs : s.size ≤ 9223372036854775807) (w : World) :
    Calls Tryz.prog 257 #[.string s] w (Ret w (splitR s.data.toList)) := by
  obtain ⟨l, hl⟩ : ∃ l, l = digs s.data.toList := ⟨_, rfl⟩
  obtain ⟨O, hO⟩ : ∃ O, O = strB l := ⟨_, rfl⟩
  have hOl : O.data.toList = l := by rw [hO, strB_list]
  have hdl : l.length ≤ s.size := by rw [hl, digs_drop, List.length_drop, bytes_len]; omega
  have hOs : O.size ≤ s.size := by rw [← bytes_len, hOl]; exact hdl
  obtain ⟨K, hK⟩ : ∃ K, K = (KI.ahead 47 l).length := ⟨_, rfl⟩
  have hKl : K ≤ O.size := by rw [hK, ← bytes_len, hOl]; exact List.Sublist.length_le (List.takeWhile_sublist _)
  obtain ⟨neg, hneg⟩ : ∃ n, n = isNeg s.data.toList := ⟨_, rfl⟩
  have HAT := hide (fun (k : Nat) (h : k < K) => show ∃ x, O.data.toList[k]? = some x ∧ x ≠ 47 by rw [hOl]; exact ahead_at (by rw [← hK]; exact h))
  have hfin : (47 ∈ l ∧ O.data.toList[K]? = some 47 ∧ K < O.size ∧ splitR s.data.toList = .tuple #[.bool neg, .string (O.extract 0 K), .string (O.extract (K + 1) O.size), .bool true]) ∨
      (¬ 47 ∈ l ∧ K = O.size ∧ splitR s.data.toList = .tuple #[.bool neg, .string O, .string ⟨#[]⟩, .bool false]) := by
    unfold splitR
    rw [← hl, ← hneg]
    by_cases h : 47 ∈ l
    · have h1 := ahead_stop h
      rw [← hK] at h1
      refine .inl ⟨h, by rw [hOl]; exact h1, ?_, ?_⟩
      · have := (List.getElem?_eq_some_iff.1 h1).1
        rw [← bytes_len, hOl]
        exact this
      · rw [if_pos h, show decide (47 ∈ l) = true by simpa using h, ext_drop, hOl]
        have e1 : strB (KI.ahead 47 l) = O.extract 0 K := by
          apply bytes_eq
          rw [strB_list, ← ahead_take h, ← hK, hO]
          simp [strB]
        have e2 : KI.behind 47 l = l.drop (K + 1) := by rw [hK, behind_drop h]
        rw [e1, e2]
    · refine .inr ⟨h, ?_, ?_⟩
      · rw [hK, cut_not h, ← bytes_len, hOl]
      · rw [if_neg h, show decide (47 ∈ l) = false by simpa using h, cut_not h, ← hO]
        rfl
  have hstart : (neg = false ∧ O = s ∧ (((0 : Int) < (s.size : Int)) = False ∨ ∃ h : 0 < s.size, (((s[0]'h).toNat : Int) == 45) = false)) ∨ (neg = true ∧ ∃ h : 0 < s.size, (((s[0]'h).toNat : Int) == 45) = true ∧ s.extract 1 s.size = O) := by
    by_cases hne : s.data.toList = []
    · refine .inl ⟨by rw [hneg, hne]; rfl, by apply bytes_eq; rw [hOl, hl, hne]; rfl, .inl (eq_false ?_)⟩
      have h00 : s.size = 0 := by rw [← bytes_len, hne]; rfl
      omega
    · obtain ⟨hp, hh⟩ := bytes_head hne
      by_cases h45 : s[0] = 45
      · refine .inr ⟨by rw [hneg]; unfold isNeg; rw [hh, h45]; rfl, hp, by rw [h45]; rfl, ?_⟩
        rw [ext_drop, hO, hl, digs_drop, if_pos (by rw [hh, h45])]
      · refine .inl ⟨by rw [hneg]; unfold isNeg; rw [hh]; simpa using h45, ?_, .inr ⟨hp, ?_⟩⟩
        · apply bytes_eq
          rw [hOl, hl, digs_drop, if_neg (by rw [hh]; simpa using h45)]
          rfl
        · have : s[0].toNat ≠ 45 := fun h => h45 (UInt8.toNat_inj.1 h)
          simp only [beq_eq_false_iff_ne, ne_eq]
          omega
  obtain ⟨V, hV⟩ : ∃ V, V = splitR s.data.toList := ⟨_, rfl⟩
  rw [← hV] at hfin ⊢
  have HFI := hide hfin
  clear hl hO hOl hdl hK hneg hV hfin
  rcases hstart with ⟨e1, e2, e3 | ⟨hp, e3⟩⟩ | ⟨e1, hp, e3, e2⟩
  case' inl.inl =>
    subst e1; subst e2
    have e4 : (0 < O.size) = False := eq_false (by
      intro h
      have h2 : ¬ (0 : Int) < (O.size : Int) := of_eq_false e3
      omega)
    go_enter Tryz.func257, Tryz.ntmps257
    go_wp2_with fail
    clear e3 e4
  case' inl.inr =>
    subst e1; subst e2
    have hp0 : (0 : Int) < (O.size : Int) := by omega
    go_enter Tryz.func257, Tryz.ntmps257
    go_wp2_with fail
    clear e3
  case' inr =>
    subst e1
    have hp0 : (0 : Int) < (s.size : Int) := by omega
    have hp1 : (1 : Int) ≤ (s.size : Int) := by omega
    have HE := hide e2
    clear e2
    go_enter Tryz.func257, Tryz.ntmps257
    go_wp2_with fail
    rw [HE.out]
    clear e3
  all_goals
    go_loopw [8] (fun i wr => ∃ k : Nat, k ≤ K ∧ i = .int .i64 k ∧ wr = w) (fun i _ => O.size - (intOf i).toNat)
    case atStart => exact ⟨0, by omega, rfl, rfl⟩
    case round =>
      obtain ⟨k, hkL, rfl, rfl⟩ := hrel
      have hk0 : (0 : Int) ≤ (k : Int) := by omega
      by_cases hkl : k < K
      · have hlt : k < O.size := by omega
        have hki : (k : Int) < (O.size : Int) := by omega
        obtain ⟨c, hc, hcd⟩ := HAT.out k hkl
        have h47 : (((O[k]'hlt).toNat : Int) == 47) = false := by
          have hat : O.data.toList[k]? = some (O[k]'hlt) := by
            have h1 : O.data.toList[k]? = some O.data[k] := by simp
            exact h1
          rw [hat] at hc
          injection hc with hc
          rw [hc]
          have : c.toNat ≠ 47 := fun h => hcd (UInt8.toNat_inj.1 h)
          simp only [beq_eq_false_iff_ne, ne_eq]
          omega
        clear hc hcd
        go_wp2_with fail
        go_roundw
        case rel => exact ⟨k + 1, by omega, by go_num, trivial⟩
        case measure => simp [intOf]; omega
      · have hkK : k = K := by omega
        rcases HFI.out with ⟨_, f2, f3, f4⟩ | ⟨_, f3, f4⟩
        · have hlt : k < O.size := by omega
          have hki : (k : Int) < (O.size : Int) := by omega
          have h47 : (((O[k]'hlt).toNat : Int) == 47) = true := by
            have hat : O.data.toList[k]? = some (O[k]'hlt) := by
              have h1 : O.data.toList[k]? = some O.data[k] := by simp
              exact h1
            rw [← hkK, hat] at f2
            injection f2 with f2
            rw [f2]
            rfl
          have HV := hide f4
          have HKK := hide hkK
          have hw1 : IntKind.i64.wrap ((k : Int) + 1) = ((k + 1 : Nat) : Int) := by
            rw [IntWalk.i64_in _ (by omega)]
            rfl
          have hk1 : k + 1 ≤ O.size := by omega
          have hk1i : ((k + 1 : Nat) : Int) ≤ (O.size : Int) := by omega
          have hk2 : k ≤ O.size := by omega
          have hk2i : (k : Int) ≤ (O.size : Int) := by omega
          clear f2 f4 hkK hkl
          go_wp2_with fail
          go_quiet (fail)
          go_wp2_with fail
          refine ret4 rfl rfl rfl rfl rfl rfl ?_
          rw [HV.out, ← HKK.out]
          exact ⟨rfl, below_drewN (Below.refl _ _) _⟩
        · have hki : ((k : Int) < (O.size : Int)) = False := eq_false (by omega)
          have HV := hide f4
          clear f4 hkK f3 hkl
          go_wp2_with fail
          refine ret4 rfl rfl rfl rfl rfl rfl ?_
          rw [HV.out]
          exact ⟨rfl, Below.refl _ _⟩
open Go.RowKit Go.KP Go.KI Go.Shelf
attribute [local go_sem] Oper.semAt_some

def partsR2 (l : List UInt8) : Value :=
  .tuple #[.string (strB ((if isNeg l then [45] else []) ++ KI.ahead 47 (digs l))), .string (strB (if 47 ∈ digs l then KI.behind 47 (digs l) else [49]))]

theorem ret2v {f : Func} {R : Ending → World → Prop} {a : Act} {W : World} {t0 t1 : Tmp} {v0 v1 : Value} (hf : f.results = #[.tmp t0, .tmp t1]) (h0 : a.tmps[t0]? = some v0) (h1 : a.tmps[t1]? = some v1) (hd : a.defers = []) (hR : R (.returned (.tuple #[v0, v1])) W) :
    bodyPost Tryz.prog f R .ret a W := by
  refine bodyPost_ret ?_ hd hR
  simp [results, hf, go_sem, h0, h1]

theorem r2parts_any (s : ByteArray) (hs : s.size ≤ 1000000) (w : World) :
    Calls Tryz.prog 247 #[.string s] w (Ret w (partsR2 s.data.toList)) := by
  obtain ⟨V, hV⟩ : ∃ V, V = partsR2 s.data.toList := ⟨_, rfl⟩
  rw [← hV]
  have HS := hide (fun w => r2split_any s (by omega) w)
  have hnl : (KI.ahead 47 (digs s.data.toList)).length ≤ s.size := by
    refine Nat.le_trans (List.Sublist.length_le (List.takeWhile_sublist _)) ?_
    rw [digs_drop, List.length_drop, bytes_len]
    omega
  obtain ⟨nn, hnn⟩ : ∃ x, x = KI.ahead 47 (digs s.data.toList) := ⟨_, rfl⟩
  obtain ⟨dd, hdd⟩ : ∃ x, x = (if 47 ∈ digs s.data.toList then KI.behind 47 (digs s.data.toList) else []) := ⟨_, rfl⟩
  obtain ⟨neg, hneg⟩ : ∃ x, x = isNeg s.data.toList := ⟨_, rfl⟩
  obtain ⟨sl, hsl⟩ : ∃ x, x = decide (47 ∈ digs s.data.toList) := ⟨_, rfl⟩
  have hV2 : V = .tuple #[.string ((if neg then (⟨#[45]⟩ : ByteArray) else ⟨#[]⟩) ++ strB nn), .string (if sl then strB dd else ⟨#[49]⟩)] := by
    have a1 : strB ((if neg then [45] else []) ++ nn) = (if neg then (⟨#[45]⟩ : ByteArray) else ⟨#[]⟩) ++ strB nn := by
      apply bytes_eq
      cases neg <;> simp [strB]
    have a2 : strB (if 47 ∈ digs s.data.toList then KI.behind 47 (digs s.data.toList) else [49]) = if sl then strB dd else ⟨#[49]⟩ := by
      rw [hsl, hdd]
      by_cases h : 47 ∈ digs s.data.toList
      · simp [h]
      · simp only [h, if_false, decide_false, Bool.false_eq_true]
        rfl
    rw [hV, partsR2, ← hnn, ← hneg, a1, a2]
  unfold splitR at HS
  rw [← hnn, ← hdd, ← hneg, ← hsl] at HS
  rw [← hnn] at hnl
  clear hsl hneg hdd hnn hV
  obtain ⟨NN, hNN⟩ : ∃ x, x = strB nn := ⟨_, rfl⟩
  obtain ⟨DD, hDD⟩ : ∃ x, x = strB dd := ⟨_, rfl⟩
  have hNs : NN.size ≤ 1000000 := by rw [hNN, strB_size]; omega
  rw [← hNN, ← hDD] at HS hV2
  have HV := hide hV2
  have v1 : (9223372036854775807 < 1 + NN.size) = False := eq_false (by omega)
  clear hNN hDD hV2 hs hnl hNs
  cases neg <;> cases sl
  all_goals
    go_enter Tryz.func247, Tryz.ntmps247
    go_wp2_with fail
    refine (HS.out _).mono ?_
    rintro e w1 ⟨rfl, hb1⟩
    have HB1 := hide hb1
    clear hb1
    go_wp2_with fail
    refine ret2v rfl rfl rfl rfl ?_
    exact ⟨by rw [HV.out]; first | rfl | (simp; done), HB1.out⟩
end Go.Proofs.YtpmnhipffkhcpaaGreatDoor
namespace Go.KI
open Go
theorem norm_le_b {b : Nat} (hb : 0 < b) {p q : List Nat} (hp : Norm b p) (hq : Lt b q) (h : lv b p ≤ lv b q) : p.length ≤ q.length := by
  rcases Nat.lt_or_ge q.length p.length with h1 | h1
  · have := norm_len_lt hb hq hp h1
    omega
  · exact h1
theorem upper_cmp_b {b : Nat} (hb : 0 < b) {x y : List Nat} (hx : Lt b x) (hy : Lt b y) (hl : x.length = y.length) {k : Nat} (hk : k < x.length) (hs : ∀ j, j < k → lat x (x.length - 1 - j) = lat y (x.length - 1 - j)) :
    (lat x (x.length - 1 - k) < lat y (x.length - 1 - k) → lv b x < lv b y) ∧ (lat y (x.length - 1 - k) < lat x (x.length - 1 - k) → lv b y < lv b x) := by
  have hd : x.drop (x.length - 1 - k + 1) = y.drop (x.length - 1 - k + 1) := by
    apply List.ext_getElem?
    intro i
    rw [List.getElem?_drop, List.getElem?_drop]
    by_cases hi : x.length - 1 - k + 1 + i < x.length
    · have h1 := hs (k - 1 - i) (by omega)
      rw [show x.length - 1 - (k - 1 - i) = x.length - 1 - k + 1 + i by omega] at h1
      rw [lat_some hi, lat_some (l := y) (by omega), h1]
    · rw [List.getElem?_eq_none (by omega), List.getElem?_eq_none (by omega)]
  exact ⟨fun h => lv_top_lt hb hx hl (i := x.length - 1 - k) (by omega) hd h, fun h => lv_top_lt hb hy hl.symm (i := x.length - 1 - k) (by omega) hd.symm h⟩
end Go.KI
namespace Go.Proofs.YtpmnhipffkhcpaaGreatDoor
open Go.RowKit Go.KP Go.KI Go.Shelf
attribute [local go_sem] Oper.semAt_some

theorem rtwo_yes (s t : ByteArray) (c1 : chkI s.data.toList = 0) (c2 : chkI t.data.toList = 0) (hs : s.size ≤ 17) (ht : t.size ≤ 17) (w : World) :
    Calls Tryz.prog 345 #[.string s, .string t] w (Ret w (.tuple #[.int .i64 (valI s.data.toList), .int .i64 (valI t.data.toList), .bool true])) := by
  have H1 := hide (fun w => rsmall_yes s c1 hs w)
  have H2 := hide (fun w => rsmall_yes t c2 ht w)
  clear c1 c2 hs ht
  go_enter Tryz.func345, Tryz.ntmps345
  go_wp2_with fail
  refine (H1.out _).mono ?_
  rintro e w1 ⟨rfl, hb1⟩
  have HB1 := hide hb1
  clear hb1 H1
  go_wp2_with fail
  refine (H2.out _).mono ?_
  rintro e w2 ⟨rfl, hb2⟩
  have HB2 := hide (HB1.out.trans (hb2.mono HB1.out.size))
  clear hb2 H2 HB1
  go_wp2_with fail
  go_ret3
  exact ⟨rfl, HB2.out⟩
def TwoNo (w : World) (e : Ending) (w2 : World) : Prop := ∃ x y : Int, Ret w (.tuple #[.int .i64 x, .int .i64 y, .bool false]) e w2
theorem rtwo_no (s t : ByteArray) (c1 : chkI s.data.toList = 0) (h : ¬ (s.size ≤ 17 ∧ t.size ≤ 17)) (w : World) :
    Calls Tryz.prog 345 #[.string s, .string t] w (TwoNo w) := by
  by_cases hs : s.size ≤ 17
  · have H1 := hide (fun w => rsmall_yes s c1 hs w)
    have H2 := hide (fun w => rsmall_no t (by omega) w)
    clear c1 hs h
    go_enter Tryz.func345, Tryz.ntmps345
    go_wp2_with fail
    refine (H1.out _).mono ?_
    rintro e w1 ⟨rfl, hb1⟩
    have HB1 := hide hb1
    clear hb1 H1
    go_wp2_with fail
    refine (H2.out _).mono ?_
    rintro e w2 ⟨rfl, hb2⟩
    have HB2 := hide (HB1.out.trans (hb2.mono HB1.out.size))
    clear hb2 H2 HB1
    go_wp2_with fail
    go_ret3
    exact ⟨_, _, rfl, HB2.out⟩
  · have H1 := hide (fun w => rsmall_no s (by omega) w)
    clear c1 hs h
    go_enter Tryz.func345, Tryz.ntmps345
    go_wp2_with fail
    refine (H1.out _).mono ?_
    rintro e w1 ⟨rfl, hb1⟩
    have HB1 := hide hb1
    clear hb1 H1
    go_wp2_with fail
    go_ret3
    exact ⟨_, _, rfl, HB1.out⟩
def SizeRes (x y : List Nat) (w : World) (e : Ending) (w2 : World) : Prop := ∃ r : Int, e = .returned (.int .i64 r) ∧ CmpRes r (lv 1000000 x) (lv 1000000 y) ∧ Below w.heap.size w w2
theorem rsize_any (va vb : Value) (x y : List Nat) (B : Nat) (w : World) (ha : LimbAt B w va x) (hb : LimbAt B w vb y) (hB : B ≤ w.heap.size) (hx : Norm 1000000 x) (hy : Norm 1000000 y) (lx : x.length ≤ 100000) :
    Calls Tryz.prog 378 #[va, vb] w (SizeRes x y w) := by
  obtain ⟨a0, c0, hva⟩ := ha.form
  obtain ⟨a1, c1, hvb⟩ := hb.form
  subst hva; subst hvb
  have HA := hide ha; have HBB := hide hb; have HX := hide hx; have HY := hide hy
  clear ha hb hx hy
  by_cases hlen : x.length = y.length
  · have hq : ((x.length : Int) != (y.length : Int)) = false := by rw [hlen]; simp
    have HL := hide hlen
    obtain ⟨n, hn⟩ : ∃ n, n = x.length := ⟨_, rfl⟩
    have hyn : y.length = n := by omega
    have HN := hide hn; have HYN := hide hyn
    rw [← hn] at lx hq ⊢
    rw [hyn] at hq ⊢
    clear hlen hn hyn
    go_enter Tryz.func378, Tryz.ntmps378
    go_wp2_with fail
    go_loopw [5] (fun i wr => ∃ k : Nat, k ≤ n ∧ i = .int .i64 ((n : Int) - 1 - k) ∧ Hid ((∀ j, j < k → lat x (n - 1 - j) = lat y (n - 1 - j)) ∧ Below w.heap.size w wr)) (fun i _ => (intOf i + 1).toNat)
    case atStart => exact ⟨0, Nat.zero_le _, by simp, fun j hj => by omega, Below.refl _ _⟩
    case round =>
      obtain ⟨k, hk, rfl, hin⟩ := hrel
      have IN := hide hin.out
      clear hin
      by_cases hlt : k < n
      · obtain ⟨m, hm⟩ : ∃ m : Nat, (n : Int) - 1 - (k : Int) = m := ⟨n - 1 - k, by omega⟩
        have hm2 : n - 1 - k = m := by omega
        rw [hm]
        have hmi : (m : Int) < (n : Int) := by omega
        rcases (HA.out.below IN.out.2 hB).cases with ⟨_, _, _, hnil⟩ | ⟨g, o, cap, hv, hg, hc⟩
        · have := HN.out
          rw [hnil] at this
          simp at this
          omega
        injection hv with hv1 hv2 hv3
        rcases (HBB.out.below IN.out.2 hB).cases with ⟨_, _, _, hnil⟩ | ⟨g', o', cap', hv', hg', hc'⟩
        · have := HYN.out
          rw [hnil] at this
          simp at this
          omega
        injection hv' with hv1' hv2' hv3'
        subst hv1; subst hv1'
        have q1 := hc m (by have := HN.out; omega)
        have q2 := hc' m (by have := HYN.out; omega)
        have hc3 := upper_cmp_b (b := 1000000) (by omega) HX.out.lt HY.out.lt HL.out (k := k) (by have := HN.out; omega) (by rw [← HN.out]; exact IN.out.1)
        rw [← HN.out, hm2] at hc3
        obtain ⟨X, hX⟩ : ∃ X, X = lat x m := ⟨_, rfl⟩
        obtain ⟨Y, hY⟩ : ∃ Y, Y = lat y m := ⟨_, rfl⟩
        have HXY := hide (show X = Y → lat x (n - 1 - k) = lat y (n - 1 - k) from fun h => by rw [hm2, ← hX, ← hY]; exact h)
        rw [← hX, ← hY] at hc3
        rw [← hX] at q1
        rw [← hY] at q2
        have HC3 := hide hc3
        have HM := hide hm
        clear hc hc' hv2 hv2' hv3 hv3' hX hY hc3 hm hm2 hg hg'
        by_cases h1 : X < Y
        · have t1 : (X : Int) < (Y : Int) := by omega
          have HR := hide (HC3.out.1 h1)
          clear h1
          go_wp2_with fail
          go_quiet (fail)
          have HB2 := hide (below_drewN IN.out.2 nq)
          go_wp2_with fail
          go_ret
          exact ⟨_, rfl, ⟨⟨fun _ => HR.out, fun _ => by omega⟩, ⟨fun h => by omega, fun h => by have := HR.out; omega⟩⟩, HB2.out⟩
        · have t1 : ((X : Int) < (Y : Int)) = False := eq_false (by omega)
          by_cases h2 : Y < X
          · have t2 : (Y : Int) < (X : Int) := by omega
            have HR := hide (HC3.out.2 h2)
            clear h1 h2
            go_wp2_with fail
            go_quiet (fail)
            have HB2 := hide (below_drewN IN.out.2 nq)
            go_wp2_with fail
            go_quiet (fail)
            have HB3 := hide (below_drewN HB2.out nq)
            go_wp2_with fail
            go_ret
            exact ⟨_, rfl, ⟨⟨fun h => by omega, fun h => by have := HR.out; omega⟩, ⟨fun h => by omega, fun h => by have := HR.out; omega⟩⟩, HB3.out.os, HB3.out.tape, HB3.out.output, HB3.out.size, HB3.out.block⟩
          · have t2 : ((Y : Int) < (X : Int)) = False := eq_false (by omega)
            have HE := hide (HXY.out (by omega))
            clear h1 h2
            go_wp2_with fail
            go_quiet (fail)
            have HB2 := hide (below_drewN IN.out.2 nq)
            go_wp2_with fail
            go_quiet (fail)
            have HB3 := hide (below_drewN HB2.out nq)
            go_wp2_with fail
            go_roundw
            case rel =>
              refine ⟨k + 1, by omega, by have := HM.out; congr 1; omega, fun j hj => ?_, HB3.out.os, HB3.out.tape, HB3.out.output, HB3.out.size, HB3.out.block⟩
              rcases Nat.lt_or_ge j k with h | h
              · exact IN.out.1 j h
              · obtain rfl : j = k := by omega
                exact HE.out
            case measure => simp [intOf]
      · obtain rfl : k = n := by omega
        have hm : (k : Int) - 1 - (k : Int) = -1 := by omega
        rw [hm]
        have HXY := hide (show x = y from all_cmp HL.out (fun j hj => by rw [← HN.out]; exact IN.out.1 j (by have := HN.out; omega)))
        clear hm hlt
        go_wp2_with fail
        go_ret
        exact ⟨_, rfl, ⟨by rw [HXY.out]; omega, by rw [HXY.out]; simp⟩, IN.out.2⟩
  · have hq : ((x.length : Int) != (y.length : Int)) = true := by
      have : (x.length : Int) ≠ (y.length : Int) := by omega
      simpa using this
    rcases Nat.lt_or_gt_of_ne hlen with h | h
    · have HR := hide (norm_len_lt (b := 1000000) (by omega) HX.out.lt HY.out h)
      have t1 : (x.length : Int) < (y.length : Int) := by omega
      clear hlen h
      go_enter Tryz.func378, Tryz.ntmps378
      go_wp2_with fail
      go_ret
      exact ⟨_, rfl, ⟨⟨fun _ => HR.out, fun _ => by omega⟩, ⟨fun h => by omega, fun h => by have := HR.out; omega⟩⟩, Below.refl _ _⟩
    · have HR := hide (norm_len_lt (b := 1000000) (by omega) HY.out.lt HX.out h)
      have t1 : ((x.length : Int) < (y.length : Int)) = False := eq_false (by omega)
      clear hlen h
      go_enter Tryz.func378, Tryz.ntmps378
      go_wp2_with fail
      go_ret
      exact ⟨_, rfl, ⟨⟨fun h => by omega, fun h => by have := HR.out; omega⟩, ⟨fun h => by omega, fun h => by have := HR.out; omega⟩⟩, Below.refl _ _⟩
open Go.RowKit Go.KP Go.KI Go.Shelf
attribute [local go_sem] Oper.semAt_some

theorem radd_nums {X Y C : Nat} (hX : X < 1000000) (hY : Y < 1000000) (hC : C ≤ 1) :
    ∃ T Q R : Nat, (X : Int) + (Y : Int) + (C : Int) = (T : Int) ∧ (T : Int) / 1000000 = (Q : Int) ∧ (T : Int) % 1000000 = (R : Int) ∧ T ≤ 2000000 ∧ Q ≤ 1 ∧ R < 1000000 ∧ X + Y + C = R + 1000000 * Q := by
  refine ⟨X + Y + C, (X + Y + C) / 1000000, (X + Y + C) % 1000000, by omega, by omega, by omega, by omega, by omega, by omega, by omega⟩
def RowRes (v : Nat) (n : Nat) (w : World) (e : Ending) (w2 : World) : Prop := ∃ l, LimbsRet w l e w2 ∧ Norm 1000000 l ∧ lv 1000000 l = v ∧ l.length ≤ n
theorem empty_own (w : World) : OwnL w.heap.size (w.alloc (.cells #[] 3)) (.slice (some ⟨w.heap.size, 0, none⟩) 0 0) [] := by
  refine ⟨by simp [icells], .inr ⟨w.heap.size, 0, #[], rfl, Nat.le_refl _, heap_alloc_new _ _, Nat.le_refl _, by unfold maxLen; omega, rfl, rfl⟩⟩
theorem rplus_any (va vb : Value) (x y : List Nat) (B : Nat) (w : World) (ha : LimbAt B w va x) (hb : LimbAt B w vb y) (hB : B ≤ w.heap.size) (hx : Lt 1000000 x) (hy : Lt 1000000 y) (lx : x.length ≤ 100000) (ly : y.length ≤ 100000) :
    Calls Tryz.prog 379 #[va, vb] w (RowRes (lv 1000000 x + lv 1000000 y) (max x.length y.length + 1) w) := by
  obtain ⟨a0, c0, hva⟩ := ha.form
  obtain ⟨a1, c1, hvb⟩ := hb.form
  subst hva; subst hvb
  obtain ⟨i0, hi0, hz0, hz1, hz2⟩ := info_parts info3
  have HA := hide ha; have HBB := hide hb; have HX := hide hx; have HY := hide hy
  obtain ⟨n, hn⟩ : ∃ n, n = max x.length y.length := ⟨_, rfl⟩
  have hnl : n ≤ 100000 := by omega
  have HN := hide hn
  have HE0 := hide (empty_own w)
  have HBe := hide ((Below.refl w.heap.size w).alloc (Nat.le_refl _) (.cells #[] 3))
  clear ha hb hx hy hn
  go_enter Tryz.func379, Tryz.ntmps379
  go_wp2_with fail
  go_loopw [5, 6, 7] (fun v c i wr => ∃ (k C : Nat) (L : List Nat), k ≤ n + 1 ∧ i = .int .i64 k ∧ c = .int .i64 C ∧ C ≤ 1 ∧ Hid (OwnL w.heap.size wr v L ∧ Below w.heap.size w wr ∧ L.length = k ∧ Lt 1000000 L ∧ lv 1000000 L + 1000000 ^ k * C = lvT 1000000 x k + lvT 1000000 y k)) (fun _ _ i _ => n + 2 - (intOf i).toNat)
  case atStart => exact ⟨0, 0, [], Nat.zero_le _, rfl, rfl, Nat.zero_le _, HE0.out, HBe.out, rfl, fun z hz => by simp at hz, by rw [lvT_zero, lvT_zero]; rfl⟩
  case round =>
    obtain ⟨k, C, L, hk, rfl, rfl, hC, hin⟩ := hrel
    have hsz := hin.out.2.1.size
    obtain ⟨va2, vc2, hvf, hcap, _⟩ := hin.out.1.form
    have hLk := hin.out.2.2.1
    rw [hLk] at hvf hcap
    subst hvf
    have IN := hide hin.out
    clear hin
    have hcarry : n + 1 ≤ k → C = 0 := fun h => by
      have h1 := IN.out.2.2.2.2
      rw [lvT_all (l := x) (by have := HN.out; omega), lvT_all (l := y) (by have := HN.out; omega)] at h1
      have h2 := lv_lt HX.out
      have h3 := lv_lt HY.out
      have h4 : 1000000 ^ x.length ≤ 1000000 ^ n := Nat.pow_le_pow_right (by omega) (by have := HN.out; omega)
      have h5 : 1000000 ^ y.length ≤ 1000000 ^ n := Nat.pow_le_pow_right (by omega) (by have := HN.out; omega)
      obtain rfl : k = n + 1 := by omega
      rw [Nat.pow_succ] at h1
      rcases Nat.eq_zero_or_pos C with h6 | h6
      · exact h6
      · exfalso
        have h7 : 1000000 ^ n * 1000000 * 1 ≤ 1000000 ^ n * 1000000 * C := Nat.mul_le_mul_left _ h6
        omega
    have HCA := hide hcarry
    clear hcarry
    rcases (show (k < x.length) ∨ (¬ k < x.length ∧ k < y.length) ∨ (¬ k < x.length ∧ ¬ k < y.length ∧ 0 < C) ∨ (¬ k < x.length ∧ ¬ k < y.length ∧ C = 0) by omega) with h1 | ⟨h1, h2⟩ | ⟨h1, h2, h3⟩ | ⟨h1, h2, h3⟩
    case' inl =>
      have t1 : (k : Int) < (x.length : Int) := by omega
      have hkn : k ≤ n := by have := HN.out; omega
    case' inr.inl =>
      have t1 : ((k : Int) < (x.length : Int)) = False := eq_false (by omega)
      have t2 : (k : Int) < (y.length : Int) := by omega
      have hkn : k ≤ n := by have := HN.out; omega
    case' inr.inr.inl =>
      have t1 : ((k : Int) < (x.length : Int)) = False := eq_false (by omega)
      have t2 : ((k : Int) < (y.length : Int)) = False := eq_false (by omega)
      have t3 : 0 < C := h3
      have hkn : k ≤ n := by
        rcases Nat.lt_or_ge n k with h | h
        · have := HCA.out h
          omega
        · exact h
    rotate_right
    · have t1 : ((k : Int) < (x.length : Int)) = False := eq_false (by omega)
      have t2 : ((k : Int) < (y.length : Int)) = False := eq_false (by omega)
      subst h3
      have HT := hide (rtrim_any va2 vc2 L wr.heap.size wr (by rw [hLk]; exact IN.out.1.at_) (by omega) (by omega))
      rw [hLk] at HT
      have HV := hide (show lv 1000000 L = lv 1000000 x + lv 1000000 y by
        have h4 := IN.out.2.2.2.2
        rw [lvT_all (l := x) (by omega), lvT_all (l := y) (by omega), Nat.mul_zero, Nat.add_zero] at h4
        exact h4)
      have HLK := hide hLk
      clear h1 h2 hLk
      go_wp2_with fail
      refine HT.out.mono ?_
      rintro e w1 ⟨rfl, rfl⟩
      go_wp2_with fail
      go_ret
      refine ⟨trimL L, ⟨_, rfl, IN.out.2.1, ?_⟩, trimL_norm IN.out.2.2.2.1, by rw [trimL_lv, HV.out], ?_⟩
      · have hc := IN.out.1.cut (k := trimTo L k) (by rw [HLK.out]; have := trimTo_le L k; omega)
        unfold trimL
        rw [HLK.out]
        exact hc
      · rw [trimL_len]
        have := trimTo_le L L.length
        have := HLK.out
        have := HN.out
        omega
    all_goals
      have hL1 := hide (fun W (h : Below w.heap.size w W) => rlimb_any (.slice a0 x.length c0) x k B W (HA.out.below h hB) (by omega))
      have hL2 := hide (fun W (h : Below w.heap.size w W) => rlimb_any (.slice a1 y.length c1) y k B W (HBB.out.below h hB) (by omega))
      have hxk := lat_lt (by omega) HX.out k
      have hyk := lat_lt (by omega) HY.out k
      obtain ⟨X, hX⟩ : ∃ X, X = lat x k := ⟨_, rfl⟩
      obtain ⟨Y, hY⟩ : ∃ Y, Y = lat y k := ⟨_, rfl⟩
      rw [← hX] at hL1 hxk
      rw [← hY] at hL2 hyk
      obtain ⟨T, Q, R, hT, hQ, hR, hTl, hQl, hRl, hs⟩ := radd_nums hxk hyk hC
      have HXE := hide hX; have HYE := hide hY; have HS := hide hs; have HQE := hide hQ
      have HOW := hide (show (wr.alloc (.cells #[.int .i64 R] 3)).ownsRow w.heap.size 3 1 (.slice va2 k vc2) k (icells L) by
        have h := IN.out.1
        unfold OwnL at h
        rw [hLk] at h
        exact h.alloc _)
      have HNW := hide (show ∀ j u, ([.int .i64 R] : List Value)[j]? = some u → (wr.alloc (.cells #[.int .i64 R] 3)).cell? ((⟨wr.heap.size, 0, none⟩ : Addr).add j) = some u from World.news_of_block (cs := #[.int .i64 R]) (t := 3) (fr := (0, 0)) (heap_alloc_new wr _))
      have HLK := hide hLk
      clear hX hY hs hLk
      go_wp2_with fail
      refine (hL1.out wr IN.out.2.1).mono ?_
      rintro e w1 ⟨rfl, rfl⟩
      go_wp2_with fail
      refine (hL2.out _ IN.out.2.1).mono ?_
      rintro e w1 ⟨rfl, rfl⟩
      clear hL1 hL2
      go_wp2_with (at_builtin; go_must (refine wpList_append_own _ rfl (.tmp 35) (.tmp 38) 261 rfl w.heap.size 3 i0 _ 1 8 Tryz.underlying261 hi0 hz0 hz1 hz2 rfl (by decide) (.slice va2 k vc2) _ _ rfl HOW.out ⟨w1.heap.size, 0, none⟩ 1 1 [.int .i64 R] rfl rfl HNW.out (by simp [Value.oneCell']) (by simp only [maxLen]; omega) (by omega) (by simp; omega) ?_); intro v1 w5 hown hg1 hiff; clear hiff; have HOW5 := hide hown; have HGR := hide hg1; clear hown hg1)
      go_roundw
      case rel =>
        refine ⟨k + 1, Q, L ++ [R], by omega, by go_num, by first | rfl | rw [HQE.out], hQl, ?_, (IN.out.2.1.alloc (by omega) _).grown HGR.out (by simp; omega) (owns_ge IN.out.1 (Nat.le_refl _)), by rw [List.length_append, HLK.out]; rfl, ?_, ?_⟩
        · show World.ownsRow _ _ _ _ _ (L ++ [R]).length (icells (L ++ [R]))
          rw [List.length_append, HLK.out, icells_append]
          exact HOW5.out
        · intro z hz
          rcases List.mem_append.1 hz with h | h
          · exact IN.out.2.2.2.1 z h
          · simp only [List.mem_singleton] at h
            rw [h]
            exact hRl
        · rw [lv_snoc, HLK.out, lvT_succ, lvT_succ, ← HXE.out, ← HYE.out]
          exact plus_step IN.out.2.2.2.2 HS.out
      case measure => simp [intOf]; omega
theorem rsub_nums {X Y C : Nat} (hX : X < 1000000) (hY : Y < 1000000) (hC : C ≤ 1) :
    (∃ R : Nat, (X : Int) - (Y : Int) - (C : Int) = (R : Int) ∧ R < 1000000 ∧ R + Y + C = X + 1000000 * 0) ∨
    (∃ m R : Nat, (X : Int) - (Y : Int) - (C : Int) = -(m : Int) ∧ 0 < m ∧ m ≤ 1000000 ∧ -(m : Int) + 1000000 = (R : Int) ∧ R < 1000000 ∧ R + Y + C = X + 1000000 * 1) := by
  by_cases h : Y + C ≤ X
  · exact .inl ⟨X - (Y + C), by omega, by omega, by omega⟩
  · exact .inr ⟨Y + C - X, 1000000 + X - (Y + C), by omega, by omega, by omega, by omega, by omega, by omega⟩
theorem rminus_any (va vb : Value) (x y : List Nat) (B : Nat) (w : World) (ha : LimbAt B w va x) (hb : LimbAt B w vb y) (hB : B ≤ w.heap.size) (hx : Lt 1000000 x) (hy : Norm 1000000 y) (lx : x.length ≤ 100000) (hle : lv 1000000 y ≤ lv 1000000 x) :
    Calls Tryz.prog 396 #[va, vb] w (RowRes (lv 1000000 x - lv 1000000 y) x.length w) := by
  obtain ⟨a0, c0, hva⟩ := ha.form
  obtain ⟨a1, c1, hvb⟩ := hb.form
  subst hva; subst hvb
  obtain ⟨i0, hi0, hz0, hz1, hz2⟩ := info_parts info3
  have hyl := norm_le_b (b := 1000000) (by omega) hy hx hle
  have HA := hide ha; have HBB := hide hb; have HX := hide hx; have HY := hide hy.lt; have HLE := hide hle
  have HE0 := hide (empty_own w)
  have HBe := hide ((Below.refl w.heap.size w).alloc (Nat.le_refl _) (.cells #[] 3))
  clear ha hb hx hy hle
  go_enter Tryz.func396, Tryz.ntmps396
  go_wp2_with fail
  go_loopw [5, 6, 7] (fun v c i wr => ∃ (k C : Nat) (L : List Nat), k ≤ x.length ∧ i = .int .i64 k ∧ c = .int .i64 C ∧ C ≤ 1 ∧ Hid (OwnL w.heap.size wr v L ∧ Below w.heap.size w wr ∧ L.length = k ∧ Lt 1000000 L ∧ lv 1000000 L + lvT 1000000 y k = lvT 1000000 x k + 1000000 ^ k * C)) (fun _ _ i _ => x.length - (intOf i).toNat)
  case atStart => exact ⟨0, 0, [], Nat.zero_le _, rfl, rfl, Nat.zero_le _, HE0.out, HBe.out, rfl, fun z hz => by simp at hz, by rw [lvT_zero, lvT_zero]; rfl⟩
  case round =>
    obtain ⟨k, C, L, hk, rfl, rfl, hC, hin⟩ := hrel
    have hsz := hin.out.2.1.size
    obtain ⟨va2, vc2, hvf, hcap, _⟩ := hin.out.1.form
    have hLk := hin.out.2.2.1
    rw [hLk] at hvf hcap
    subst hvf
    have IN := hide hin.out
    clear hin
    by_cases hlt : k < x.length
    · have t1 : (k : Int) < (x.length : Int) := by omega
      have hk0 : (0 : Int) ≤ (k : Int) := by omega
      rcases (HA.out.below IN.out.2.1 hB).cases with ⟨_, _, _, hnil⟩ | ⟨g, o, cap, hv, hg, hcl⟩
      · rw [hnil] at hlt
        simp at hlt
      injection hv with hv1 hv2 hv3
      subst hv1; subst hv3
      have q1 := hcl k hlt
      have hL2 := hide (fun m : Nat => rlimb_any (.slice a1 y.length c1) y k B (wr.drewN m) (HBB.out.below (below_drewN IN.out.2.1 m) hB) (by omega))
      have hxk := lat_lt (by omega) HX.out k
      have hyk := lat_lt (by omega) HY.out k
      obtain ⟨X, hX⟩ : ∃ X, X = lat x k := ⟨_, rfl⟩
      obtain ⟨Y, hY⟩ : ∃ Y, Y = lat y k := ⟨_, rfl⟩
      rw [← hX] at q1 hxk
      rw [← hY] at hL2 hyk
      have HXE := hide hX; have HYE := hide hY; have HLK := hide hLk
      have hnums := rsub_nums hxk hyk hC
      have hw0 : IntKind.i64.wrap ((X : Int) - (Y : Int)) = (X : Int) - (Y : Int) := IntWalk.i64_in _ (by omega)
      clear hX hY hcl hv2 hg hlt
      rcases hnums with ⟨R, hR, hRl, hs⟩ | ⟨m, R, hm, hm0, hml, hR, hRl, hs⟩
      case' inl =>
        have hw1 : IntKind.i64.wrap ((X : Int) - (Y : Int) - (C : Int)) = (R : Int) := by rw [hR]; exact IntWalk.i64_in _ (by omega)
        have t2 : ((R : Int) < 0) = False := eq_false (by omega)
        have HCN := hide (show (0 : Nat) ≤ 1 by omega)
        obtain ⟨C2, hC2⟩ : ∃ C2 : Nat, C2 = 0 := ⟨_, rfl⟩
      case' inr =>
        have hw1 : IntKind.i64.wrap ((X : Int) - (Y : Int) - (C : Int)) = -(m : Int) := by rw [hm]; exact IntWalk.i64_in _ (by omega)
        have hw2 : IntKind.i64.wrap (-(m : Int) + 1000000) = (R : Int) := by rw [hR]; exact IntWalk.i64_in _ (by omega)
        have t2 : 0 < m := hm0
        clear hm hR
        obtain ⟨C2, hC2⟩ : ∃ C2 : Nat, C2 = 1 := ⟨_, rfl⟩
      all_goals
        rw [← hC2] at hs
        have HS := hide hs
        have HC2 := hide hC2
        have HOW := hide (fun nq : Nat => show ((wr.drewN nq).alloc (.cells #[.int .i64 R] 3)).ownsRow w.heap.size 3 1 (.slice va2 k vc2) k (icells L) by
          have h : OwnL w.heap.size (wr.drewN nq) (.slice va2 k vc2) L := IN.out.1
          unfold OwnL at h
          rw [hLk] at h
          exact h.alloc _)
        have HNW := hide (fun nq : Nat => show ∀ j u, ([.int .i64 R] : List Value)[j]? = some u → ((wr.drewN nq).alloc (.cells #[.int .i64 R] 3)).cell? ((⟨wr.heap.size, 0, none⟩ : Addr).add j) = some u from World.news_of_block (cs := #[.int .i64 R]) (t := 3) (fr := (0, 0)) (heap_alloc_new (wr.drewN nq) _))
        clear hs hC2 hLk
        go_wp2_with fail
        go_quiet ((go_at_call 395; exact Calls.quiet_of_same (hL2.out _)))
        clear hL2 q1 hw0 hw1
        go_wp2_with (at_builtin; go_must (refine wpList_append_own _ rfl (.tmp 30) (.tmp 32) 261 rfl w.heap.size 3 i0 _ 1 8 Tryz.underlying261 hi0 hz0 hz1 hz2 rfl (by decide) (.slice va2 k vc2) _ _ rfl (HOW.out nq) ⟨wr.heap.size, 0, none⟩ 1 1 [.int .i64 R] rfl rfl (HNW.out nq) (by simp [Value.oneCell']) (by simp only [maxLen]; omega) (by omega) (by simp; omega) ?_); intro v1 w5 hown hg1 hiff; clear hiff; have HOW5 := hide hown; have HGR := hide hg1; clear hown hg1)
        go_roundw
        case rel =>
          refine ⟨k + 1, C2, L ++ [R], by omega, by go_num, by rw [HC2.out]; rfl, by have := HC2.out; omega, ?_, ((below_drewN IN.out.2.1 nq).alloc (by show w.heap.size ≤ wr.heap.size; omega) _).grown HGR.out (by simp; omega) (owns_ge IN.out.1 (Nat.le_refl _)), by rw [List.length_append, HLK.out]; rfl, ?_, ?_⟩
          · show World.ownsRow _ _ _ _ _ (L ++ [R]).length (icells (L ++ [R]))
            rw [List.length_append, HLK.out, icells_append]
            exact HOW5.out
          · intro z hz
            rcases List.mem_append.1 hz with h | h
            · exact IN.out.2.2.2.1 z h
            · simp only [List.mem_singleton] at h
              rw [h]
              exact hRl
          · rw [lv_snoc, HLK.out, lvT_succ, lvT_succ, ← HXE.out, ← HYE.out]
            have := minus_step IN.out.2.2.2.2 HS.out
            omega
        case measure => simp [intOf]; omega
    · obtain rfl : k = x.length := by omega
      have t1 : ((x.length : Int) < (x.length : Int)) = False := eq_false (by omega)
      have HT := hide (rtrim_any va2 vc2 L wr.heap.size wr (by rw [hLk]; exact IN.out.1.at_) (by omega) (by omega))
      rw [hLk] at HT
      have HV := hide (show lv 1000000 L = lv 1000000 x - lv 1000000 y by
        have h4 := IN.out.2.2.2.2
        rw [lvT_all (l := x) (Nat.le_refl _), lvT_all (l := y) hyl] at h4
        have h5 := lv_lt IN.out.2.2.2.1
        rw [hLk] at h5
        have h6 := HLE.out
        rcases Nat.eq_zero_or_pos C with h7 | h7
        · rw [h7, Nat.mul_zero] at h4
          omega
        · exfalso
          have h8 : 1000000 ^ x.length * 1 ≤ 1000000 ^ x.length * C := Nat.mul_le_mul_left _ h7
          omega)
      have HLK := hide hLk
      clear hlt hLk
      go_wp2_with fail
      refine HT.out.mono ?_
      rintro e w1 ⟨rfl, rfl⟩
      go_wp2_with fail
      go_ret
      refine ⟨trimL L, ⟨_, rfl, IN.out.2.1, ?_⟩, trimL_norm IN.out.2.2.2.1, by rw [trimL_lv, HV.out], ?_⟩
      · have hc := IN.out.1.cut (k := trimTo L x.length) (by rw [HLK.out]; have := trimTo_le L x.length; omega)
        unfold trimL
        rw [HLK.out]
        exact hc
      · rw [trimL_len]
        have := trimTo_le L L.length
        have := HLK.out
        omega
end Go.Proofs.YtpmnhipffkhcpaaGreatDoor
namespace Go.KI
open Go
theorem dv_cut (ds : List UInt8) {lo e : Nat} (h : lo ≤ e) (_ : e ≤ ds.length) : dv (ds.drop lo) = dv ((ds.drop lo).take (e - lo)) * 10 ^ (ds.length - e) + dv (ds.drop e) := by
  have h1 : ds.drop lo = (ds.drop lo).take (e - lo) ++ ds.drop e := by
    conv => lhs; rw [← List.take_append_drop (e - lo) (ds.drop lo)]
    rw [List.drop_drop]
    congr 2
    omega
  conv => lhs; rw [h1]
  rw [dv_append, List.length_drop]
theorem dv_take_lt {ds : List UInt8} (hd : ∀ c ∈ ds, isDg c = true) (lo j : Nat) : dv ((ds.drop lo).take j) < 10 ^ j := by
  have h1 := dv_lt ((ds.drop lo).take j) (fun c hc => hd c (List.mem_of_mem_drop (List.mem_of_mem_take hc)))
  exact Nat.lt_of_lt_of_le h1 (Nat.pow_le_pow_right (by omega) (List.length_take_le _ _))
theorem dv_take_succ (ds : List UInt8) {lo j : Nat} (h : lo ≤ j) {c : UInt8} (hc : ds[j]? = some c) : dv ((ds.drop lo).take (j + 1 - lo)) = dv ((ds.drop lo).take (j - lo)) * 10 + (c.toNat - 48) := by
  rw [show j + 1 - lo = (j - lo) + 1 by omega, List.take_add_one, List.getElem?_drop, show lo + (j - lo) = j by omega, hc]
  exact dv_snoc _ _
end Go.KI
namespace Go.Proofs.YtpmnhipffkhcpaaGreatDoor
open Go.RowKit Go.KP Go.KI Go.Shelf
attribute [local go_sem] Oper.semAt_some

theorem exit_rread {R : Ending → World → Prop} {a : Act} {W : World} {b : Nat} {m : Bool} {v : Value} (hb : W.heap[b]? = some (.cells #[.bool m, v] 308 (0, 0)))
    (h2 : a.tmps[2]? = some (.pointer (some ⟨b, 0, none⟩))) (hd : a.defers = []) (hR : R (.returned (numV m v)) W) : bodyPost Tryz.prog Tryz.f303 R .ret a W := by
  have hcell := fun o => cell_blk hb o
  refine bodyPost_ret ?_ hd hR
  simp [results, go_sem, hcell, h2]
def RNum (z : Int) (n : Nat) (w : World) (e : Ending) (w2 : World) : Prop := ∃ (m : Bool) (v : Value) (l : List Nat), e = .returned (numV m v) ∧ Below w.heap.size w w2 ∧ OwnL w.heap.size w2 v l ∧ Norm 1000000 l ∧ valS m (lv 1000000 l) = z ∧ l.length ≤ n
theorem rread_good (s : ByteArray) (c1 : chkI s.data.toList = 0) (w : World) :
    Calls Tryz.prog 303 #[.string s] w (RNum (valI s.data.toList) 60 w) := by
  obtain ⟨i0, hi0, hz0, hz1, hz2⟩ := info_parts info3
  obtain ⟨mi, hmi⟩ : ∃ mi, mi = decide (s.data.toList.head? = some 45) := ⟨_, rfl⟩
  have HV := hide (valI_S s.data.toList)
  rw [← hmi] at HV
  have hpos := chk_pos c1
  have hlen := (chk_digs c1).2
  rw [bytes_len] at hpos hlen
  have hne : s.data.toList ≠ [] := fun e => by have := bytes_len s; rw [e] at this; simp at this; omega
  obtain ⟨hp, hh⟩ := bytes_head hne
  have hp0 : (0 : Int) < (s.size : Int) := by omega
  have h45 : ((s[0].toNat : Int) == 45) = mi := by
    rw [hmi, hh]
    by_cases h : s[0] = 45
    · rw [h]; rfl
    · have : s[0].toNat ≠ 45 := fun e => h (UInt8.toNat_inj.1 e)
      have h2 : ((s[0].toNat : Int) == 45) = false := by
        simp only [beq_eq_false_iff_ne, ne_eq]
        omega
      rw [h2]
      simp [h]
  have HDG := hide (chk_digs c1).1
  obtain ⟨ds, hds⟩ : ∃ ds, ds = digs s.data.toList := ⟨_, rfl⟩
  have hd := digs_drop s.data.toList
  rw [← hds] at HDG HV hd
  have hdl : ds.length ≤ 300 := by
    have h1 := fits_len.1 (chk_ok c1).2
    have h2 := digs_itoa (valI s.data.toList)
    rw [← (chk_ok c1).1, ← hds] at h2
    rw [h2]
    exact h1
  obtain ⟨t, ht⟩ : ∃ t : ByteArray, t.data.toList = ds := ⟨strB ds, strB_list _⟩
  have htl : t.size = ds.length := by rw [← bytes_len, ht]
  have htT : mi = true → s.extract 1 s.size = t := fun h => by
    rw [h] at hmi
    apply bytes_eq
    rw [ht, hd, if_pos (of_decide_eq_true hmi.symm)]
    simp
    exact List.take_of_length_le (by rw [List.length_tail, bytes_len]; exact Nat.le_refl _)
  have htF : mi = false → s = t := fun h => by
    rw [h] at hmi
    apply bytes_eq
    rw [ht, hd, if_neg (of_decide_eq_false hmi.symm)]
    rfl
  have HTT := hide htT; have HTF := hide htF; have HT := hide ht
  obtain ⟨D, hD⟩ : ∃ D, D = t.size := ⟨_, rfl⟩
  have hDl : D ≤ 300 := by omega
  have HD := hide hD; have HDD := hide (show ds.length = D by omega)
  clear hmi hne hh c1 hd hds hlen hdl ht htl htT htF hpos hD
  go_enter Tryz.func303, Tryz.ntmps303
  cases mi
  · have HST := hide (HTF.out rfl)
    clear HTT HTF
    go_wp2_with fail
    have hst := HST.out
    subst hst
    have HSZ := hide (show s.size = D from HD.out.symm)
    obtain ⟨p0, p1, ps, pb⟩ := heap2 w (.cells #[.bool false, .slice none 0 0] 308) (.cells #[.bool false, .slice none 0 0] 308)
    obtain ⟨w0, hw0⟩ : ∃ w0, (w.alloc (.cells #[.bool false, .slice none 0 0] 308)).alloc (.cells #[.bool false, .slice none 0 0] 308) = w0 := ⟨_, rfl⟩
    rw [hw0] at p0 p1 ps pb ⊢
    have P0 := hide p0; have P1 := hide p1; have PB := hide pb; have PS := hide ps
    clear p0 p1 ps pb hw0 h45
    go_loopw [4] (fun e wr => ∃ k : Nat, e = .int .i64 ((D : Int) - 6 * (k : Int)) ∧ 6 * k ≤ D + 5 ∧ Hid (∃ (v : Value) (L : List Nat), wr.heap[w.heap.size]? = some (.cells #[.bool false, .slice none 0 0] 308 (0, 0)) ∧ wr.heap[w.heap.size + 1]? = some (.cells #[.bool false, v] 308 (0, 0)) ∧ Below w.heap.size w wr ∧ OwnL (w.heap.size + 2) wr v L ∧ L.length = k ∧ Lt 1000000 L ∧ lv 1000000 L = dv (ds.drop (D - 6 * k)))) (fun e _ => (intOf e).toNat)
    case atStart => exact ⟨0, by have := HSZ.out; first | rfl | (congr 1 <;> omega), by omega, .slice none 0 0, [], P0.out, P1.out, PB.out, OwnL.nil _ _, rfl, fun z hz => by simp at hz, by
      rw [List.drop_of_length_le (by have := HDD.out; omega)]; rfl⟩
    case round =>
      obtain ⟨k, rfl, hk6, hin⟩ := hrel
      obtain ⟨v, L, r0, r1, rb, ro, rl, rt, rv⟩ := hin.out
      obtain ⟨va, vc, hvf, hcap, _⟩ := ro.form
      rw [rl] at hvf hcap
      subst hvf
      have hwr : w.heap.size + 2 ≤ wr.heap.size := by
        have h1 := lt_blk r1
        omega
      by_cases hlt : 6 * k < D
      · obtain ⟨E, hE⟩ : ∃ E, E = D - 6 * k := ⟨_, rfl⟩
        have hEi : (D : Int) - 6 * (k : Int) = (E : Int) := by omega
        obtain ⟨lo, hlo⟩ : ∃ lo, lo = E - 6 := ⟨_, rfl⟩
        have hmax : max (0 : Int) ((E : Int) - 6) = (lo : Int) := by omega
        have hE0 : (0 : Int) < (E : Int) := by omega
        have hEl : (E : Int) ≤ 300 := by omega
        rw [hEi]
        have R0 := hide r0; have R1 := hide r1; have RB := hide rb; have RO := hide ro; have RL := hide rl; have RT := hide rt; have RV := hide rv
        have HE := hide hE; have HLO := hide hlo
        have hloE : lo ≤ E := by omega
        have hED : E ≤ D := by omega
        clear r0 r1 rb ro rl rt rv hin hE hlo hEi
        go_wp2_with fail
        clear hmax
        obtain ⟨wo, hwo⟩ : ∃ wo, wo = wr := ⟨_, rfl⟩
        subst hwo
        go_loopw [5, 6] (fun nn i wr2 => ∃ j A : Nat, lo ≤ j ∧ j ≤ E ∧ i = .int .i64 j ∧ nn = .int .i64 A ∧ Hid (A = dv ((ds.drop lo).take (j - lo))) ∧ wr2 = wo) (fun _ i _ => E - (intOf i).toNat)
        case atStart => exact ⟨lo, 0, Nat.le_refl _, hloE, rfl, rfl, by rw [Nat.sub_self]; rfl, rfl⟩
        case round =>
          obtain ⟨j, A, hj1, hj2, rfl, rfl, hA, hww⟩ := hrel
          obtain rfl := hww.symm
          have hAb := dv_take_lt HDG.out lo (j - lo)
          rw [← hA.out] at hAb
          by_cases hlt2 : j < E
          · have hji : (j : Int) < (E : Int) := by omega
            have hj0 : (0 : Int) ≤ (j : Int) := by omega
            have hjt : j < s.size := by have := HD.out; omega
            have hjti : (j : Int) < (s.size : Int) := by omega
            obtain ⟨y, hyv⟩ : ∃ y : Nat, y = (s[j]'hjt).toNat := ⟨_, rfl⟩
            have hyv2 : (s[j]'hjt).toNat = y := hyv.symm
            have hat : ds[j]? = some (s[j]'hjt) := by
              rw [← HT.out]
              have h1 : s.data.toList[j]? = some s.data[j] := by simp
              exact h1
            have hdg := isDg_iff.1 (HDG.out _ (List.mem_of_getElem? hat))
            rw [hyv2] at hdg
            have hnew := dv_take_succ ds hj1 hat
            rw [hyv2, ← hA.out] at hnew
            have hp5 : (10 : Nat) ^ (j - lo) ≤ 10 ^ 5 := Nat.pow_le_pow_right (by omega) (by have := HLO.out; omega)
            have hA5 : A < 100000 := Nat.lt_of_lt_of_le hAb hp5
            have HN := hide hnew.symm
            have y0 : (48 : Int) ≤ (y : Int) := by omega
            have y1 : (y : Int) ≤ 57 := by omega
            have a1 : (A : Int) < 100000 := by omega
            have HC := hide (show 10 * (A : Int) + ((y : Int) - 48) = ((A * 10 + (y - 48) : Nat) : Int) by omega)
            clear hat hyv hdg hnew hA hAb hp5 hA5
            go_wp2_with fail
            go_roundw
            case rel => exact ⟨j + 1, A * 10 + (y - 48), by omega, by omega, by go_num, by rw [← HC.out], HN, trivial⟩
            case measure => simp [intOf]; omega
          · obtain rfl : j = E := by omega
            have hji : ((j : Int) < (j : Int)) = False := eq_false (by omega)
            have hp6 : (10 : Nat) ^ (j - lo) ≤ 10 ^ 6 := Nat.pow_le_pow_right (by omega) (by have := HLO.out; omega)
            have hAl : A < 1000000 := Nat.lt_of_lt_of_le hAb hp6
            have HAL := hide hAl
            have HAE := hide hA.out
            have q1 := cell_blk R1.out 1
            have qf := froz_blk R1.out 1
            have HOW := hide (show (wo.alloc (.cells #[.int .i64 A] 3)).ownsRow (w.heap.size + 2) 3 1 (.slice va k vc) k (icells L) by
              have h := RO.out
              unfold OwnL at h
              rw [RL.out] at h
              exact h.alloc _)
            have HNW := hide (show ∀ j u, ([.int .i64 A] : List Value)[j]? = some u → (wo.alloc (.cells #[.int .i64 A] 3)).cell? ((⟨wo.heap.size, 0, none⟩ : Addr).add j) = some u from World.news_of_block (cs := #[.int .i64 A]) (t := 3) (fr := (0, 0)) (heap_alloc_new wo _))
            clear hA hAb hp6 hAl hlt2
            go_wp2_with (at_builtin; go_must (refine wpList_append_own _ rfl (.tmp 37) (.tmp 39) 261 rfl (w.heap.size + 2) 3 i0 _ 1 8 Tryz.underlying261 hi0 hz0 hz1 hz2 rfl (by decide) (.slice va k vc) _ _ rfl HOW.out ⟨wo.heap.size, 0, none⟩ 1 1 [.int .i64 A] rfl rfl HNW.out (by simp [Value.oneCell']) (by simp only [maxLen]; omega) (by omega) (by simp; omega) ?_); intro v1 w5 hown hg1 hiff; clear hiff; obtain ⟨va1, vc1, hvf⟩ := owns_form hown; subst hvf; have HOW5 := hide hown; have HB5 := hide (show Below (w.heap.size + 2) wo w5 from ((Below.refl (w.heap.size + 2) wo).alloc hwr _).grown hg1 (by simp; omega) (owns_ge RO.out (Nat.le_refl _))); clear hown hg1 q1 qf; have R1' := hide (below_blk HB5.out R1.out (by omega)); have R0' := hide (below_blk HB5.out R0.out (by omega)); have qf := froz_blk R1'.out 1; have qc5 := cell_blk R1'.out 1; have ql := lt_blk R1'.out)
            go_roundw
            case rel =>
              refine ⟨k + 1, by have := HE.out; have := HLO.out; congr 1; omega, by have := HE.out; omega, .slice va1 (k + 1) vc1, L ++ [A], (setCell_other (by omega)).trans R0'.out, ?_, (RB.out.trans (HB5.out.mono (by omega))).setCell (p := ⟨w.heap.size + 1, 1, none⟩) (by simp) _, ?_, by rw [List.length_append, RL.out]; rfl, ?_, ?_⟩
              · have h := R1'.out
                simp only [World.setCell, Array.getElem?_modify, h]
                rfl
              · refine OwnL.other ?_ (p := ⟨w.heap.size + 1, 1, none⟩) (by simp) _
                show World.ownsRow _ _ _ _ _ (L ++ [A]).length (icells (L ++ [A]))
                rw [List.length_append, RL.out, icells_append]
                exact HOW5.out
              · intro z hz
                rcases List.mem_append.1 hz with h | h
                · exact RT.out z h
                · simp only [List.mem_singleton] at h
                  rw [h]
                  exact HAL.out
              · rw [lv_snoc, RL.out, RV.out]
                have h1 := dv_cut ds (lo := lo) (e := j) hj1 (by rw [HDD.out]; exact hED)
                have e1 : D - 6 * (k + 1) = lo := by have := HE.out; have := HLO.out; omega
                have e2 : D - 6 * k = j := HE.out.symm
                have e3 : (1000000 : Nat) ^ k = 10 ^ (ds.length - j) := by
                  rw [show (1000000 : Nat) = 10 ^ 6 by decide, ← Nat.pow_mul]
                  congr 1
                  have := HE.out
                  have := HDD.out
                  omega
                rw [e1, e2, h1, ← HAE.out, e3, Nat.mul_comm A, Nat.add_comm]
            case measure => simp [intOf]; omega
      · have hEi : ((0 : Int) < (D : Int) - 6 * (k : Int)) = False := eq_false (by omega)
        have HT2 := hide (fun W (h : OwnL (w.heap.size + 2) W (.slice va k vc) L) => rtrim_any va vc L W.heap.size W (by rw [rl]; exact h.at_) (by omega) (by omega))
        rw [rl] at HT2
        have HT3 := hide (HT2.out wr ro)
        have q1 := cell_blk r1 1
        have q0 := cell_blk r1 0
        have qf := froz_blk r1 1
        have ql := lt_blk r1
        have z0 := cell_blk r0 0
        have z1 := cell_blk r0 1
        have zf := froz_blk r0 0
        have zg := froz_blk r0 1
        have zl := lt_blk r0
        have R0 := hide r0; have R1 := hide r1; have RB := hide rb; have RO := hide ro; have RL := hide rl; have RT := hide rt; have RV := hide rv
        have hk60 : k ≤ 60 := by omega
        clear r0 r1 rb ro rl rt rv hin HT2
        go_wp2_with fail
        refine HT3.out.mono ?_
        rintro e w1 ⟨rfl, rfl⟩
        go_wp2_with fail
        obtain ⟨Wa, hWa⟩ : ∃ Wa, Wa = wr.setCell ⟨w.heap.size + 1, 1, none⟩ (.slice va (trimTo L k) vc) := ⟨_, rfl⟩
        rw [← hWa]
        have A0 : Wa.heap[w.heap.size]? = some (.cells #[.bool false, .slice none 0 0] 308 (0, 0)) := by rw [hWa]; exact (setCell_other (by omega)).trans R0.out
        have AB : Below w.heap.size w Wa := by rw [hWa]; exact RB.out.setCell (p := ⟨w.heap.size + 1, 1, none⟩) (by simp) _
        have AO : OwnL (w.heap.size + 2) Wa (.slice va k vc) L := by rw [hWa]; exact RO.out.other (p := ⟨w.heap.size + 1, 1, none⟩) (by simp) _
        obtain ⟨s1, s2⟩ := set2 A0 (.bool false) (.slice va (trimTo L k) vc)
        refine exit_rread s1 rfl rfl ?_
        refine ⟨false, _, trimL L, rfl, AB.trans s2, ?_, trimL_norm RT.out, ?_, ?_⟩
        · have h1 := (((AO.other (p := ⟨w.heap.size, 0, none⟩) (by simp) (.bool false)).other (p := ⟨w.heap.size, 1, none⟩) (by simp) (.slice va (trimTo L k) vc)).cut (k := trimTo L k) (by have := trimTo_le L k; rw [RL.out]; exact this)).mono (show w.heap.size ≤ w.heap.size + 2 by omega)
          unfold trimL
          rw [RL.out]
          exact h1
        · rw [trimL_lv, RV.out, show D - 6 * k = 0 by omega, List.drop_zero, HV.out]
        · rw [trimL_len]
          have := trimTo_le L L.length
          have := RL.out
          omega
  · have HST := hide (HTT.out rfl)
    clear HTT HTF
    go_wp2_with fail
    have hst := HST.out
    have hsz : s.size - 1 = D := by
      rw [HD.out, ← hst]
      simp
    rw [hst, hsz]
    clear hst hsz
    have HSZ := hide (show D = D from rfl)
    obtain ⟨p0, p1, ps, pb⟩ := heap2 w (.cells #[.bool false, .slice none 0 0] 308) (.cells #[.bool true, .slice none 0 0] 308)
    obtain ⟨w0, hw0⟩ : ∃ w0, (w.alloc (.cells #[.bool false, .slice none 0 0] 308)).alloc (.cells #[.bool true, .slice none 0 0] 308) = w0 := ⟨_, rfl⟩
    rw [hw0] at p0 p1 ps pb ⊢
    have P0 := hide p0; have P1 := hide p1; have PB := hide pb; have PS := hide ps
    clear p0 p1 ps pb hw0 h45
    go_loopw [4] (fun e wr => ∃ k : Nat, e = .int .i64 ((D : Int) - 6 * (k : Int)) ∧ 6 * k ≤ D + 5 ∧ Hid (∃ (v : Value) (L : List Nat), wr.heap[w.heap.size]? = some (.cells #[.bool false, .slice none 0 0] 308 (0, 0)) ∧ wr.heap[w.heap.size + 1]? = some (.cells #[.bool true, v] 308 (0, 0)) ∧ Below w.heap.size w wr ∧ OwnL (w.heap.size + 2) wr v L ∧ L.length = k ∧ Lt 1000000 L ∧ lv 1000000 L = dv (ds.drop (D - 6 * k)))) (fun e _ => (intOf e).toNat)
    case atStart => exact ⟨0, by have := HSZ.out; first | rfl | (congr 1 <;> omega), by omega, .slice none 0 0, [], P0.out, P1.out, PB.out, OwnL.nil _ _, rfl, fun z hz => by simp at hz, by
      rw [List.drop_of_length_le (by have := HDD.out; omega)]; rfl⟩
    case round =>
      obtain ⟨k, rfl, hk6, hin⟩ := hrel
      obtain ⟨v, L, r0, r1, rb, ro, rl, rt, rv⟩ := hin.out
      obtain ⟨va, vc, hvf, hcap, _⟩ := ro.form
      rw [rl] at hvf hcap
      subst hvf
      have hwr : w.heap.size + 2 ≤ wr.heap.size := by
        have h1 := lt_blk r1
        omega
      by_cases hlt : 6 * k < D
      · obtain ⟨E, hE⟩ : ∃ E, E = D - 6 * k := ⟨_, rfl⟩
        have hEi : (D : Int) - 6 * (k : Int) = (E : Int) := by omega
        obtain ⟨lo, hlo⟩ : ∃ lo, lo = E - 6 := ⟨_, rfl⟩
        have hmax : max (0 : Int) ((E : Int) - 6) = (lo : Int) := by omega
        have hE0 : (0 : Int) < (E : Int) := by omega
        have hEl : (E : Int) ≤ 300 := by omega
        rw [hEi]
        have R0 := hide r0; have R1 := hide r1; have RB := hide rb; have RO := hide ro; have RL := hide rl; have RT := hide rt; have RV := hide rv
        have HE := hide hE; have HLO := hide hlo
        have hloE : lo ≤ E := by omega
        have hED : E ≤ D := by omega
        clear r0 r1 rb ro rl rt rv hin hE hlo hEi
        go_wp2_with fail
        clear hmax
        obtain ⟨wo, hwo⟩ : ∃ wo, wo = wr := ⟨_, rfl⟩
        subst hwo
        go_loopw [5, 6] (fun nn i wr2 => ∃ j A : Nat, lo ≤ j ∧ j ≤ E ∧ i = .int .i64 j ∧ nn = .int .i64 A ∧ Hid (A = dv ((ds.drop lo).take (j - lo))) ∧ wr2 = wo) (fun _ i _ => E - (intOf i).toNat)
        case atStart => exact ⟨lo, 0, Nat.le_refl _, hloE, rfl, rfl, by rw [Nat.sub_self]; rfl, rfl⟩
        case round =>
          obtain ⟨j, A, hj1, hj2, rfl, rfl, hA, hww⟩ := hrel
          obtain rfl := hww.symm
          have hAb := dv_take_lt HDG.out lo (j - lo)
          rw [← hA.out] at hAb
          by_cases hlt2 : j < E
          · have hji : (j : Int) < (E : Int) := by omega
            have hj0 : (0 : Int) ≤ (j : Int) := by omega
            have hjt : j < t.size := by have := HD.out; omega
            have hjti : (j : Int) < (t.size : Int) := by omega
            obtain ⟨y, hyv⟩ : ∃ y : Nat, y = (t[j]'hjt).toNat := ⟨_, rfl⟩
            have hyv2 : (t[j]'hjt).toNat = y := hyv.symm
            have hat : ds[j]? = some (t[j]'hjt) := by
              rw [← HT.out]
              have h1 : t.data.toList[j]? = some t.data[j] := by simp
              exact h1
            have hdg := isDg_iff.1 (HDG.out _ (List.mem_of_getElem? hat))
            rw [hyv2] at hdg
            have hnew := dv_take_succ ds hj1 hat
            rw [hyv2, ← hA.out] at hnew
            have hp5 : (10 : Nat) ^ (j - lo) ≤ 10 ^ 5 := Nat.pow_le_pow_right (by omega) (by have := HLO.out; omega)
            have hA5 : A < 100000 := Nat.lt_of_lt_of_le hAb hp5
            have HN := hide hnew.symm
            have y0 : (48 : Int) ≤ (y : Int) := by omega
            have y1 : (y : Int) ≤ 57 := by omega
            have a1 : (A : Int) < 100000 := by omega
            have HC := hide (show 10 * (A : Int) + ((y : Int) - 48) = ((A * 10 + (y - 48) : Nat) : Int) by omega)
            clear hat hyv hdg hnew hA hAb hp5 hA5
            go_wp2_with fail
            go_roundw
            case rel => exact ⟨j + 1, A * 10 + (y - 48), by omega, by omega, by go_num, by rw [← HC.out], HN, trivial⟩
            case measure => simp [intOf]; omega
          · obtain rfl : j = E := by omega
            have hji : ((j : Int) < (j : Int)) = False := eq_false (by omega)
            have hp6 : (10 : Nat) ^ (j - lo) ≤ 10 ^ 6 := Nat.pow_le_pow_right (by omega) (by have := HLO.out; omega)
            have hAl : A < 1000000 := Nat.lt_of_lt_of_le hAb hp6
            have HAL := hide hAl
            have HAE := hide hA.out
            have q1 := cell_blk R1.out 1
            have qf := froz_blk R1.out 1
            have HOW := hide (show (wo.alloc (.cells #[.int .i64 A] 3)).ownsRow (w.heap.size + 2) 3 1 (.slice va k vc) k (icells L) by
              have h := RO.out
              unfold OwnL at h
              rw [RL.out] at h
              exact h.alloc _)
            have HNW := hide (show ∀ j u, ([.int .i64 A] : List Value)[j]? = some u → (wo.alloc (.cells #[.int .i64 A] 3)).cell? ((⟨wo.heap.size, 0, none⟩ : Addr).add j) = some u from World.news_of_block (cs := #[.int .i64 A]) (t := 3) (fr := (0, 0)) (heap_alloc_new wo _))
            clear hA hAb hp6 hAl hlt2
            go_wp2_with (at_builtin; go_must (refine wpList_append_own _ rfl (.tmp 37) (.tmp 39) 261 rfl (w.heap.size + 2) 3 i0 _ 1 8 Tryz.underlying261 hi0 hz0 hz1 hz2 rfl (by decide) (.slice va k vc) _ _ rfl HOW.out ⟨wo.heap.size, 0, none⟩ 1 1 [.int .i64 A] rfl rfl HNW.out (by simp [Value.oneCell']) (by simp only [maxLen]; omega) (by omega) (by simp; omega) ?_); intro v1 w5 hown hg1 hiff; clear hiff; obtain ⟨va1, vc1, hvf⟩ := owns_form hown; subst hvf; have HOW5 := hide hown; have HB5 := hide (show Below (w.heap.size + 2) wo w5 from ((Below.refl (w.heap.size + 2) wo).alloc hwr _).grown hg1 (by simp; omega) (owns_ge RO.out (Nat.le_refl _))); clear hown hg1 q1 qf; have R1' := hide (below_blk HB5.out R1.out (by omega)); have R0' := hide (below_blk HB5.out R0.out (by omega)); have qf := froz_blk R1'.out 1; have qc5 := cell_blk R1'.out 1; have ql := lt_blk R1'.out)
            go_roundw
            case rel =>
              refine ⟨k + 1, by have := HE.out; have := HLO.out; congr 1; omega, by have := HE.out; omega, .slice va1 (k + 1) vc1, L ++ [A], (setCell_other (by omega)).trans R0'.out, ?_, (RB.out.trans (HB5.out.mono (by omega))).setCell (p := ⟨w.heap.size + 1, 1, none⟩) (by simp) _, ?_, by rw [List.length_append, RL.out]; rfl, ?_, ?_⟩
              · have h := R1'.out
                simp only [World.setCell, Array.getElem?_modify, h]
                rfl
              · refine OwnL.other ?_ (p := ⟨w.heap.size + 1, 1, none⟩) (by simp) _
                show World.ownsRow _ _ _ _ _ (L ++ [A]).length (icells (L ++ [A]))
                rw [List.length_append, RL.out, icells_append]
                exact HOW5.out
              · intro z hz
                rcases List.mem_append.1 hz with h | h
                · exact RT.out z h
                · simp only [List.mem_singleton] at h
                  rw [h]
                  exact HAL.out
              · rw [lv_snoc, RL.out, RV.out]
                have h1 := dv_cut ds (lo := lo) (e := j) hj1 (by rw [HDD.out]; exact hED)
                have e1 : D - 6 * (k + 1) = lo := by have := HE.out; have := HLO.out; omega
                have e2 : D - 6 * k = j := HE.out.symm
                have e3 : (1000000 : Nat) ^ k = 10 ^ (ds.length - j) := by
                  rw [show (1000000 : Nat) = 10 ^ 6 by decide, ← Nat.pow_mul]
                  congr 1
                  have := HE.out
                  have := HDD.out
                  omega
                rw [e1, e2, h1, ← HAE.out, e3, Nat.mul_comm A, Nat.add_comm]
            case measure => simp [intOf]; omega
      · have hEi : ((0 : Int) < (D : Int) - 6 * (k : Int)) = False := eq_false (by omega)
        have HT2 := hide (fun W (h : OwnL (w.heap.size + 2) W (.slice va k vc) L) => rtrim_any va vc L W.heap.size W (by rw [rl]; exact h.at_) (by omega) (by omega))
        rw [rl] at HT2
        have HT3 := hide (HT2.out wr ro)
        have q1 := cell_blk r1 1
        have q0 := cell_blk r1 0
        have qf := froz_blk r1 1
        have ql := lt_blk r1
        have z0 := cell_blk r0 0
        have z1 := cell_blk r0 1
        have zf := froz_blk r0 0
        have zg := froz_blk r0 1
        have zl := lt_blk r0
        have R0 := hide r0; have R1 := hide r1; have RB := hide rb; have RO := hide ro; have RL := hide rl; have RT := hide rt; have RV := hide rv
        have hk60 : k ≤ 60 := by omega
        clear r0 r1 rb ro rl rt rv hin HT2
        go_wp2_with fail
        refine HT3.out.mono ?_
        rintro e w1 ⟨rfl, rfl⟩
        go_wp2_with fail
        obtain ⟨Wa, hWa⟩ : ∃ Wa, Wa = wr.setCell ⟨w.heap.size + 1, 1, none⟩ (.slice va (trimTo L k) vc) := ⟨_, rfl⟩
        rw [← hWa]
        have A0 : Wa.heap[w.heap.size]? = some (.cells #[.bool false, .slice none 0 0] 308 (0, 0)) := by rw [hWa]; exact (setCell_other (by omega)).trans R0.out
        have AB : Below w.heap.size w Wa := by rw [hWa]; exact RB.out.setCell (p := ⟨w.heap.size + 1, 1, none⟩) (by simp) _
        have AO : OwnL (w.heap.size + 2) Wa (.slice va k vc) L := by rw [hWa]; exact RO.out.other (p := ⟨w.heap.size + 1, 1, none⟩) (by simp) _
        obtain ⟨s1, s2⟩ := set2 A0 (.bool true) (.slice va (trimTo L k) vc)
        refine exit_rread s1 rfl rfl ?_
        refine ⟨true, _, trimL L, rfl, AB.trans s2, ?_, trimL_norm RT.out, ?_, ?_⟩
        · have h1 := (((AO.other (p := ⟨w.heap.size, 0, none⟩) (by simp) (.bool true)).other (p := ⟨w.heap.size, 1, none⟩) (by simp) (.slice va (trimTo L k) vc)).cut (k := trimTo L k) (by have := trimTo_le L k; rw [RL.out]; exact this)).mono (show w.heap.size ≤ w.heap.size + 2 by omega)
          unfold trimL
          rw [RL.out]
          exact h1
        · rw [trimL_lv, RV.out, show D - 6 * k = 0 by omega, List.drop_zero, HV.out]
        · rw [trimL_len]
          have := trimTo_le L L.length
          have := RL.out
          omega
open Go.RowKit Go.KP Go.KI Go.Shelf
attribute [local go_sem] Oper.semAt_some

theorem exit_rneg {R : Ending → World → Prop} {a : Act} {W : World} {b : Nat} {m : Bool} {v : Value} (hb : W.heap[b]? = some (.cells #[.bool m, v] 308 (0, 0)))
    (h2 : a.tmps[2]? = some (.pointer (some ⟨b, 0, none⟩))) (hd : a.defers = []) (hR : R (.returned (numV m v)) W) : bodyPost Tryz.prog Tryz.f370 R .ret a W := by
  have hcell := fun o => cell_blk hb o
  refine bodyPost_ret ?_ hd hR
  simp [results, go_sem, hcell, h2]
def NegRes (z : Int) (v : Value) (l : List Nat) (w : World) (e : Ending) (w2 : World) : Prop := ∃ m : Bool, e = .returned (numV m v) ∧ Below w.heap.size w w2 ∧ valS m (lv 1000000 l) = z
theorem rnegative_any (m : Bool) (a : Option Addr) (c : Nat) (l : List Nat) (w : World) :
    Calls Tryz.prog 370 #[numV m (.slice a l.length c)] w (NegRes (-valS m (lv 1000000 l)) (.slice a l.length c) l w) := by
  obtain ⟨p0, p1, ps, pb⟩ := heap2 w (.cells #[.bool m, .slice a l.length c] 308) (.cells #[.bool false, .slice none 0 0] 308)
  obtain ⟨w0, hw0⟩ : ∃ w0, (w.alloc (.cells #[.bool m, .slice a l.length c] 308)).alloc (.cells #[.bool false, .slice none 0 0] 308) = w0 := ⟨_, rfl⟩
  rw [hw0] at p0 p1 ps pb
  have P1 := hide p1; have PB := hide pb
  have c0 := cell_blk p0 0
  have c1 := cell_blk p0 1
  have d0 := cell_blk p1 0
  have d1 := cell_blk p1 1
  have f0 := froz_blk p1 0
  have f1 := froz_blk p1 1
  have hlt := lt_blk p1
  by_cases h0 : l = []
  · have hz : valS m (lv 1000000 l) = 0 := by rw [h0]; cases m <;> rfl
    have HZ := hide hz
    have hl0 : ((l.length : Int) == 0) = true := by rw [h0]; rfl
    clear h0 hz pb ps p0 p1
    go_enter Tryz.func370, Tryz.ntmps370
    go_wp2_with fail
    obtain ⟨s1, s2⟩ := set2 P1.out (.bool m) (.slice a l.length c)
    refine exit_rneg s1 rfl rfl ?_
    exact ⟨m, rfl, PB.out.trans (s2.mono (by omega)), by rw [HZ.out]; rfl⟩
  · have hl0 : ((l.length : Int) == 0) = false := by
      have : l.length ≠ 0 := fun h => h0 (List.eq_nil_of_length_eq_zero h)
      simp only [beq_eq_false_iff_ne, ne_eq]
      omega
    clear h0 pb ps p0 p1
    go_enter Tryz.func370, Tryz.ntmps370
    go_wp2_with fail
    obtain ⟨s1, s2⟩ := set2 P1.out (.bool (!m)) (.slice a l.length c)
    refine exit_rneg s1 rfl rfl ?_
    exact ⟨!m, rfl, PB.out.trans (s2.mono (by omega)), valS_not m _⟩
end Go.Proofs.YtpmnhipffkhcpaaGreatDoor
namespace Go.KI
open Go
theorem digit_at {l : List Nat} (hl : Lt 1000000 l) {i j : Nat} (hi : i < l.length) (hj : j < 6) : lv 1000000 l / 10 ^ (6 * i + j) % 10 = lat l i / 10 ^ j % 10 := by
  have h := lv_split (b := 1000000) hi
  have hlt := lvT_lt (b := 1000000) (by omega) hl i
  have e : (1000000 : Nat) ^ i = 10 ^ (6 * i) := by rw [show (1000000 : Nat) = 10 ^ 6 by decide, ← Nat.pow_mul]
  rw [e] at h hlt
  rw [Nat.pow_add, ← Nat.div_div_eq_div_mul, h, Nat.add_mul_div_left _ _ (Nat.pow_pos (by omega)), Nat.div_eq_of_lt hlt, Nat.zero_add]
  generalize lv 1000000 (l.drop (i + 1)) = r
  generalize lat l i = x
  rcases (show j = 0 ∨ j = 1 ∨ j = 2 ∨ j = 3 ∨ j = 4 ∨ j = 5 by omega) with h | h | h | h | h | h <;> subst h <;> simp only [Nat.reducePow] <;> omega
theorem dv_cons (c : UInt8) (r : List UInt8) : dv (c :: r) = (c.toNat - 48) * 10 ^ r.length + dv r := by
  have h := dv_append [c] r
  have h2 : dv [c] = c.toNat - 48 := by simp [dv]
  rw [h2] at h
  exact h
theorem drop_set_here {L : List UInt8} {p : Nat} (c : UInt8) (hp : p < L.length) : (L.set p c).drop p = c :: L.drop (p + 1) := by
  rw [List.drop_eq_getElem_cons (by rw [List.length_set]; exact hp)]
  simp [List.drop_set_of_lt]
structure DigsAt (V done : Nat) (L : List UInt8) : Prop where
  le : done ≤ L.length
  dg : ∀ c ∈ L.drop (L.length - done), isDg c = true
  val : dv (L.drop (L.length - done)) = V % 10 ^ done
theorem DigsAt.start (V : Nat) (L : List UInt8) : DigsAt V 0 L := by
  refine ⟨Nat.zero_le _, ?_, ?_⟩
  · simp
  · simp [dv_nil, Nat.mod_one]
theorem DigsAt.step {V done p d : Nat} {L : List UInt8} (h : DigsAt V done L) (hp : p + done + 1 = L.length) (hd : V / 10 ^ done % 10 = d) : DigsAt V (done + 1) (L.set p (UInt8.ofNat (48 + d))) := by
  have hd10 : d < 10 := by rw [← hd]; exact Nat.mod_lt _ (by omega)
  have e1 : L.length - done = p + 1 := by omega
  have e2 : L.length - (done + 1) = p := by omega
  have h1 := h.dg
  have h2 := h.val
  rw [e1] at h1 h2
  refine ⟨by rw [List.length_set]; omega, ?_, ?_⟩
  · rw [List.length_set, e2, drop_set_here _ (by omega)]
    intro c hc
    rcases List.mem_cons.1 hc with h3 | h3
    · rw [h3, isDg_iff, dg_nat _ hd10]
      omega
    · exact h1 c h3
  · rw [List.length_set, e2, drop_set_here _ (by omega), dv_cons, dg_nat _ hd10, h2, List.length_drop, Nat.pow_succ, Nat.mod_mul, hd, show L.length - (p + 1) = done by omega, show 48 + d - 48 = d by omega, Nat.mul_comm d]
    omega
theorem dv_48 : ∀ l : List UInt8, (∀ c ∈ l, c = 48) → dv l = 0 := by
  intro l
  induction l with
  | nil => intro _; rfl
  | cons c r ih =>
    intro h
    rw [dv_cons, ih (fun c hc => h c (by simp [hc])), h c (by simp)]
    simp
theorem strip_dec {L : List UInt8} {o : Nat} {c : UInt8} (hd : ∀ c ∈ L, isDg c = true) (hz : ∀ c ∈ L.take o, c = 48) (hc : L[o]? = some c) (hne : c ≠ 48) : L.drop o = Lib.decDigits (dv L) := by
  have h1 : dv L = dv (L.drop o) := by
    conv => lhs; rw [← List.take_append_drop o L]
    rw [dv_append, dv_48 _ hz]
    omega
  rw [h1]
  have hlt : o < L.length := (List.getElem?_eq_some_iff.1 hc).1
  have hh : (L.drop o).head? = some c := by rw [List.head?_drop]; exact hc
  refine dec_of (fun e => by rw [e] at hh; simp at hh) (fun c hc => hd c (List.mem_of_mem_drop hc)) (fun _ => by rw [hh]; simpa using hne)
theorem wr_nums {n : Nat} (_ : n < 1000000) : ∃ R Q D : Nat, (n : Int) % 10 = (R : Int) ∧ (n : Int) / 10 = (Q : Int) ∧ IntKind.u8.wrap (48 + (R : Int)) = (D : Int) ∧ D = 48 + R ∧ R = n % 10 ∧ Q = n / 10 ∧ R < 10 := by
  refine ⟨n % 10, n / 10, 48 + n % 10, by omega, by omega, ?_, rfl, rfl, rfl, by omega⟩
  have : n % 10 < 10 := by omega
  generalize n % 10 = r at this ⊢
  rcases (show r = 0 ∨ r = 1 ∨ r = 2 ∨ r = 3 ∨ r = 4 ∨ r = 5 ∨ r = 6 ∨ r = 7 ∨ r = 8 ∨ r = 9 by omega) with h | h | h | h | h | h | h | h | h | h <;> subst h <;> rfl
end Go.KI
namespace Go.Proofs.YtpmnhipffkhcpaaGreatDoor
open Go.RowKit Go.KP Go.KI Go.Shelf
attribute [local go_sem] Oper.semAt_some

abbrev byteO (L : List UInt8) : Obj := .cells (Lib.byteCells L).toArray 5
theorem byte_cell {w : World} {g : Nat} {L : List UInt8} (h : w.heap[g]? = some (byteO L)) {i : Nat} {c : UInt8} (hi : L[i]? = some c) : w.cell? ⟨g, i, none⟩ = some (.int .u8 c.toNat) := by
  rw [cell_blk h]
  simp [Lib.byteCells, hi]
theorem byte_set {w : World} {g : Nat} {L : List UInt8} (h : w.heap[g]? = some (byteO L)) (k : Nat) (c : UInt8) {v : Nat} (hv : c.toNat = v) : (w.setCell ⟨g, k, none⟩ (.int .u8 v)).heap[g]? = some (byteO (L.set k c)) := by
  subst hv
  simp only [World.setCell, Array.getElem?_modify, h]
  simp [Lib.byteCells, List.map_set]
theorem info5 : (Tryz.prog.info? 5).map (fun i => (i.zero, i.size, i.bytes)) = some (some (.int .u8 0), 1, 1) := by kernel_rfl
theorem make_bytes (n : Nat) (hn : n ≤ 1000000) (W : World) :
    (Instr.makeSlice 95 (.int .i64 (n : Int)) (.int .i64 (n : Int))).run Tryz.prog W = .ok (.slice (some ⟨W.heap.size, 0, none⟩) n n) (W.alloc (byteO (List.replicate n 0))) := by
  obtain ⟨i0, hi0, hz0, hz1, hz2⟩ := info_parts info5
  have hr := run_make (P := Tryz.prog) W 95 5 i0 (.int .u8 0) Tryz.underlying95 hi0 hz0 .i64 .i64 n n (by omega) (Int.le_refl _) (by rw [hz2]; omega) (by omega)
  simp only [Int.toNat_natCast, hz1] at hr
  rw [hr]
  have e : madeCells (Value.int .u8 0).cells (n * 1) = (Lib.byteCells (List.replicate n 0)).toArray := by
    simp [madeCells, Value.cells, Lib.byteCells]
    apply Array.ext
    · simp
    · intro i h1 h2
      simp [Nat.mod_one]
  rw [e]
theorem rwrite_any (m : Bool) (v : Value) (l : List Nat) (B : Nat) (w : World) (h : LimbAt B w v l) (hB : B ≤ w.heap.size) (hn : Norm 1000000 l) (hl : l.length ≤ 100000) :
    Calls Tryz.prog 348 #[numV m v] w (Ret w (.string (strB (Lib.itoa (valS m (lv 1000000 l)))))) := by
  obtain ⟨a0, c0, hv⟩ := h.form
  subst hv
  have HL := hide h; have HN := hide hn
  clear h hn
  obtain ⟨n, hnn⟩ : ∃ n, n = l.length := ⟨_, rfl⟩
  have HNN := hide hnn
  rw [← hnn] at hl HL ⊢
  clear hnn
  obtain ⟨b0, bs0, bb0⟩ := heap1 w (.cells #[.bool m, .slice a0 n c0] 308)
  have c1' := cell_blk b0 0
  have c2' := cell_blk b0 1
  by_cases h0 : n = 0
  · have hnil : l = [] := List.eq_nil_of_length_eq_zero (HNN.out.symm.trans h0)
    have hq : ((n : Int) == 0) = true := by rw [h0]; rfl
    have HE := hide (show strB (Lib.itoa (valS m (lv 1000000 l))) = ⟨#[48]⟩ by
      rw [hnil, lv_nil]
      cases m <;> exact congrArg strB itoa_zero)
    have BB := hide bb0
    clear h0 hnil b0 bs0 bb0
    go_enter Tryz.func348, Tryz.ntmps348
    go_wp2_with fail
    go_ret
    rw [HE.out]
    exact ⟨rfl, BB.out⟩
  · have hq : ((n : Int) == 0) = false := by simpa using h0
    obtain ⟨N, hN⟩ : ∃ N, N = 6 * n := ⟨_, rfl⟩
    have h6 : 6 * (n : Int) = (N : Int) := by omega
    have hmk := make_bytes N (by omega)
    have hNl : N ≤ 600000 := by omega
    obtain ⟨w1, hw1⟩ : ∃ w1, w.alloc (.cells #[.bool m, .slice a0 n c0] 308) = w1 := ⟨_, rfl⟩
    obtain ⟨d0, ds0, db0⟩ := heap1 w1 (byteO (List.replicate N 0))
    have HW1 := hide hw1
    rw [hw1] at b0 bs0 bb0
    have B0 := hide (below_blk db0 b0 (by omega)); have BB := hide (bb0.trans (db0.mono (by omega))); rw [bs0] at d0; have D0 := hide d0
    have HNE := hide hN
    clear b0 bs0 bb0 d0 ds0 db0 hw1 hN
    go_enter Tryz.func348, Tryz.ntmps348
    go_wp2_with fail
    clear hmk h6 c1' c2'
    have hg1 : w.heap.size + 1 < (w1.alloc (byteO (List.replicate N 0))).heap.size := lt_blk D0.out
    obtain ⟨w2, hw2⟩ : ∃ w2, w1.alloc (byteO (List.replicate N 0)) = w2 := ⟨_, rfl⟩
    rw [HW1.out, hw2]
    rw [hw2] at B0 BB D0 hg1
    obtain ⟨V, hV⟩ : ∃ V, V = lv 1000000 l := ⟨_, rfl⟩
    have HV := hide hV
    have HNE2 := hide h0
    clear hV hw2 h0
    go_loopw [4] (fun i wr => ∃ k : Nat, k ≤ n ∧ i = .int .i64 k ∧ Hid (∃ L : List UInt8, L.length = N ∧ DigsAt V (6 * k) L ∧ wr.heap[w.heap.size + 1]? = some (byteO L) ∧ wr.heap[w.heap.size]? = some (.cells #[.bool m, .slice a0 n c0] 308 (0, 0)) ∧ Below w.heap.size w wr)) (fun i _ => n - (intOf i).toNat)
    case atStart => exact ⟨0, Nat.zero_le _, rfl, _, List.length_replicate, DigsAt.start _ _, D0.out, B0.out, BB.out⟩
    case round =>
      obtain ⟨i, hi, rfl, hin⟩ := hrel
      obtain ⟨L0, hL0, hD0, hg0, hb0, hw0⟩ := hin.out
      have c1 := cell_blk hb0 1
      have c2 := cell_blk hb0 0
      by_cases hlt : i < n
      · have e3 : (i : Int) < (n : Int) := by omega
        have i0 : (0 : Int) ≤ (i : Int) := by omega
        rcases LimbAt.cases (l := l) (HL.out.below hw0 hB) with ⟨_, _, _, hnil⟩ | ⟨b, o, cap, hv, hbb, hcl⟩
        · have := HNN.out
          rw [hnil] at this
          simp at this
          omega
        injection hv with hv1 hv2 hv3
        subst hv1; subst hv3
        have hcell := hcl i (by have := HNN.out; omega)
        have hxi := lat_lt (by omega) HN.out.lt i
        obtain ⟨X, hX⟩ : ∃ X, X = lat l i := ⟨_, rfl⟩
        rw [← hX] at hcell hxi
        have HX := hide hX; have HL0 := hide hL0; have HD0 := hide hD0; have HG0 := hide hg0; have HB0 := hide hb0; have HW0 := hide hw0
        clear hcl hv2 hX hL0 hD0 hg0 hb0 hw0 hin hbb
        obtain ⟨wo, hwo⟩ : ∃ wo, wo = wr := ⟨_, rfl⟩
        subst hwo
        go_wp2_with fail
        clear c1 c2 hcell
        have d1 := cell_blk HB0.out 1
        go_loopw [5, 6] (fun a k wr => ∃ (j A : Nat), j ≤ 6 ∧ k = .int .i64 ((j : Int) + 1) ∧ a = .int .i64 A ∧ A < 1000000 ∧ Hid (A = X / 10 ^ j) ∧ Hid (∃ L : List UInt8, L.length = N ∧ DigsAt V (6 * i + j) L ∧ wr.heap[w.heap.size + 1]? = some (byteO L) ∧ wr.heap[w.heap.size]? = some (.cells #[.bool m, .slice (some ⟨b, o, none⟩) n c0] 308 (0, 0)) ∧ Below w.heap.size w wr)) (fun _ k _ => 7 - (intOf k).toNat)
        case atStart => exact ⟨0, X, by omega, rfl, rfl, hxi, hide (by rw [Nat.pow_zero, Nat.div_one]), L0, HL0.out, HD0.out, HG0.out, HB0.out, HW0.out⟩
        case round =>
          obtain ⟨j, A, hj, rfl, rfl, hAl, hA, hin⟩ := hrel
          obtain ⟨L, hL, hD, hg, hb, hw⟩ := hin.out
          by_cases hlt2 : j < 6
          · have e4 : (j : Int) + 1 ≤ 6 := by omega
            obtain ⟨p, hp⟩ : ∃ p : Nat, p + (6 * i + j) + 1 = N := ⟨N - (6 * i + j) - 1, by have := HNE.out; omega⟩
            have hpi : (N : Int) - 6 * (i : Int) - ((j : Int) + 1) = (p : Int) := by omega
            have hpN : (p : Int) < (N : Int) := by omega
            have hpL : p < L.length := by omega
            obtain ⟨R, Q, Dg, hR, hQ, hDg, hDe, hRe, hQe, hR10⟩ := wr_nums hAl
            have q2 := froz_blk hg p
            have hc0 := byte_cell hg (List.getElem?_eq_getElem hpL)
            have HD := hide hD; have HG := hide hg; have HBB := hide hb; have HW := hide hw; have HP := hide hp; have HL2 := hide hL; have HRE := hide hRe; have HQE := hide hQe; have HDE := hide hDe; have HQI := hide hQ
            have hsz := lt_blk hg
            have hQl : Q < 1000000 := by omega
            clear hD hg hb hw hp hL hin hRe hQe hDe hlt2
            go_wp2_with fail
            go_roundw
            case rel => 
              refine ⟨j + 1, Q, by omega, by first | (congr 1; done) | (congr 1; omega), by first | rfl | rw [HQI.out], hQl, hide ?_, L.set p (UInt8.ofNat (48 + R)), by rw [List.length_set]; exact HL2.out, ?_, ?_, (setCell_other (by omega)).trans HBB.out, ?_⟩
              · rw [HQE.out, hA.out, Nat.pow_succ, Nat.div_div_eq_div_mul]
              · have hd := digit_at HN.out.lt (i := i) (j := j) (by have := HNN.out; omega) (by omega)
                rw [← HV.out, ← HX.out, ← hA.out, ← HRE.out] at hd
                exact HD.out.step (by have := HP.out; have := HL2.out; omega) hd
              · exact byte_set HG.out p _ (by rw [dg_nat _ hR10, HDE.out])
              · exact HW.out.setCell (p := ⟨w.heap.size + 1, p, none⟩) (by simp) _
            case measure => simp [intOf]; omega
          · obtain rfl : j = 6 := by omega
            have HL2 := hide hL; have HD := hide hD; have HG := hide hg; have HBB := hide hb; have HW := hide hw
            clear hL hD hg hb hw hin hlt2
            go_wp2_with fail
            go_roundw
            case rel => exact ⟨i + 1, by omega, by go_num, L, HL2.out, by have := HD.out; rwa [show 6 * i + 6 = 6 * (i + 1) by omega] at this, HG.out, HBB.out, HW.out⟩
            case measure => simp [intOf]; omega
      · obtain rfl : i = n := by omega
        have hki : ((i : Int) < (i : Int)) = False := eq_false (by omega)
        have hN6 : N = 6 * i := HNE.out
        have hfin : (∀ c ∈ L0, isDg c = true) ∧ dv L0 = V := by
          have h1 := hD0.dg
          have h2 := hD0.val
          rw [show L0.length - 6 * i = 0 by omega, List.drop_zero] at h1 h2
          refine ⟨h1, ?_⟩
          rw [h2]
          refine Nat.mod_eq_of_lt ?_
          have h3 := lv_lt HN.out.lt
          rw [← HV.out, show (1000000 : Nat) = 10 ^ 6 by decide, ← Nat.pow_mul, ← HNN.out] at h3
          exact h3
        have hpos : 1 ≤ V := by
          rcases Nat.eq_zero_or_pos V with h | h
          · exfalso
            rw [HV.out] at h
            have := (HN.out.zero (by omega)).1 h
            have := HNN.out
            rename_i h9
            rw [h9] at this
            exact HNE2.out this
          · exact h
        have HF := hide hfin; have HPS := hide hpos; have HL0 := hide hL0; have HG0 := hide hg0; have HB0 := hide hb0; have HW0 := hide hw0
        clear hlt hfin hpos hN6 hL0 hg0 hb0 hw0 hD0 hin
        obtain ⟨wo, hwo⟩ : ∃ wo, wo = wr := ⟨_, rfl⟩
        subst hwo
        go_wp2_with fail
        go_loopw [3] (fun s wr => ∃ o q : Nat, s = .slice (some ⟨w.heap.size + 1, o, none⟩) q q ∧ q ≤ N ∧ Hid (o + q = N) ∧ Hid (∀ c ∈ L0.take o, c = 48) ∧ wr = wo) (fun s _ => match s with | .slice _ n _ => n | _ => 0)
        case atStart => exact ⟨0, N, rfl, Nat.le_refl _, hide (by omega), hide (fun c hc => by simp at hc), rfl⟩
        case round =>
          obtain ⟨o, q, rfl, hqN, hoq, hz, rfl⟩ := hrel
          have hlo : o < N := by
            rcases Nat.lt_or_ge o N with h | h
            · exact h
            · exfalso
              have h1 := dv_48 _ hz.out
              rw [List.take_of_length_le (by rw [HL0.out]; exact h), HF.out.2] at h1
              have := HPS.out
              omega
          obtain ⟨c, hc⟩ : ∃ c, L0[o]? = some c := ⟨_, List.getElem?_eq_getElem (by rw [HL0.out]; exact hlo)⟩
          have hcell := byte_cell HG0.out hc
          have hoq2 := hoq.out
          have hq0 : (0 : Int) < (q : Int) := by omega
          have HC := hide hc; have HOQ := hide hoq2; have HZ := hide hz.out
          clear hc hoq hz hoq2
          by_cases hc48 : c = 48
          · obtain ⟨q', hq'⟩ : ∃ q', q = q' + 1 := ⟨q - 1, by omega⟩
            subst hq'
            have hq1 : (((c.toNat : Nat) : Int) == 48) = true := by rw [hc48]; rfl
            have hz2 : ∀ d ∈ L0.take (o + 1), d = 48 := fun d hd => by
              rw [List.take_add_one, HC.out] at hd
              rcases List.mem_append.1 hd with h | h
              · exact HZ.out d h
              · simp at h
                rw [h, hc48]
            have hq0' : (q' = 0) = False := eq_false (fun h => by
              have h1 := dv_48 _ hz2
              rw [List.take_of_length_le (by rw [HL0.out]; have := HOQ.out; omega), HF.out.2] at h1
              have := HPS.out
              omega)
            have HZ2 := hide hz2
            clear hc48 hlo hz2
            go_wp2_with fail
            refine ⟨⟨o + 1, q', rfl, by omega, hide (by have := HOQ.out; omega), HZ2, trivial⟩, by simp⟩
          · have hq1 : (((c.toNat : Nat) : Int) == 48) = false := by
              have : c.toNat ≠ 48 := fun e => hc48 (UInt8.toNat_inj.1 e)
              simp only [beq_eq_false_iff_ne, ne_eq]
              omega
            have hcv := run_convert_bytes_arg (P := Tryz.prog) wr 95 5 Tryz.underlying95 Tryz.underlying5 (w.heap.size + 1) o q q ((L0.drop o).map fun c => (c.toNat : Int)) (by rw [List.length_map, List.length_drop, HL0.out]; have := HOQ.out; omega) (fun j hj => by
              have hjl : o + j < L0.length := by rw [HL0.out]; have := HOQ.out; omega
              rw [byte_cell HG0.out (List.getElem?_eq_getElem hjl)]
              simp [List.getD, List.getElem?_drop, List.getElem?_eq_getElem hjl]) 9 Tryz.underlying9
            have hst : strOfNums ((L0.drop o).map fun c => (c.toNat : Int)) = strB (Lib.decDigits V) := by
              have h1 := strip_dec HF.out.1 HZ.out HC.out hc48
              rw [← HF.out.2, ← h1]
              apply bytes_eq
              rw [strOfNums_data, strB_list, List.map_map]
              conv => rhs; rw [← List.map_id (L0.drop o)]
              apply List.map_congr_left
              intro a _
              simp
            obtain ⟨t, ht⟩ : ∃ t, t = strB (Lib.decDigits V) := ⟨_, rfl⟩
            rw [hst, ← ht] at hcv
            have htl : t.size ≤ 600000 := by
              rw [ht, ← HF.out.2, ← strip_dec HF.out.1 HZ.out HC.out hc48, strB_size, List.length_drop, HL0.out]
              omega
            have hov : (9223372036854775807 < 1 + t.size) = False := eq_false (by omega)
            have HT := hide ht
            clear hc48 hlo hst ht
            have HIT := hide (fun m' => show Lib.itoa (valS m' (lv 1000000 l)) = (if m' then [45] else []) ++ Lib.decDigits V by rw [← HV.out]; exact valS_itoa HPS.out)
            cases m
            · go_wp2_with fail
              go_ret
              refine ⟨?_, HW0.out⟩
              rw [HIT.out, HT.out]
              rfl
            · go_wp2_with fail
              go_ret
              refine ⟨?_, HW0.out⟩
              rw [HIT.out, HT.out]
              congr 2
end Go.Proofs.YtpmnhipffkhcpaaGreatDoor
namespace Go.KI
open Go
theorem DigsAt.fin {V done p : Nat} {L : List UInt8} (h : DigsAt V (done + 1) L) (hp : p + done + 1 = L.length) {A : Nat} (hA : A = V / 10 ^ done) (h10 : A / 10 = 0) (h0 : done ≠ 0 → A ≠ 0) (hc : L[p]? = some (UInt8.ofNat (48 + A % 10))) : L.drop p = Lib.decDigits V := by
  have e2 : L.length - (done + 1) = p := by omega
  have h1 := h.dg
  have h2 := h.val
  rw [e2] at h1 h2
  have hV : V < 10 ^ (done + 1) := by
    rw [hA, Nat.div_div_eq_div_mul, ← Nat.pow_succ] at h10
    exact Nat.lt_of_div_eq_zero (Nat.pow_pos (by omega)) h10
  rw [Nat.mod_eq_of_lt hV] at h2
  have hh : (L.drop p).head? = some (UInt8.ofNat (48 + A % 10)) := by rw [List.head?_drop]; exact hc
  have h3 := dec_of (l := L.drop p) (fun e => by rw [e] at hh; simp at hh) h1 (fun hl he => by
    rw [hh] at he
    injection he with he
    have h4 := congrArg UInt8.toNat he
    rw [dg_nat _ (Nat.mod_lt _ (by omega))] at h4
    rw [List.length_drop] at hl
    have h5 := h0 (by omega)
    have h6 : (48 : UInt8).toNat = 48 := rfl
    omega)
  rw [h2] at h3
  exact h3
end Go.KI
namespace Go.Proofs.YtpmnhipffkhcpaaGreatDoor
open Go.RowKit Go.KP Go.KI Go.Shelf
attribute [local go_sem] Oper.semAt_some

open Go.RowKit Go.KP Go.KI Go.Shelf
attribute [local go_sem] Oper.semAt_some

theorem r2small_any (s : ByteArray) (hd : ∀ c ∈ s.data.toList, isDg c = true) (hs : s.size ≤ 18) (w : World) :
    Calls Tryz.prog 338 #[.string s] w (Ret w (.int .i64 (dv s.data.toList : Nat))) := by
  have HD := hide hd
  have hdl : ∀ k ≤ s.size, dv (s.data.toList.take k) < 10 ^ 18 := by
    intro k hk
    refine Nat.lt_of_lt_of_le (dv_lt _ (fun c hc => hd c (List.mem_of_mem_take hc))) (Nat.pow_le_pow_right (by omega) ?_)
    rw [List.length_take]
    omega
  have HDL := hide hdl
  clear hd hdl
  go_enter Tryz.func338, Tryz.ntmps338
  go_wp2_with fail
  go_loopw [3, 4] (fun n i wr => ∃ k A : Nat, k ≤ s.size ∧ i = .int .i64 k ∧ n = .int .i64 A ∧ Hid (A = dv (s.data.toList.take k)) ∧ wr = w) (fun _ i _ => s.size - (intOf i).toNat)
  case atStart => exact ⟨0, 0, by omega, rfl, rfl, rfl, rfl⟩
  case round =>
    obtain ⟨k, A, hk, rfl, rfl, hA, rfl⟩ := hrel
    have hk0 : (0 : Int) ≤ (k : Int) := by omega
    by_cases hlt : k < s.size
    · have hki : (k : Int) < (s.size : Int) := by omega
      have hat : s.data.toList[k]? = some (s[k]'hlt) := by
        have h1 : s.data.toList[k]? = some s.data[k] := by simp
        exact h1
      obtain ⟨y, hyv⟩ : ∃ y : Nat, y = (s[k]'hlt).toNat := ⟨_, rfl⟩
      have hyv2 : (s[k]'hlt).toNat = y := hyv.symm
      have hdg : 48 ≤ y ∧ y ≤ 57 := by
        rw [hyv]
        exact isDg_iff.1 (HD.out _ (List.mem_of_getElem? hat))
      have hnew : dv (s.data.toList.take (k + 1)) = A * 10 + (y - 48) := by
        rw [List.take_add_one, hat]
        show dv (_ ++ [s[k]'hlt]) = _
        rw [dv_snoc, hyv2, hA.out]
      have hb1 := HDL.out (k + 1) (by omega)
      rw [hnew] at hb1
      have HN := hide hnew.symm
      have y0 : (48 : Int) ≤ (y : Int) := by omega
      have y1 : (y : Int) ≤ 57 := by omega
      have a1 : (A : Int) < 100000000000000000 := by omega
      have HC := hide (show 10 * (A : Int) + ((y : Int) - 48) = ((A * 10 + (y - 48) : Nat) : Int) by omega)
      clear hat hyv hdg hnew hA hb1
      go_wp2_with fail
      go_roundw
      case rel => exact ⟨k + 1, A * 10 + (y - 48), by omega, by go_num, by rw [← HC.out], HN, trivial⟩
      case measure => simp [intOf]; omega
    · have hki : ((k : Int) < (s.size : Int)) = False := eq_false (by omega)
      have HE := hide (show dv s.data.toList = A by rw [hA.out, List.take_of_length_le (by rw [bytes_len]; omega)])
      clear hA hlt
      go_wp2_with fail
      go_ret
      rw [HE.out]
      exact ⟨rfl, Below.refl _ _⟩
end Go.Proofs.YtpmnhipffkhcpaaGreatDoor
