/-
  Integers: read walked.
-/
import Derived.Test.YthkioajalhglfaaGreatDoorPf
import Derived.Test.YthkioajalhglfaaGreatDoorRound
namespace Go.Proofs.YthkioajalhglfaaGreatDoor
open Go.RowKit Go.KP Go.KI Go.Shelf
attribute [local go_sem] Oper.semAt_some

/-- Limbs in which k digits have been laid, the last ones first. -/
structure ReadL (ds : List UInt8) (k : Nat) (L : List Nat) (U : Nat) : Prop where
  len : L.length = (ds.length + 8) / 9
  lt : Lt 1000000000 L
  val : lv 1000000000 L = dv (ds.drop (ds.length - k))
  top : lat L (k / 9) < 10 ^ (k % 9)
  rest : ∀ j, k / 9 < j → lat L j = 0
  unit : U ≤ 1000000000 ∧ (k % 9 ≠ 0 → U = 10 ^ (k % 9))
theorem ReadL.start (ds : List UInt8) : ReadL ds 0 (zeros ((ds.length + 8) / 9)) 1 := by
  refine ⟨zeros_len _, zeros_lt _ _ (by omega), ?_, ?_, ?_, by omega, fun h => by simp at h⟩
  · rw [Nat.sub_zero, List.drop_length, zeros, lv_zeros]
    rfl
  · have : lat (zeros ((ds.length + 8) / 9)) (0 / 9) = 0 := by
      unfold lat zeros
      rw [List.getElem?_replicate]
      split <;> rfl
    rw [this]
    simp
  · intro j hj
    unfold lat zeros
    rw [List.getElem?_replicate]
    split <;> rfl
theorem pow10_le {r : Nat} (h : r ≤ 9) : 10 ^ r ≤ 1000000000 := by
  have : 10 ^ r ≤ 10 ^ 9 := Nat.pow_le_pow_right (by omega) h
  simpa using this
/-- The unit of the next digit. -/
def unitAt (k U : Nat) : Nat := if k % 9 = 0 then 1 else U
theorem ReadL.unitEq {ds : List UInt8} {k U : Nat} {L : List Nat} (h : ReadL ds k L U) : unitAt k U = 10 ^ (k % 9) := by
  unfold unitAt
  by_cases h0 : k % 9 = 0
  · rw [if_pos h0, h0]
  · rw [if_neg h0, h.unit.2 h0]
theorem ReadL.step {ds : List UInt8} {k U : Nat} {L : List Nat} (h : ReadL ds k L U) (hk : k < ds.length) (hd : ∀ c ∈ ds, isDg c = true) :
    k / 9 < L.length ∧ digAt ds k ≤ 9 ∧ lat L (k / 9) + digAt ds k * unitAt k U < 1000000000 ∧ unitAt k U * 10 ≤ 1000000000 ∧ ReadL ds (k + 1) (L.set (k / 9) (lat L (k / 9) + digAt ds k * unitAt k U)) (unitAt k U * 10) := by
  have hq : k / 9 < L.length := by rw [h.len]; omega
  obtain ⟨c, hc⟩ : ∃ c, ds[ds.length - 1 - k]? = some c := ⟨_, List.getElem?_eq_getElem (by omega)⟩
  have hdg := isDg_iff.1 (hd c (List.mem_of_getElem? hc))
  have hda : digAt ds k = c.toNat - 48 := by
    unfold digAt
    rw [hc]
    rfl
  have hd9 : digAt ds k ≤ 9 := by omega
  have hu := h.unitEq
  have hr : k % 9 < 9 := Nat.mod_lt _ (by omega)
  have hp1 : 10 ^ (k % 9 + 1) ≤ 1000000000 := pow10_le (by omega)
  have hp2 : 10 ^ (k % 9 + 1) = 10 ^ (k % 9) * 10 := Nat.pow_succ ..
  have ht := h.top
  have hm : digAt ds k * 10 ^ (k % 9) ≤ 9 * 10 ^ (k % 9) := Nat.mul_le_mul_right _ hd9
  rw [hu]
  have hv : lat L (k / 9) + digAt ds k * 10 ^ (k % 9) < 10 ^ (k % 9 + 1) := by omega
  refine ⟨hq, hd9, by omega, by omega, ⟨by rw [List.length_set]; exact h.len, lt_set h.lt (by omega), ?_, ?_, ?_, by omega, ?_⟩⟩
  · have h1 := lv_set (b := 1000000000) (lat L (k / 9) + digAt ds k * 10 ^ (k % 9)) hq
    have e : 1000000000 ^ (k / 9) * (digAt ds k * 10 ^ (k % 9)) = digAt ds k * 10 ^ k := by
      have e1 : (1000000000 : Nat) ^ (k / 9) = 10 ^ (9 * (k / 9)) := by rw [Nat.pow_mul]
      have e2 : 10 ^ k = 10 ^ (9 * (k / 9)) * 10 ^ (k % 9) := by
        rw [← Nat.pow_add]
        congr 1
        omega
      rw [e1, e2]
      grind
    rw [Nat.mul_add] at h1
    have h2 : ds.drop (ds.length - (k + 1)) = [c] ++ ds.drop (ds.length - k) := by
      rw [show ds.length - (k + 1) = ds.length - 1 - k by omega]
      have h3 := List.drop_eq_getElem_cons (l := ds) (i := ds.length - 1 - k) (by omega)
      rw [h3, show ds.length - 1 - k + 1 = ds.length - k by omega]
      rw [List.getElem?_eq_getElem (by omega)] at hc
      injection hc with hc
      rw [hc]
      rfl
    rw [h2, dv_append, ← h.val, List.length_drop, show ds.length - (ds.length - k) = k by omega]
    have h4 : dv [c] = digAt ds k := by
      rw [hda]
      show 0 * 10 + (c.toNat - 48) = _
      omega
    rw [h4]
    omega
  · by_cases h8 : k % 9 = 8
    · have e1 : (k + 1) / 9 = k / 9 + 1 := by omega
      have e2 : (k + 1) % 9 = 0 := by omega
      rw [e1, e2, lat_set hq, if_neg (by omega), h.rest _ (by omega)]
      simp
    · have e1 : (k + 1) / 9 = k / 9 := by omega
      have e2 : (k + 1) % 9 = k % 9 + 1 := by omega
      rw [e1, e2, lat_set hq, if_pos rfl]
      exact hv
  · intro j hj
    rw [lat_set hq, if_neg (by omega)]
    exact h.rest j (by omega)
  · intro hne
    have e2 : (k + 1) % 9 = k % 9 + 1 := by omega
    rw [e2, hp2]
theorem valI_S (l : List UInt8) : valI l = valS (decide (l.head? = some 45)) (dv (digs l)) := by
  unfold valI valS
  by_cases h : l.head? = some 45
  · simp [h]
  · simp [h]
theorem exit_read {tmps : Array Value} {W : World} {b : Nat} {m : Bool} {v : Value} (hb : W.heap[b]? = some (.cells #[.bool m, v] 48 (0, 0)))
    (h2 : tmps[2]? = some (.pointer (some ⟨b, 0, none⟩))) : (results Tryz.f38 tmps).run Tryz.prog W = .ok (numV m v) W := by
  have hcell := fun o => cell_blk hb o
  simp [results, go_sem, hcell, h2]
set_option maxRecDepth 100000 in
set_option maxHeartbeats 4000000 in
theorem read_any (s : ByteArray) (hs : s.size ≤ 700000) (hd : ∀ c ∈ digs s.data.toList, isDg c = true) (w : World) :
    Calls Tryz.prog 38 #[.string s] w (RetEx w (NumOf (valI s.data.toList))) := by
  obtain ⟨t, ht⟩ : ∃ t, t = strB (digs s.data.toList) := ⟨_, rfl⟩
  have htl : t.data.toList = digs s.data.toList := by rw [ht]; exact strB_list _
  obtain ⟨mi, hmi⟩ : ∃ mi, mi = decide (s.data.toList.head? = some 45) := ⟨_, rfl⟩
  have hts : t.size ≤ 700000 := by
    rw [← bytes_len, htl]
    have : (digs s.data.toList).length ≤ s.data.toList.length := by
      cases s.data.toList with
      | nil => exact Nat.le_refl _
      | cons c r =>
        simp only [digs]
        split <;> simp
    rw [bytes_len] at this
    omega
  have HCP := hide (fun w => cutPrefix_any s w)
  rw [← ht, ← hmi] at HCP
  have HV := hide (valI_S s.data.toList)
  rw [← hmi, ← htl] at HV
  rw [← htl] at hd
  have HD := hide hd
  obtain ⟨n, hn⟩ : ∃ n, n = (t.size + 8) / 9 := ⟨_, rfl⟩
  have hn2 : ((t.size : Int) + 9 - 1) / 9 = (n : Int) := by omega
  have hmk := make_ints n (by omega)
  have HN := hide hn
  clear ht htl hmi hd hn
  obtain ⟨r0, rs0, rb0⟩ := heap1 w (.cells #[.bool false, .slice none 0 0] 48)
  refine (callsIn_wide (n := 0)).1 ?_
  refine callsIn_of_wp_marks Tryz.func38 rfl trivial ?_ rfl
  simp only [Tryz.ntmps38, List.size_toArray, List.length_cons, List.length_nil, Nat.reduceAdd, Nat.reduceSub, Array.replicate_succ, Array.replicate_zero, List.push_toArray, List.append_toArray, List.nil_append, List.cons_append]
  have R0 := hide r0; have RB0 := hide rb0
  clear r0 rs0 rb0
  gi_wp2_with fail
  refine ⟨trivial, rfl, (callsIn_wide.2 (HCP.out _)).mono ?_⟩
  rintro e w1 ⟨rfl, rfl⟩
  gi_wp2_with fail
  refine ⟨trivial, rfl, (callsIn_wide.2 (digits_any t _)).mono ?_⟩
  rintro e w1 ⟨rfl, hw1⟩
  gi_wp2_with fail
  obtain ⟨a1, as1, ab1⟩ := heap1 (w.alloc (.cells #[.bool false, .slice none 0 0] 48)) (rowO (zeros n))
  obtain ⟨a2, as2, ab2⟩ := heap1 ((w.alloc (.cells #[.bool false, .slice none 0 0] 48)).alloc (rowO (zeros n))) (.cells #[.bool mi, .slice (some ⟨w.heap.size + 1, 0, none⟩) n n] 48)
  obtain ⟨a3, as3, ab3⟩ := heap1 (((w.alloc (.cells #[.bool false, .slice none 0 0] 48)).alloc (rowO (zeros n))).alloc (.cells #[.bool mi, .slice (some ⟨w.heap.size + 1, 0, none⟩) n n] 48)) (.cells #[.int .i64 1] 3)
  obtain ⟨a4, as4, ab4⟩ := heap1 ((((w.alloc (.cells #[.bool false, .slice none 0 0] 48)).alloc (rowO (zeros n))).alloc (.cells #[.bool mi, .slice (some ⟨w.heap.size + 1, 0, none⟩) n n] 48)).alloc (.cells #[.int .i64 1] 3)) (.cells #[.string t] 9)
  have z0 : (w.alloc (.cells #[.bool false, .slice none 0 0] 48)).heap.size = w.heap.size + 1 := by simp
  rw [z0] at a1 as1 ab1
  rw [as1] at a2 as2 ab2
  rw [as2] at a3 as3 ab3
  rw [as3] at a4 as4 ab4
  have e0 := below_blk ab4 (below_blk ab3 (below_blk ab2 (below_blk ab1 R0.out (by omega)) (by omega)) (by omega)) (by omega)
  have e1 := below_blk ab4 (below_blk ab3 (below_blk ab2 a1 (by omega)) (by omega)) (by omega)
  have e2 := below_blk ab4 (below_blk ab3 a2 (by omega)) (by omega)
  have e3 := below_blk ab4 a3 (by omega)
  have hbw := RB0.out.trans ((ab1.trans ((ab2.trans ((ab3.trans (ab4.mono (by omega))).mono (by omega))).mono (by omega))).mono (by omega))
  rw [hw1] at e0 e1 e2 e3 a4 as4 hbw
  have E0 := hide e0; have E1 := hide e1; have E2 := hide e2; have E3 := hide e3; have E4 := hide a4; have EB := hide hbw
  have hs1 : w.heap.size + 5 = w1.heap.size := by omega
  clear a1 as1 ab1 a2 as2 ab2 a3 as3 ab3 a4 as4 ab4 z0 e0 e1 e2 e3 hbw hw1 R0 RB0 hmk
  have hdl : (t.data.toList.length + 8) / 9 = n := by rw [bytes_len]; exact HN.out.symm
  have HDL := hide hdl
  clear hdl
  refine wp_iter_on (gf := 100) (lb := #[.pointer (some ⟨w.heap.size + 1 + 1 + 1 + 1, 0, none⟩)]) rfl (enters_of Tryz.func100 (by kernel_rfl) rfl) (digitSeq_any (w.heap.size + 1 + 1 + 1 + 1) t (by omega) HD.out) (fun _ => rfl)
    (fun k S W => S = (fun _ => False) ∧ W.heap[w.heap.size]? = some (.cells #[.bool false, .slice none 0 0] 48 (0, 0)) ∧ W.heap[w.heap.size + 1 + 1]? = some (.cells #[.bool mi, .slice (some ⟨w.heap.size + 1, 0, none⟩) n n] 48 (0, 0)) ∧ W.heap[w.heap.size + 1 + 1 + 1 + 1]? = some (.cells #[.string t] 9 (0, 0)) ∧ Below w.heap.size w W ∧
      ∃ (L : List Nat) (U : Nat), ReadL t.data.toList k L U ∧ W.heap[w.heap.size + 1]? = some (rowO L) ∧ W.heap[w.heap.size + 1 + 1 + 1]? = some (.cells #[.int .i64 U] 3 (0, 0)))
    (fun _ _ _ => False) ?hI (fun _ _ _ _ h _ => h) ?h0 ?hke
    (fun k S a1' W => a1' = { tmps := #[.string s, undef, .pointer (some ⟨w.heap.size, 0, none⟩), .string t, .bool mi, .pointer (some ⟨w.heap.size + 1 + 1, 0, none⟩), .pointer (some ⟨w.heap.size + 1 + 1 + 1, 0, none⟩), .int .i64 k, .int .i64 (digAt t.data.toList k), .tuple #[.string t, .bool mi], .string s, .tuple #[.string t, .bool mi], .string t, .bool mi, .bool mi, .string t, .int .i64 t.size, .int .i64 ((t.size : Int) + 9), .int .i64 ((t.size : Int) + 9 - 1), .int .i64 n, .slice (some ⟨w.heap.size + 1, 0, none⟩) n n, .agg #[.bool mi, .slice (some ⟨w.heap.size + 1, 0, none⟩) n n], .string t, .func (.func 100) #[] #[.pointer (some ⟨w.heap.size + 1 + 1 + 1 + 1, 0, none⟩)], .int .i64 k, .int .i64 (digAt t.data.toList k), undef, undef, undef, undef, undef, undef, undef, undef, undef, undef, undef, undef, undef, undef, undef, undef, undef, undef, undef, undef, undef], defers := [] })
    ?hAx ?hassign ?hS ?hbody ?hdone ?hstop
  case hI =>
    rintro k S W W2 ⟨rfl, e0, e2, e4, hb, L, U, hR, e1, e3⟩ hq
    exact ⟨rfl, hq.at_ e0 (.inl (by omega)), hq.at_ e2 (.inl (by omega)), hq.at_ e4 (.inl (by omega)), Quiet.below hb hq (by omega) hb.size, L, U, hR, hq.at_ e1 (.inl (by omega)), hq.at_ e3 (.inl (by omega))⟩
  case h0 =>
    refine ⟨rfl, E0.out, E2.out, E4.out, EB.out, zeros n, 1, ?_, E1.out, E3.out⟩
    have := ReadL.start t.data.toList
    rw [HDL.out] at this
    exact this
  case hke =>
    rintro k S W hk ⟨rfl, e0, e2, e4, hb, _⟩
    exact e4
  case hAx =>
    rintro k S a1' W l r r2 h _
    exact h
  case hassign =>
    intro l k S W K hsz hSlt hK
    gi_wp2
    exact hK _ _ (Quiet.refl _ _ _) (Upd.refl _ _ _) rfl
  case hS =>
    rintro k S W ⟨rfl, _⟩ b hb
    exact hb.elim
  case hstop =>
    intro D c S W _ h
    exact h.elim
  case hbody =>
    rintro l k S a1' W hk ⟨rfl, e0, e2, e4, hb, L, U, hR, e1, e3⟩ rfl hsz
    obtain ⟨s1, s2, s3, s4, s5⟩ := hR.step (by rw [bytes_len]; exact hk) HD.out
    have hLn := hR.len
    rw [HDL.out] at hLn
    have hcell := row_cell e1 s1
    have hfroz := row_froz e1 (k / 9)
    have q2 := cell_blk e2 1
    have q3 := cell_blk e3 0
    have q4 := froz_blk e3 0
    obtain ⟨V, hV⟩ : ∃ V, V = unitAt k U := ⟨_, rfl⟩
    obtain ⟨d, hd⟩ : ∃ d, d = digAt t.data.toList k := ⟨_, rfl⟩
    obtain ⟨Q, hQ⟩ : ∃ Q, Q = lat L (k / 9) := ⟨_, rfl⟩
    rw [← hV, ← hd, ← hQ] at s3 s5
    rw [← hV] at s4
    rw [← hd] at s2 ⊢
    rw [← hQ] at hcell
    have HRN := hide s5; have HBW := hide hb; have W0 := hide e0; have W1 := hide e1; have W2' := hide e2; have W3 := hide e3; have W4 := hide e4
    have hU := hR.unit.1
    obtain ⟨q, hqd⟩ : ∃ q, q = k / 9 := ⟨_, rfl⟩
    rw [← hqd] at hcell hfroz s1 hQ
    have HQC := hide hcell
    have HRN2 := hide (show ReadL t.data.toList (k + 1) (L.set q (Q + d * V)) (V * 10) from hqd ▸ HRN.out)
    have k1 : Int.tdiv (k : Int) 9 = (q : Int) := by rw [Int.tdiv_eq_ediv_of_nonneg (by omega)]; omega
    have k2 : (k : Int) / 9 = (q : Int) := by omega
    have hq0 : (0 : Int) ≤ (q : Int) := by omega
    have hq1 : (q : Int) < (n : Int) := by omega
    have hm : d * V ≤ 9 * 1000000000 := Nat.mul_le_mul s2 (by omega)
    have p0 : (0 : Int) ≤ (d : Int) * (V : Int) := Int.mul_nonneg (by omega) (by omega)
    have p1 : (d : Int) * (V : Int) ≤ 9000000000 := by
      have : ((d * V : Nat) : Int) ≤ 9000000000 := by omega
      rwa [Int.natCast_mul] at this
    have u1 : IntKind.i64.wrap ((d : Int) * (V : Int)) = (d : Int) * (V : Int) := IntWalk.i64_in _ (by omega)
    have u2 : IntKind.i64.wrap ((Q : Int) + (d : Int) * (V : Int)) = (Q : Int) + (d : Int) * (V : Int) := IntWalk.i64_in _ (by omega)
    have v10 : (0 : Int) ≤ (V : Int) := by omega
    have v11 : (V : Int) ≤ 100000000 := by omega
    have HS1 := hide s1
    have hlb : w.heap.size + 1 < W.heap.size := lt_blk W1.out
    have hlb3 : w.heap.size + 1 + 1 + 1 < W.heap.size := lt_blk W3.out
    have HV2 := hide hV
    clear hb e0 e1 e2 e3 e4 hR s1 s3 s4 s5 hV hd hQ hqd hLn HRN
    have hBw1 : w1.heap.size ≤ W.heap.size := hsz
    by_cases hk9 : k % 9 = 0
    case' pos =>
      have t1 : (((k : Int) % 9) == 0) = true := by
        have : (k : Int) % 9 = 0 := by omega
        rw [this]
        rfl
      have HV1 := hide (show V = 1 by rw [HV2.out]; unfold unitAt; rw [if_pos hk9])
      clear hk9
      gi_wp2_with fail
      obtain ⟨Wx, hWx⟩ : ∃ Wx, Wx = W.setCell ⟨w.heap.size + 1 + 1 + 1, 0, none⟩ (.int .i64 1) := ⟨_, rfl⟩
      rw [← hWx]
      have X0 := hide (show Wx.heap[w.heap.size]? = some (.cells #[.bool false, .slice none 0 0] 48 (0, 0)) by rw [hWx]; exact (setCell_other (by omega)).trans W0.out)
      have X1 := hide (show Wx.heap[w.heap.size + 1]? = some (rowO L) by rw [hWx]; exact (setCell_other (by omega)).trans W1.out)
      have X2 := hide (show Wx.heap[w.heap.size + 1 + 1]? = some (.cells #[.bool mi, .slice (some ⟨w.heap.size + 1, 0, none⟩) n n] 48 (0, 0)) by rw [hWx]; exact (setCell_other (by omega)).trans W2'.out)
      have X3 := hide (show Wx.heap[w.heap.size + 1 + 1 + 1]? = some (.cells #[.int .i64 V] 3 (0, 0)) by rw [hWx, HV1.out]; exact Boxed.set (.int .i64 1) W3.out)
      have X4 := hide (show Wx.heap[w.heap.size + 1 + 1 + 1 + 1]? = some (.cells #[.string t] 9 (0, 0)) by rw [hWx]; exact (setCell_other (by omega)).trans W4.out)
      have XB := hide (show Below w.heap.size w Wx by rw [hWx]; exact HBW.out.setCell (p := ⟨w.heap.size + 1 + 1 + 1, 0, none⟩) (by simp; omega) _)
      have XU := hide (show Upd w1.heap.size (fun _ => False) (fun _ => False) W Wx by rw [hWx]; exact (Upd.refl _ _ _).setBox (by simp; omega) _)
      clear hWx HV1 HV2
    case' neg =>
      have t1 : (((k : Int) % 9) == 0) = false := by
        have : (k : Int) % 9 ≠ 0 := by omega
        simpa using this
      have HV1 := hide (show V = U by rw [HV2.out]; unfold unitAt; rw [if_neg hk9])
      clear hk9
      gi_wp2_with fail
      obtain ⟨Wx, hWx⟩ : ∃ Wx, Wx = W := ⟨_, rfl⟩
      rw [← hWx]
      have X0 := hide (show Wx.heap[w.heap.size]? = some (.cells #[.bool false, .slice none 0 0] 48 (0, 0)) by rw [hWx]; exact W0.out)
      have X1 := hide (show Wx.heap[w.heap.size + 1]? = some (rowO L) by rw [hWx]; exact W1.out)
      have X2 := hide (show Wx.heap[w.heap.size + 1 + 1]? = some (.cells #[.bool mi, .slice (some ⟨w.heap.size + 1, 0, none⟩) n n] 48 (0, 0)) by rw [hWx]; exact W2'.out)
      have X3 := hide (show Wx.heap[w.heap.size + 1 + 1 + 1]? = some (.cells #[.int .i64 V] 3 (0, 0)) by rw [hWx, HV1.out]; exact W3.out)
      have X4 := hide (show Wx.heap[w.heap.size + 1 + 1 + 1 + 1]? = some (.cells #[.string t] 9 (0, 0)) by rw [hWx]; exact W4.out)
      have XB := hide (show Below w.heap.size w Wx by rw [hWx]; exact HBW.out)
      have XU := hide (show Upd w1.heap.size (fun _ => False) (fun _ => False) W Wx by rw [hWx]; exact Upd.refl _ _ _)
      clear hWx HV1 HV2
    all_goals
      have hX1 : w.heap.size + 1 < Wx.heap.size := lt_blk X1.out
      have hX3 : w.heap.size + 1 + 1 + 1 < Wx.heap.size := lt_blk X3.out
      clear hcell hfroz q2 q3 q4
      have hcell : Wx.cell? ⟨w.heap.size + 1, q, none⟩ = some (.int .i64 Q) := (World.cell?_of_block (X1.out.trans W1.out.symm)).trans HQC.out
      have hfroz := row_froz X1.out q
      have q2 := cell_blk X2.out 1
      have q3 := cell_blk X3.out 0
      have q4 := froz_blk X3.out 0
      refine round_prefix (n := 11) (C := fun w' => ∃ m, w' = Wx.drewN m) (by kernel_rfl) (by decide) (by kernel_rfl) (by kernel_rfl) (by kernel_rfl) (by kernel_rfl) (by kernel_rfl) ⟨1, rfl⟩ ?_
      simp only [List.take_succ_cons, List.take_zero, List.drop_succ_cons, List.drop_zero]
      repeat (go_big_quiet_step (fail))
      refine wpQuiet_nil ?_
      rintro w2 ⟨m, rfl⟩
      go_wp2_with fail
      obtain ⟨Wy, hWy⟩ : ∃ Wy, Wy = (Wx.drewN m).setCell ⟨w.heap.size + 1, q, none⟩ (.int .i64 ((Q : Int) + (d : Int) * (V : Int))) := ⟨_, rfl⟩
      rw [← hWy]
      have eQ : ((Q : Int) + (d : Int) * (V : Int)) = ((Q + d * V : Nat) : Int) := by rw [Int.natCast_add, Int.natCast_mul]
      rw [eQ] at hWy
      have Y0 := hide (show Wy.heap[w.heap.size]? = some (.cells #[.bool false, .slice none 0 0] 48 (0, 0)) by rw [hWy]; exact (setCell_other (by omega)).trans X0.out)
      have Y1 := hide (show Wy.heap[w.heap.size + 1]? = some (rowO (L.set q (Q + d * V))) by rw [hWy]; exact row_set (w := Wx.drewN m) X1.out q _)
      have Y2 := hide (show Wy.heap[w.heap.size + 1 + 1]? = some (.cells #[.bool mi, .slice (some ⟨w.heap.size + 1, 0, none⟩) n n] 48 (0, 0)) by rw [hWy]; exact (setCell_other (by omega)).trans X2.out)
      have Y3 := hide (show Wy.heap[w.heap.size + 1 + 1 + 1]? = some (.cells #[.int .i64 V] 3 (0, 0)) by rw [hWy]; exact (setCell_other (by omega)).trans X3.out)
      have Y4 := hide (show Wy.heap[w.heap.size + 1 + 1 + 1 + 1]? = some (.cells #[.string t] 9 (0, 0)) by rw [hWy]; exact (setCell_other (by omega)).trans X4.out)
      have YB := hide (show Below w.heap.size w Wy by rw [hWy]; exact (below_drewN XB.out m).setCell (p := ⟨w.heap.size + 1, q, none⟩) (by simp) _)
      have YU := hide (show Upd w1.heap.size (fun _ => False) (fun _ => False) W Wy by rw [hWy]; exact (XU.out.drewN m).setBox (by simp; omega) _)
      clear hcell hfroz q2 q3 q4 hWy eQ u1 u2
      have q3 := cell_blk Y3.out 0
      have q4 := froz_blk Y3.out 0
      gi_wp2
      refine ⟨fun _ => False, YU.out.setBox (by simp; omega) _, rfl, (setCell_other (by omega)).trans Y0.out, (setCell_other (by omega)).trans Y2.out, (setCell_other (by omega)).trans Y4.out, YB.out.setCell (p := ⟨w.heap.size + 1 + 1 + 1, 0, none⟩) (by simp; omega) _, _, _, HRN2.out, (setCell_other (by omega)).trans Y1.out, ?_⟩
      have := Boxed.set (.int .i64 ((V * 10 : Nat) : Int)) Y3.out
      rw [Int.natCast_mul] at this
      exact this
  case hdone =>
    rintro D S W hD ⟨rfl, e0, e2, e4, hb, L, U, hR, e1, e3⟩ hK
    have hLn := hR.len
    rw [HDL.out] at hLn
    have q2 := cell_blk e2 1
    have q0 := cell_blk e2 0
    have q5 := froz_blk e2 1
    have q6 := cell_blk e0 0
    have q7 := cell_blk e0 1
    have q8 := froz_blk e0 0
    have q9 := froz_blk e0 1
    have n1 : (w.heap.size + 1 + 1 = w.heap.size) = False := eq_false (by omega)
    have n2 : (w.heap.size = w.heap.size + 1 + 1) = False := eq_false (by omega)
    have HT := hide (trim_any (some ⟨w.heap.size + 1, 0, none⟩) n L W.heap.size W (by
      have := row_limbs e1 (by unfold maxLen; omega)
      rw [hLn] at this ⊢
      exact this) (by omega) (by omega))
    rw [hLn] at HT
    have HO := hide (row_owns (base := 0) e1 (Nat.zero_le _) (by unfold maxLen; omega))
    have HRD := hide hR; have HLn := hide hLn; have HBW := hide hb; have W0 := hide e0; have W2' := hide e2; have HK := hide hK
    have hlw : w.heap.size + 1 + 1 < W.heap.size := lt_blk e2
    clear hb e0 e1 e2 e3 e4 hR hLn hK
    gi_wp2_with fail
    refine ⟨trivial, rfl, (callsIn_wide.2 HT.out).mono ?_⟩
    rintro e w2 ⟨rfl, rfl⟩
    gi_wp2_with fail
    obtain ⟨Wa, hWa⟩ : ∃ Wa, Wa = W.setCell ⟨w.heap.size + 1 + 1, 1, none⟩ (.slice (some ⟨w.heap.size + 1, 0, none⟩) (trimTo L n) n) := ⟨_, rfl⟩
    rw [← hWa]
    have A0 : Wa.heap[w.heap.size]? = some (.cells #[.bool false, .slice none 0 0] 48 (0, 0)) := by rw [hWa]; exact (setCell_other (by omega)).trans W0.out
    have AD : Wa.heap[D]? = some (.deferred (some [])) := by rw [hWa]; exact (setCell_other (by omega)).trans HK.out
    have AB : Below w.heap.size w Wa := by rw [hWa]; exact HBW.out.setCell (p := ⟨w.heap.size + 1 + 1, 1, none⟩) (by simp; omega) _
    have AO : OwnL 0 Wa (.slice (some ⟨w.heap.size + 1, 0, none⟩) n n) L := by
      have h := HO.out
      rw [HLn.out] at h
      rw [hWa]
      exact owns_stay h (fun r hr => setCell_other (fun e => by
        have h2 : w.heap.size + 1 = r := by simpa [Value.ownBlock] using hr
        omega))
    obtain ⟨s1, s2⟩ := set2 A0 (.bool mi) (.slice (some ⟨w.heap.size + 1, 0, none⟩) (trimTo L n) n)
    have sD : ((Wa.setCell ⟨w.heap.size, 0, none⟩ (.bool mi)).setCell ⟨w.heap.size, 1, none⟩ (.slice (some ⟨w.heap.size + 1, 0, none⟩) (trimTo L n) n)).heap[D]? = some (.deferred (some [])) := (setCell_other (by omega)).trans ((setCell_other (by omega)).trans AD)
    refine ⟨by simp, .inl ⟨_, _, rfl, run_takeDeferred sD, ?_⟩⟩
    have sE : (((Wa.setCell ⟨w.heap.size, 0, none⟩ (.bool mi)).setCell ⟨w.heap.size, 1, none⟩ (.slice (some ⟨w.heap.size + 1, 0, none⟩) (trimTo L n) n)).putObj D (.deferred none)).heap[w.heap.size]? = some (.cells #[.bool mi, .slice (some ⟨w.heap.size + 1, 0, none⟩) (trimTo L n) n] 48 (0, 0)) := (World.putObj_heap_other (by omega)).trans s1
    refine ⟨_, exit_read sE rfl, _, rfl, (AB.trans (s2.mono (by omega))).trans (belowK_b (w := w) (Nat.le_refl _) _ D _ _ (by omega) sD rfl rfl), mi, _, trimL L, rfl, ?_, trimL_norm HRD.out.lt, ?_, ?_⟩
    · have hc := AO.cut (k := trimTo L n) (by rw [HLn.out]; exact trimTo_le _ _)
      have e3 : L.take (trimTo L n) = trimL L := by unfold trimL; rw [HLn.out]
      rw [e3] at hc
      exact owns_stay hc (fun r hr => (by
        have h2 : w.heap.size + 1 = r := by simpa [Value.ownBlock] using hr
        rw [World.putObj_heap_other (by omega), setCell_other (by omega), setCell_other (by omega)]))
    · rw [trimL_lv, HRD.out.val, HV.out, bytes_len, Nat.sub_self, List.drop_zero]
    · rw [trimL_len]
      have := trimTo_le L L.length
      have := HLn.out
      omega
end Go.Proofs.YthkioajalhglfaaGreatDoor
