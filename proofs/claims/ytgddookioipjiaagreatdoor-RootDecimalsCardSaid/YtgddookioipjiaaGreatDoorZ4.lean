/-
  Texts of the integers, laid together: Pg, Loop3, Ph, Pi, Pj, Pk, Ta.
-/
import Derived.Shelf.Strings.BuilderK
import Derived.Lib.OthersKept
import Derived.BigQuiet
import Derived.Test.YtgddookioipjiaaGreatDoorZ1
import Derived.Test.YtgddookioipjiaaGreatDoorZ3
namespace Go.Proofs.YtgddookioipjiaaGreatDoor
open Go.RowKit Go.KP Go.KI Go.Shelf
attribute [local go_sem] Oper.semAt_some

/-- Limbs in which k digits have been laid, the last ones first. -/
structure ReadL (ds : List UInt8) (k : Nat) (L : List Nat) (U : Nat) : Prop where
  len : L.length = (ds.length + 8) / 9
  lt : Lt 1000000000 L
  val : lv 1000000000 L = dv (ds.drop (ds.length - k))
  top : lat L (k / 9) < 10 ^ (k % 9)
  rest : ∀ j, k / 9 < j → lat L j = 0
  unit : U ≤ 1000000000 ∧ (k % 9 ≠ 0 → U = 10 ^ (k % 9))
theorem ReadL.start (ds : List UInt8) : ReadL ds 0 (zeros ((ds.length + 8) / 9)) 1 := by
  refine ⟨zeros_len _, zeros_lt _ _ (by omega), ?_, ?_, ?_, by omega, fun h => by simp at h⟩
  · rw [Nat.sub_zero, List.drop_length, zeros, lv_zeros]
    rfl
  · have : lat (zeros ((ds.length + 8) / 9)) (0 / 9) = 0 := by
      unfold lat zeros
      rw [List.getElem?_replicate]
      split <;> rfl
    rw [this]
    simp
  · intro j hj
    unfold lat zeros
    rw [List.getElem?_replicate]
    split <;> rfl
theorem pow10_le {r : Nat} (h : r ≤ 9) : 10 ^ r ≤ 1000000000 := by
  have : 10 ^ r ≤ 10 ^ 9 := Nat.pow_le_pow_right (by omega) h
  simpa using this
/-- The unit of the next digit. -/
def unitAt (k U : Nat) : Nat := if k % 9 = 0 then 1 else U
theorem ReadL.unitEq {ds : List UInt8} {k U : Nat} {L : List Nat} (h : ReadL ds k L U) : unitAt k U = 10 ^ (k % 9) := by
  unfold unitAt
  by_cases h0 : k % 9 = 0
  · rw [if_pos h0, h0]
  · rw [if_neg h0, h.unit.2 h0]
theorem ReadL.step {ds : List UInt8} {k U : Nat} {L : List Nat} (h : ReadL ds k L U) (hk : k < ds.length) (hd : ∀ c ∈ ds, isDg c = true) :
    k / 9 < L.length ∧ digAt ds k ≤ 9 ∧ lat L (k / 9) + digAt ds k * unitAt k U < 1000000000 ∧ unitAt k U * 10 ≤ 1000000000 ∧ ReadL ds (k + 1) (L.set (k / 9) (lat L (k / 9) + digAt ds k * unitAt k U)) (unitAt k U * 10) := by
  have hq : k / 9 < L.length := by rw [h.len]; omega
  obtain ⟨c, hc⟩ : ∃ c, ds[ds.length - 1 - k]? = some c := ⟨_, List.getElem?_eq_getElem (by omega)⟩
  have hdg := isDg_iff.1 (hd c (List.mem_of_getElem? hc))
  have hda : digAt ds k = c.toNat - 48 := by
    unfold digAt
    rw [hc]
    rfl
  have hd9 : digAt ds k ≤ 9 := by omega
  have hu := h.unitEq
  have hr : k % 9 < 9 := Nat.mod_lt _ (by omega)
  have hp1 : 10 ^ (k % 9 + 1) ≤ 1000000000 := pow10_le (by omega)
  have hp2 : 10 ^ (k % 9 + 1) = 10 ^ (k % 9) * 10 := Nat.pow_succ ..
  have ht := h.top
  have hm : digAt ds k * 10 ^ (k % 9) ≤ 9 * 10 ^ (k % 9) := Nat.mul_le_mul_right _ hd9
  rw [hu]
  have hv : lat L (k / 9) + digAt ds k * 10 ^ (k % 9) < 10 ^ (k % 9 + 1) := by omega
  refine ⟨hq, hd9, by omega, by omega, ⟨by rw [List.length_set]; exact h.len, lt_set h.lt (by omega), ?_, ?_, ?_, by omega, ?_⟩⟩
  · have h1 := lv_set (b := 1000000000) (lat L (k / 9) + digAt ds k * 10 ^ (k % 9)) hq
    have e : 1000000000 ^ (k / 9) * (digAt ds k * 10 ^ (k % 9)) = digAt ds k * 10 ^ k := by
      have e1 : (1000000000 : Nat) ^ (k / 9) = 10 ^ (9 * (k / 9)) := by rw [Nat.pow_mul]
      have e2 : 10 ^ k = 10 ^ (9 * (k / 9)) * 10 ^ (k % 9) := by
        rw [← Nat.pow_add]
        congr 1
        omega
      rw [e1, e2]
      grind
    rw [Nat.mul_add] at h1
    have h2 : ds.drop (ds.length - (k + 1)) = [c] ++ ds.drop (ds.length - k) := by
      rw [show ds.length - (k + 1) = ds.length - 1 - k by omega]
      have h3 := List.drop_eq_getElem_cons (l := ds) (i := ds.length - 1 - k) (by omega)
      rw [h3, show ds.length - 1 - k + 1 = ds.length - k by omega]
      rw [List.getElem?_eq_getElem (by omega)] at hc
      injection hc with hc
      rw [hc]
      rfl
    rw [h2, dv_append, ← h.val, List.length_drop, show ds.length - (ds.length - k) = k by omega]
    have h4 : dv [c] = digAt ds k := by
      rw [hda]
      show 0 * 10 + (c.toNat - 48) = _
      omega
    rw [h4]
    omega
  · by_cases h8 : k % 9 = 8
    · have e1 : (k + 1) / 9 = k / 9 + 1 := by omega
      have e2 : (k + 1) % 9 = 0 := by omega
      rw [e1, e2, lat_set hq, if_neg (by omega), h.rest _ (by omega)]
      simp
    · have e1 : (k + 1) / 9 = k / 9 := by omega
      have e2 : (k + 1) % 9 = k % 9 + 1 := by omega
      rw [e1, e2, lat_set hq, if_pos rfl]
      exact hv
  · intro j hj
    rw [lat_set hq, if_neg (by omega)]
    exact h.rest j (by omega)
  · intro hne
    have e2 : (k + 1) % 9 = k % 9 + 1 := by omega
    rw [e2, hp2]
theorem valI_S (l : List UInt8) : valI l = valS (decide (l.head? = some 45)) (dv (digs l)) := by
  unfold valI valS
  by_cases h : l.head? = some 45
  · simp [h]
  · simp [h]
theorem exit_read {tmps : Array Value} {W : World} {b : Nat} {m : Bool} {v : Value} (hb : W.heap[b]? = some (.cells #[.bool m, v] 128 (0, 0)))
    (h2 : tmps[2]? = some (.pointer (some ⟨b, 0, none⟩))) : (results Tryz.f115 tmps).run Tryz.prog W = .ok (numV m v) W := by
  have hcell := fun o => cell_blk hb o
  simp [results, go_sem, hcell, h2]
set_option maxRecDepth 100000 in
set_option maxHeartbeats 4000000 in
theorem read_any (s : ByteArray) (hs : s.size ≤ 700000) (hd : ∀ c ∈ digs s.data.toList, isDg c = true) (w : World) :
    Calls Tryz.prog 115 #[.string s] w (RetEx w (NumOf (valI s.data.toList))) := by
  obtain ⟨t, ht⟩ : ∃ t, t = strB (digs s.data.toList) := ⟨_, rfl⟩
  have htl : t.data.toList = digs s.data.toList := by rw [ht]; exact strB_list _
  obtain ⟨mi, hmi⟩ : ∃ mi, mi = decide (s.data.toList.head? = some 45) := ⟨_, rfl⟩
  have hts : t.size ≤ 700000 := by
    rw [← bytes_len, htl]
    have : (digs s.data.toList).length ≤ s.data.toList.length := by
      cases s.data.toList with
      | nil => exact Nat.le_refl _
      | cons c r =>
        simp only [digs]
        split <;> simp
    rw [bytes_len] at this
    omega
  have HCP := hide (fun w => cutPrefix_any s w)
  rw [← ht, ← hmi] at HCP
  have HV := hide (valI_S s.data.toList)
  rw [← hmi, ← htl] at HV
  rw [← htl] at hd
  have HD := hide hd
  obtain ⟨n, hn⟩ : ∃ n, n = (t.size + 8) / 9 := ⟨_, rfl⟩
  have hn2 : ((t.size : Int) + 9 - 1) / 9 = (n : Int) := by omega
  have hmk := make_ints n (by omega)
  have HN := hide hn
  clear ht htl hmi hd hn
  obtain ⟨r0, rs0, rb0⟩ := heap1 w (.cells #[.bool false, .slice none 0 0] 128)
  refine (callsIn_wide (n := 0)).1 ?_
  refine callsIn_of_wp_marks Tryz.func115 rfl trivial ?_ rfl
  simp only [Tryz.ntmps115, List.size_toArray, List.length_cons, List.length_nil, Nat.reduceAdd, Nat.reduceSub, Array.replicate_succ, Array.replicate_zero, List.push_toArray, List.append_toArray, List.nil_append, List.cons_append]
  have R0 := hide r0; have RB0 := hide rb0
  clear r0 rs0 rb0
  gi_wp2_with fail
  refine ⟨trivial, rfl, (callsIn_wide.2 (HCP.out _)).mono ?_⟩
  rintro e w1 ⟨rfl, rfl⟩
  gi_wp2_with fail
  refine ⟨trivial, rfl, (callsIn_wide.2 (digits_any t _)).mono ?_⟩
  rintro e w1 ⟨rfl, hw1⟩
  gi_wp2_with fail
  obtain ⟨a1, as1, ab1⟩ := heap1 (w.alloc (.cells #[.bool false, .slice none 0 0] 128)) (rowO (zeros n))
  obtain ⟨a2, as2, ab2⟩ := heap1 ((w.alloc (.cells #[.bool false, .slice none 0 0] 128)).alloc (rowO (zeros n))) (.cells #[.bool mi, .slice (some ⟨w.heap.size + 1, 0, none⟩) n n] 128)
  obtain ⟨a3, as3, ab3⟩ := heap1 (((w.alloc (.cells #[.bool false, .slice none 0 0] 128)).alloc (rowO (zeros n))).alloc (.cells #[.bool mi, .slice (some ⟨w.heap.size + 1, 0, none⟩) n n] 128)) (.cells #[.int .i64 1] 3)
  obtain ⟨a4, as4, ab4⟩ := heap1 ((((w.alloc (.cells #[.bool false, .slice none 0 0] 128)).alloc (rowO (zeros n))).alloc (.cells #[.bool mi, .slice (some ⟨w.heap.size + 1, 0, none⟩) n n] 128)).alloc (.cells #[.int .i64 1] 3)) (.cells #[.string t] 9)
  have z0 : (w.alloc (.cells #[.bool false, .slice none 0 0] 128)).heap.size = w.heap.size + 1 := by simp
  rw [z0] at a1 as1 ab1
  rw [as1] at a2 as2 ab2
  rw [as2] at a3 as3 ab3
  rw [as3] at a4 as4 ab4
  have e0 := below_blk ab4 (below_blk ab3 (below_blk ab2 (below_blk ab1 R0.out (by omega)) (by omega)) (by omega)) (by omega)
  have e1 := below_blk ab4 (below_blk ab3 (below_blk ab2 a1 (by omega)) (by omega)) (by omega)
  have e2 := below_blk ab4 (below_blk ab3 a2 (by omega)) (by omega)
  have e3 := below_blk ab4 a3 (by omega)
  have hbw := RB0.out.trans ((ab1.trans ((ab2.trans ((ab3.trans (ab4.mono (by omega))).mono (by omega))).mono (by omega))).mono (by omega))
  rw [hw1] at e0 e1 e2 e3 a4 as4 hbw
  have E0 := hide e0; have E1 := hide e1; have E2 := hide e2; have E3 := hide e3; have E4 := hide a4; have EB := hide hbw
  have hs1 : w.heap.size + 5 = w1.heap.size := by omega
  clear a1 as1 ab1 a2 as2 ab2 a3 as3 ab3 a4 as4 ab4 z0 e0 e1 e2 e3 hbw hw1 R0 RB0 hmk
  have hdl : (t.data.toList.length + 8) / 9 = n := by rw [bytes_len]; exact HN.out.symm
  have HDL := hide hdl
  clear hdl
  refine wp_iter_on (gf := 207) (lb := #[.pointer (some ⟨w.heap.size + 1 + 1 + 1 + 1, 0, none⟩)]) rfl (enters_of Tryz.func207 (by kernel_rfl) rfl) (digitSeq_any (w.heap.size + 1 + 1 + 1 + 1) t (by omega) HD.out) (fun _ => rfl)
    (fun k S W => S = (fun _ => False) ∧ W.heap[w.heap.size]? = some (.cells #[.bool false, .slice none 0 0] 128 (0, 0)) ∧ W.heap[w.heap.size + 1 + 1]? = some (.cells #[.bool mi, .slice (some ⟨w.heap.size + 1, 0, none⟩) n n] 128 (0, 0)) ∧ W.heap[w.heap.size + 1 + 1 + 1 + 1]? = some (.cells #[.string t] 9 (0, 0)) ∧ Below w.heap.size w W ∧
      ∃ (L : List Nat) (U : Nat), ReadL t.data.toList k L U ∧ W.heap[w.heap.size + 1]? = some (rowO L) ∧ W.heap[w.heap.size + 1 + 1 + 1]? = some (.cells #[.int .i64 U] 3 (0, 0)))
    (fun _ _ _ => False) ?hI (fun _ _ _ _ h _ => h) ?h0 ?hke
    (fun k S a1' W => a1' = { tmps := #[.string s, undef, .pointer (some ⟨w.heap.size, 0, none⟩), .string t, .bool mi, .pointer (some ⟨w.heap.size + 1 + 1, 0, none⟩), .pointer (some ⟨w.heap.size + 1 + 1 + 1, 0, none⟩), .int .i64 k, .int .i64 (digAt t.data.toList k), .tuple #[.string t, .bool mi], .string s, .tuple #[.string t, .bool mi], .string t, .bool mi, .bool mi, .string t, .int .i64 t.size, .int .i64 ((t.size : Int) + 9), .int .i64 ((t.size : Int) + 9 - 1), .int .i64 n, .slice (some ⟨w.heap.size + 1, 0, none⟩) n n, .agg #[.bool mi, .slice (some ⟨w.heap.size + 1, 0, none⟩) n n], .string t, .func (.func 207) #[] #[.pointer (some ⟨w.heap.size + 1 + 1 + 1 + 1, 0, none⟩)], .int .i64 k, .int .i64 (digAt t.data.toList k), undef, undef, undef, undef, undef, undef, undef, undef, undef, undef, undef, undef, undef, undef, undef, undef, undef, undef, undef, undef, undef], defers := [] })
    ?hAx ?hassign ?hS ?hbody ?hdone ?hstop
  case hI =>
    rintro k S W W2 ⟨rfl, e0, e2, e4, hb, L, U, hR, e1, e3⟩ hq
    exact ⟨rfl, hq.at_ e0 (.inl (by omega)), hq.at_ e2 (.inl (by omega)), hq.at_ e4 (.inl (by omega)), Quiet.below hb hq (by omega) hb.size, L, U, hR, hq.at_ e1 (.inl (by omega)), hq.at_ e3 (.inl (by omega))⟩
  case h0 =>
    refine ⟨rfl, E0.out, E2.out, E4.out, EB.out, zeros n, 1, ?_, E1.out, E3.out⟩
    have := ReadL.start t.data.toList
    rw [HDL.out] at this
    exact this
  case hke =>
    rintro k S W hk ⟨rfl, e0, e2, e4, hb, _⟩
    exact e4
  case hAx =>
    rintro k S a1' W l r r2 h _
    exact h
  case hassign =>
    intro l k S W K hsz hSlt hK
    gi_wp2
    exact hK _ _ (Quiet.refl _ _ _) (Upd.refl _ _ _) rfl
  case hS =>
    rintro k S W ⟨rfl, _⟩ b hb
    exact hb.elim
  case hstop =>
    intro D c S W _ h
    exact h.elim
  case hbody =>
    rintro l k S a1' W hk ⟨rfl, e0, e2, e4, hb, L, U, hR, e1, e3⟩ rfl hsz
    obtain ⟨s1, s2, s3, s4, s5⟩ := hR.step (by rw [bytes_len]; exact hk) HD.out
    have hLn := hR.len
    rw [HDL.out] at hLn
    have hcell := row_cell e1 s1
    have hfroz := row_froz e1 (k / 9)
    have q2 := cell_blk e2 1
    have q3 := cell_blk e3 0
    have q4 := froz_blk e3 0
    obtain ⟨V, hV⟩ : ∃ V, V = unitAt k U := ⟨_, rfl⟩
    obtain ⟨d, hd⟩ : ∃ d, d = digAt t.data.toList k := ⟨_, rfl⟩
    obtain ⟨Q, hQ⟩ : ∃ Q, Q = lat L (k / 9) := ⟨_, rfl⟩
    rw [← hV, ← hd, ← hQ] at s3 s5
    rw [← hV] at s4
    rw [← hd] at s2 ⊢
    rw [← hQ] at hcell
    have HRN := hide s5; have HBW := hide hb; have W0 := hide e0; have W1 := hide e1; have W2' := hide e2; have W3 := hide e3; have W4 := hide e4
    have hU := hR.unit.1
    obtain ⟨q, hqd⟩ : ∃ q, q = k / 9 := ⟨_, rfl⟩
    rw [← hqd] at hcell hfroz s1 hQ
    have HQC := hide hcell
    have HRN2 := hide (show ReadL t.data.toList (k + 1) (L.set q (Q + d * V)) (V * 10) from hqd ▸ HRN.out)
    have k1 : Int.tdiv (k : Int) 9 = (q : Int) := by rw [Int.tdiv_eq_ediv_of_nonneg (by omega)]; omega
    have k2 : (k : Int) / 9 = (q : Int) := by omega
    have hq0 : (0 : Int) ≤ (q : Int) := by omega
    have hq1 : (q : Int) < (n : Int) := by omega
    have hm : d * V ≤ 9 * 1000000000 := Nat.mul_le_mul s2 (by omega)
    have p0 : (0 : Int) ≤ (d : Int) * (V : Int) := Int.mul_nonneg (by omega) (by omega)
    have p1 : (d : Int) * (V : Int) ≤ 9000000000 := by
      have : ((d * V : Nat) : Int) ≤ 9000000000 := by omega
      rwa [Int.natCast_mul] at this
    have u1 : IntKind.i64.wrap ((d : Int) * (V : Int)) = (d : Int) * (V : Int) := IntWalk.i64_in _ (by omega)
    have u2 : IntKind.i64.wrap ((Q : Int) + (d : Int) * (V : Int)) = (Q : Int) + (d : Int) * (V : Int) := IntWalk.i64_in _ (by omega)
    have v10 : (0 : Int) ≤ (V : Int) := by omega
    have v11 : (V : Int) ≤ 100000000 := by omega
    have HS1 := hide s1
    have hlb : w.heap.size + 1 < W.heap.size := lt_blk W1.out
    have hlb3 : w.heap.size + 1 + 1 + 1 < W.heap.size := lt_blk W3.out
    have HV2 := hide hV
    clear hb e0 e1 e2 e3 e4 hR s1 s3 s4 s5 hV hd hQ hqd hLn HRN
    have hBw1 : w1.heap.size ≤ W.heap.size := hsz
    by_cases hk9 : k % 9 = 0
    case' pos =>
      have t1 : (((k : Int) % 9) == 0) = true := by
        have : (k : Int) % 9 = 0 := by omega
        rw [this]
        rfl
      have HV1 := hide (show V = 1 by rw [HV2.out]; unfold unitAt; rw [if_pos hk9])
      clear hk9
      gi_wp2_with fail
      obtain ⟨Wx, hWx⟩ : ∃ Wx, Wx = W.setCell ⟨w.heap.size + 1 + 1 + 1, 0, none⟩ (.int .i64 1) := ⟨_, rfl⟩
      rw [← hWx]
      have X0 := hide (show Wx.heap[w.heap.size]? = some (.cells #[.bool false, .slice none 0 0] 128 (0, 0)) by rw [hWx]; exact (setCell_other (by omega)).trans W0.out)
      have X1 := hide (show Wx.heap[w.heap.size + 1]? = some (rowO L) by rw [hWx]; exact (setCell_other (by omega)).trans W1.out)
      have X2 := hide (show Wx.heap[w.heap.size + 1 + 1]? = some (.cells #[.bool mi, .slice (some ⟨w.heap.size + 1, 0, none⟩) n n] 128 (0, 0)) by rw [hWx]; exact (setCell_other (by omega)).trans W2'.out)
      have X3 := hide (show Wx.heap[w.heap.size + 1 + 1 + 1]? = some (.cells #[.int .i64 V] 3 (0, 0)) by rw [hWx, HV1.out]; exact Boxed.set (.int .i64 1) W3.out)
      have X4 := hide (show Wx.heap[w.heap.size + 1 + 1 + 1 + 1]? = some (.cells #[.string t] 9 (0, 0)) by rw [hWx]; exact (setCell_other (by omega)).trans W4.out)
      have XB := hide (show Below w.heap.size w Wx by rw [hWx]; exact HBW.out.setCell (p := ⟨w.heap.size + 1 + 1 + 1, 0, none⟩) (by simp; omega) _)
      have XU := hide (show Upd w1.heap.size (fun _ => False) (fun _ => False) W Wx by rw [hWx]; exact (Upd.refl _ _ _).setBox (by simp; omega) _)
      clear hWx HV1 HV2
    case' neg =>
      have t1 : (((k : Int) % 9) == 0) = false := by
        have : (k : Int) % 9 ≠ 0 := by omega
        simpa using this
      have HV1 := hide (show V = U by rw [HV2.out]; unfold unitAt; rw [if_neg hk9])
      clear hk9
      gi_wp2_with fail
      obtain ⟨Wx, hWx⟩ : ∃ Wx, Wx = W := ⟨_, rfl⟩
      rw [← hWx]
      have X0 := hide (show Wx.heap[w.heap.size]? = some (.cells #[.bool false, .slice none 0 0] 128 (0, 0)) by rw [hWx]; exact W0.out)
      have X1 := hide (show Wx.heap[w.heap.size + 1]? = some (rowO L) by rw [hWx]; exact W1.out)
      have X2 := hide (show Wx.heap[w.heap.size + 1 + 1]? = some (.cells #[.bool mi, .slice (some ⟨w.heap.size + 1, 0, none⟩) n n] 128 (0, 0)) by rw [hWx]; exact W2'.out)
      have X3 := hide (show Wx.heap[w.heap.size + 1 + 1 + 1]? = some (.cells #[.int .i64 V] 3 (0, 0)) by rw [hWx, HV1.out]; exact W3.out)
      have X4 := hide (show Wx.heap[w.heap.size + 1 + 1 + 1 + 1]? = some (.cells #[.string t] 9 (0, 0)) by rw [hWx]; exact W4.out)
      have XB := hide (show Below w.heap.size w Wx by rw [hWx]; exact HBW.out)
      have XU := hide (show Upd w1.heap.size (fun _ => False) (fun _ => False) W Wx by rw [hWx]; exact Upd.refl _ _ _)
      clear hWx HV1 HV2
    all_goals
      have hX1 : w.heap.size + 1 < Wx.heap.size := lt_blk X1.out
      have hX3 : w.heap.size + 1 + 1 + 1 < Wx.heap.size := lt_blk X3.out
      clear hcell hfroz q2 q3 q4
      have hcell : Wx.cell? ⟨w.heap.size + 1, q, none⟩ = some (.int .i64 Q) := (World.cell?_of_block (X1.out.trans W1.out.symm)).trans HQC.out
      have hfroz := row_froz X1.out q
      have q2 := cell_blk X2.out 1
      have q3 := cell_blk X3.out 0
      have q4 := froz_blk X3.out 0
      refine round_prefix (n := 11) (C := fun w' => ∃ m, w' = Wx.drewN m) (by kernel_rfl) (by decide) (by kernel_rfl) (by kernel_rfl) (by kernel_rfl) (by kernel_rfl) (by kernel_rfl) ⟨1, rfl⟩ ?_
      simp only [List.take_succ_cons, List.take_zero, List.drop_succ_cons, List.drop_zero]
      repeat (go_big_quiet_step (fail))
      refine wpQuiet_nil ?_
      rintro w2 ⟨m, rfl⟩
      go_wp2_with fail
      obtain ⟨Wy, hWy⟩ : ∃ Wy, Wy = (Wx.drewN m).setCell ⟨w.heap.size + 1, q, none⟩ (.int .i64 ((Q : Int) + (d : Int) * (V : Int))) := ⟨_, rfl⟩
      rw [← hWy]
      have eQ : ((Q : Int) + (d : Int) * (V : Int)) = ((Q + d * V : Nat) : Int) := by rw [Int.natCast_add, Int.natCast_mul]
      rw [eQ] at hWy
      have Y0 := hide (show Wy.heap[w.heap.size]? = some (.cells #[.bool false, .slice none 0 0] 128 (0, 0)) by rw [hWy]; exact (setCell_other (by omega)).trans X0.out)
      have Y1 := hide (show Wy.heap[w.heap.size + 1]? = some (rowO (L.set q (Q + d * V))) by rw [hWy]; exact row_set (w := Wx.drewN m) X1.out q _)
      have Y2 := hide (show Wy.heap[w.heap.size + 1 + 1]? = some (.cells #[.bool mi, .slice (some ⟨w.heap.size + 1, 0, none⟩) n n] 128 (0, 0)) by rw [hWy]; exact (setCell_other (by omega)).trans X2.out)
      have Y3 := hide (show Wy.heap[w.heap.size + 1 + 1 + 1]? = some (.cells #[.int .i64 V] 3 (0, 0)) by rw [hWy]; exact (setCell_other (by omega)).trans X3.out)
      have Y4 := hide (show Wy.heap[w.heap.size + 1 + 1 + 1 + 1]? = some (.cells #[.string t] 9 (0, 0)) by rw [hWy]; exact (setCell_other (by omega)).trans X4.out)
      have YB := hide (show Below w.heap.size w Wy by rw [hWy]; exact (below_drewN XB.out m).setCell (p := ⟨w.heap.size + 1, q, none⟩) (by simp) _)
      have YU := hide (show Upd w1.heap.size (fun _ => False) (fun _ => False) W Wy by rw [hWy]; exact (XU.out.drewN m).setBox (by simp; omega) _)
      clear hcell hfroz q2 q3 q4 hWy eQ u1 u2
      have q3 := cell_blk Y3.out 0
      have q4 := froz_blk Y3.out 0
      gi_wp2
      refine ⟨fun _ => False, YU.out.setBox (by simp; omega) _, rfl, (setCell_other (by omega)).trans Y0.out, (setCell_other (by omega)).trans Y2.out, (setCell_other (by omega)).trans Y4.out, YB.out.setCell (p := ⟨w.heap.size + 1 + 1 + 1, 0, none⟩) (by simp; omega) _, _, _, HRN2.out, (setCell_other (by omega)).trans Y1.out, ?_⟩
      have := Boxed.set (.int .i64 ((V * 10 : Nat) : Int)) Y3.out
      rw [Int.natCast_mul] at this
      exact this
  case hdone =>
    rintro D S W hD ⟨rfl, e0, e2, e4, hb, L, U, hR, e1, e3⟩ hK
    have hLn := hR.len
    rw [HDL.out] at hLn
    have q2 := cell_blk e2 1
    have q0 := cell_blk e2 0
    have q5 := froz_blk e2 1
    have q6 := cell_blk e0 0
    have q7 := cell_blk e0 1
    have q8 := froz_blk e0 0
    have q9 := froz_blk e0 1
    have n1 : (w.heap.size + 1 + 1 = w.heap.size) = False := eq_false (by omega)
    have n2 : (w.heap.size = w.heap.size + 1 + 1) = False := eq_false (by omega)
    have HT := hide (trim_any (some ⟨w.heap.size + 1, 0, none⟩) n L W.heap.size W (by
      have := row_limbs e1 (by unfold maxLen; omega)
      rw [hLn] at this ⊢
      exact this) (by omega) (by omega))
    rw [hLn] at HT
    have HO := hide (row_owns (base := 0) e1 (Nat.zero_le _) (by unfold maxLen; omega))
    have HRD := hide hR; have HLn := hide hLn; have HBW := hide hb; have W0 := hide e0; have W2' := hide e2; have HK := hide hK
    have hlw : w.heap.size + 1 + 1 < W.heap.size := lt_blk e2
    clear hb e0 e1 e2 e3 e4 hR hLn hK
    gi_wp2_with fail
    refine ⟨trivial, rfl, (callsIn_wide.2 HT.out).mono ?_⟩
    rintro e w2 ⟨rfl, rfl⟩
    gi_wp2_with fail
    obtain ⟨Wa, hWa⟩ : ∃ Wa, Wa = W.setCell ⟨w.heap.size + 1 + 1, 1, none⟩ (.slice (some ⟨w.heap.size + 1, 0, none⟩) (trimTo L n) n) := ⟨_, rfl⟩
    rw [← hWa]
    have A0 : Wa.heap[w.heap.size]? = some (.cells #[.bool false, .slice none 0 0] 128 (0, 0)) := by rw [hWa]; exact (setCell_other (by omega)).trans W0.out
    have AD : Wa.heap[D]? = some (.deferred (some [])) := by rw [hWa]; exact (setCell_other (by omega)).trans HK.out
    have AB : Below w.heap.size w Wa := by rw [hWa]; exact HBW.out.setCell (p := ⟨w.heap.size + 1 + 1, 1, none⟩) (by simp; omega) _
    have AO : OwnL 0 Wa (.slice (some ⟨w.heap.size + 1, 0, none⟩) n n) L := by
      have h := HO.out
      rw [HLn.out] at h
      rw [hWa]
      exact owns_stay h (fun r hr => setCell_other (fun e => by
        have h2 : w.heap.size + 1 = r := by simpa [Value.ownBlock] using hr
        omega))
    obtain ⟨s1, s2⟩ := set2 A0 (.bool mi) (.slice (some ⟨w.heap.size + 1, 0, none⟩) (trimTo L n) n)
    have sD : ((Wa.setCell ⟨w.heap.size, 0, none⟩ (.bool mi)).setCell ⟨w.heap.size, 1, none⟩ (.slice (some ⟨w.heap.size + 1, 0, none⟩) (trimTo L n) n)).heap[D]? = some (.deferred (some [])) := (setCell_other (by omega)).trans ((setCell_other (by omega)).trans AD)
    refine ⟨by simp, .inl ⟨_, _, rfl, run_takeDeferred sD, ?_⟩⟩
    have sE : (((Wa.setCell ⟨w.heap.size, 0, none⟩ (.bool mi)).setCell ⟨w.heap.size, 1, none⟩ (.slice (some ⟨w.heap.size + 1, 0, none⟩) (trimTo L n) n)).putObj D (.deferred none)).heap[w.heap.size]? = some (.cells #[.bool mi, .slice (some ⟨w.heap.size + 1, 0, none⟩) (trimTo L n) n] 128 (0, 0)) := (World.putObj_heap_other (by omega)).trans s1
    refine ⟨_, exit_read sE rfl, _, rfl, (AB.trans (s2.mono (by omega))).trans (belowK_b (w := w) (Nat.le_refl _) _ D _ _ (by omega) sD rfl rfl), mi, _, trimL L, rfl, ?_, trimL_norm HRD.out.lt, ?_, ?_⟩
    · have hc := AO.cut (k := trimTo L n) (by rw [HLn.out]; exact trimTo_le _ _)
      have e3 : L.take (trimTo L n) = trimL L := by unfold trimL; rw [HLn.out]
      rw [e3] at hc
      exact owns_stay hc (fun r hr => (by
        have h2 : w.heap.size + 1 = r := by simpa [Value.ownBlock] using hr
        rw [World.putObj_heap_other (by omega), setCell_other (by omega), setCell_other (by omega)]))
    · rw [trimL_lv, HRD.out.val, HV.out, bytes_len, Nat.sub_self, List.drop_zero]
    · rw [trimL_len]
      have := trimTo_le L L.length
      have := HLn.out
      omega
end Go.Proofs.YtgddookioipjiaaGreatDoor
namespace Go.KP
open Go Go.RowKit

/-- From W to W2 no block of cells has come or turned, and no block below n. -/
structure Still (n : Nat) (W W2 : World) : Prop where
  os : W2.os = W.os
  tape : W2.tape = W.tape
  output : W2.output = W.output
  size : W.heap.size ≤ W2.heap.size
  old : ∀ (b : Nat) cs t fz, W.heap[b]? = some (Obj.cells cs t fz) → W2.heap[b]? = some (Obj.cells cs t fz)
  new : ∀ (b : Nat) cs t fz, W2.heap[b]? = some (Obj.cells cs t fz) → W.heap[b]? = some (Obj.cells cs t fz)
  kept : ∀ (b : Nat), b < n → b < W.heap.size → W2.heap[b]? = W.heap[b]?
theorem Still.refl (n : Nat) (W : World) : Still n W W := ⟨rfl, rfl, rfl, Nat.le_refl _, fun _ _ _ _ h => h, fun _ _ _ _ h => h, fun _ _ _ => rfl⟩
theorem Still.alloc {n : Nat} {a w : World} (h : Still n a w) {o : Obj} (ho : o.isCells = false) : Still n a (w.alloc o) := by
  refine ⟨h.os, h.tape, h.output, Nat.le_trans h.size (by simp), fun b cs t fz hb => ?_, fun b cs t fz hb => ?_, fun b hb hr => (Below.heap_alloc _ _ _ (by have := h.size; omega)).trans (h.kept b hb hr)⟩
  · have h1 := h.old b cs t fz hb
    exact (Below.heap_alloc _ _ _ (lt_blk h1)).trans h1
  · refine h.new b cs t fz ?_
    have hlt := lt_blk hb
    rw [World.size_alloc] at hlt
    rcases Nat.lt_or_ge b w.heap.size with h1 | h1
    · exact (Below.heap_alloc _ _ _ h1).symm.trans hb
    · exfalso
      obtain rfl : b = w.heap.size := by omega
      rw [World.alloc_heap_new] at hb
      injection hb with hb
      rw [hb] at ho
      cases ho
theorem Still.put {n : Nat} {W : World} {l : Nat} {r : Loop} (hn : n ≤ l) (h : W.heap[l]? = some (.loop r)) (r2 : Loop) : Still n W (W.putObj l (.loop r2)) := by
  refine ⟨rfl, rfl, rfl, by simp, fun b cs t fz hb => ?_, fun b cs t fz hb => ?_, fun b hb _ => World.putObj_heap_other (by omega)⟩
  · refine (World.putObj_heap_other (fun e => ?_)).trans hb
    subst e
    rw [h] at hb
    cases hb
  · by_cases e : b = l
    · subst e
      rw [World.putObj_heap_same (lt_blk h)] at hb
      cases hb
    · exact (World.putObj_heap_other e).symm.trans hb
/-- **An iterator's contract, by numbered rounds**: round k is handed 'encs k', k < N; it asks 'Ke k' of the world behind k rounds, and leaves the world as it is. -/
def IterPure (P : Program) (gf : Nat) (lb : Array Value) (encs : Nat → Array Value) (N : Nat) (Ke : Nat → World → Prop) : Prop :=
  ∀ (l : Nat) (J : Nat → (Nat → Prop) → World → Prop) (Jx : (Nat → Prop) → World → Prop) (S0 : Nat → Prop) (W : World),
    (∀ k S W1, k ≤ N → J k S W1 → Ke k W1) →
    (∀ k S W1, k < N → J k S W1 → W.heap.size ≤ W1.heap.size →
      YieldAt Fence.wide 0 P l (encs k) W1 fun e W2 => ∃ S', Upd W.heap.size S S' W1 W2 ∧
        ((e = .returned (.bool true) ∧ J (k + 1) S' W2) ∨ (e = .returned (.bool false) ∧ Jx S' W2))) →
    J 0 S0 W →
    CallsIn Fence.wide 0 P gf (#[.func (.yield l) #[] #[]] ++ lb) W fun e W2 => (∃ v, e = .returned v) ∧ ∃ S, J N S W2 ∨ Jx S W2
variable {P : Program}
/-- **The loop.** I k: what holds between two rounds, k of them over; Ix c: a round has left by the jump c. -/
theorem wp_iter_pure {g : Operand} {ps : Array Tmp} {assign body : Code} {Q : Exit → Act → World → Prop} {a : Act} {w : World}
    {gf : Nat} {lb : Array Value} (hg : a.eval g = .func (.func gf) #[] lb) (eg : ∀ args w, (callFunc gf args).run P w = .ok (.enter gf args) w)
    {encs : Nat → Array Value} {N : Nat} {Ke : Nat → World → Prop} {S0 : Nat → Prop} (hseq : IterPure P gf lb encs N Ke) (hps : ∀ k, (encs k).size = ps.size)
    (I : Nat → (Nat → Prop) → World → Prop) (Ix : Code → (Nat → Prop) → World → Prop) (hI : ∀ k S W W2, I k S W → Still w.heap.size W W2 → I k S W2) (hIx : ∀ c S W W2, Ix c S W → Still w.heap.size W W2 → Ix c S W2) (h0 : I 0 S0 w) (hke : ∀ k S W, k ≤ N → I k S W → Ke k W)
    (Ax : Nat → (Nat → Prop) → Act → World → Prop)
    (hAx : ∀ k S a1 W l r r2, Ax k S a1 W → W.heap[l]? = some (.loop r) → Ax k S a1 (W.putObj l (.loop r2)))
    (hassign : ∀ (l k : Nat) (S : Nat → Prop) (W : World) (K : Act → World → Prop), w.heap.size ≤ W.heap.size → (∀ b, S b → b < W.heap.size) → (∀ a1, Ax k S a1 W → K a1 W) →
      assign.wpIn (Fence.wide.inRound l) 0 P (Exit.then K (fun _ _ _ => False)) { tmps := (ps.zip (encs k)).foldl (fun t (p, v) => t.setIfInBounds p v) a.tmps, defers := [] } W)
    (hS : ∀ k S W, I k S W → ∀ b, S b → b < W.heap.size)
    (hbody : ∀ (l k : Nat) (S : Nat → Prop) (a1 : Act) (W : World), k < N → I k S W → Ax k S a1 W → w.heap.size ≤ W.heap.size →
      body.wpIn (Fence.wide.inRound l) 0 P (bodyEndOn w.heap.size (I (k + 1)) Ix S W) a1 W)
    (hdone : ∀ (D : Nat) (S : Nat → Prop) (W : World), w.heap.size ≤ D → I N S W → W.heap[D]? = some (.deferred (some [])) → Q .normal { a with defers := { target := .collected D, args := #[] } :: a.defers } W)
    (hstop : ∀ (D : Nat) (c : Code) (S : Nat → Prop) (W : World), w.heap.size ≤ D → Ix c S W → W.heap[D]? = some (.deferred (some [])) → c.wpIn Fence.wide 0 P Q { a with defers := { target := .collected D, args := #[] } :: a.defers } W) :
    (Code.rangeFunc g ps assign body).wpIn Fence.wide 0 P Q a w := by
  refine wpIn_rangeFunc ?_
  intro fn _
  obtain ⟨rec, hrec⟩ : ∃ rec : LoopState → Option Code → Loop, rec = fun st pe => { state := st, pending := pe, fn, tmps := a.tmps, params := ps, assign, body, defers := w.heap.size } := ⟨_, rfl⟩
  obtain ⟨W1, hW1⟩ : ∃ W1, (w.alloc (.deferred (some []))).alloc (.loop (rec .ready none)) = W1 := ⟨_, rfl⟩
  have hL1 : W1.heap[w.heap.size + 1]? = some (.loop (rec .ready none)) := by
    rw [← hW1]; have h := World.alloc_heap_new (w.alloc (.deferred (some []))) (.loop (rec .ready none)); rwa [World.size_alloc] at h
  have hK1 : W1.heap[w.heap.size]? = some (.deferred (some [])) := by
    rw [← hW1]; exact (Below.heap_alloc _ _ _ (by simp)).trans (World.alloc_heap_new w _)
  have hq1 : Still w.heap.size w W1 := by rw [← hW1]; exact ((Still.refl _ w).alloc rfl).alloc rfl
  have hs1 : W1.heap.size = w.heap.size + 2 := by rw [← hW1]; simp
  have inner : ∀ (i : Nat) (S S' : Nat → Prop) (W W2 : World), w.heap.size ≤ i → i < w.heap.size + 2 → i < W.heap.size → ¬ S i → Upd w.heap.size S S' W W2 → W2.heap[i]? = W.heap[i]? ∧ ¬ S' i := fun i S S' W W2 h1 _ h3 h4 hu => hu.block i h1 h3 h4
  refine ⟨w.heap.size + 1, [{ target := .collected w.heap.size, args := #[] }], W1, { target := .fn (.func gf) lb, args := #[.func (.yield (w.heap.size + 1)) #[] #[]] }, W1, gf,
    #[.func (.yield (w.heap.size + 1)) #[] #[]] ++ lb, W1, ?_, ?_, ?_, ?_, fun h => by simp [Fence.wide] at h, ?_⟩
  · rw [← hW1, hrec]; exact run_enterLoop_outer _ _ _ _ _
  · simp only [resolve, hg]
    simp [go_sem]
  · exact fun _ _ => trivial
  · simp [invoke, go_sem, eg]
  · refine (hseq (w.heap.size + 1)
      (fun k S W => I k S W ∧ ¬ S w.heap.size ∧ ¬ S (w.heap.size + 1) ∧ W1.heap.size ≤ W.heap.size ∧ W.heap[w.heap.size + 1]? = some (.loop (rec .ready none)) ∧ W.heap[w.heap.size]? = some (.deferred (some [])))
      (fun S W => ∃ c, Ix c S W ∧ ¬ S w.heap.size ∧ ¬ S (w.heap.size + 1) ∧ W1.heap.size ≤ W.heap.size ∧ W.heap[w.heap.size + 1]? = some (.loop (rec .done (some c))) ∧ W.heap[w.heap.size]? = some (.deferred (some [])))
      S0 W1 (fun k S W1 hk h => hke k S W1 hk h.1) ?_ ⟨hI 0 _ _ _ h0 hq1, (fun h => by have := hS 0 S0 w h0 _ h; omega), (fun h => by have := hS 0 S0 w h0 _ h; omega), Nat.le_refl _, hL1, hK1⟩).mono ?_
    · rintro k S W hkN ⟨hi, n1, n2, hsz, hl, hk⟩ _
      have hlt : w.heap.size + 1 < W.heap.size := (Array.getElem?_eq_some_iff.1 hl).1
      have hy := run_yield (P := P) (args := encs k) hl (by rw [hrec]; exact hps k)
      rw [hrec] at hy
      refine ⟨fn, _, assign, body, hy, roundIn_of_wpIn trivial (hassign _ k S W _ (by omega) (hS k S W hi) ?_)⟩
      intro a1 hax
      have hla := hl
      have hka := hk
      refine ⟨_, run_beginRound hla (by rw [hrec]), ?_⟩
      obtain ⟨W2, hW2⟩ : ∃ W2, W.putObj (w.heap.size + 1) (.loop { rec .ready none with state := .busy }) = W2 := ⟨_, rfl⟩
      have hq2 : Still w.heap.size W W2 := by rw [← hW2]; exact Still.put (by omega) hla _
      have hax2 : Ax k S a1 W2 := by rw [← hW2]; exact hAx _ _ _ _ _ _ _ hax hla
      have hl2 : W2.heap[w.heap.size + 1]? = some (.loop { rec .ready none with state := .busy }) := by rw [← hW2]; exact World.putObj_heap_same hlt
      have hk2 : W2.heap[w.heap.size]? = some (.deferred (some [])) := by rw [← hW2]; exact (World.putObj_heap_other (by omega)).trans hka
      have hs2 : W2.heap.size = W.heap.size := by rw [← hW2]; simp
      rw [hW2]
      refine wpIn_mono (hbody _ k S a1 W2 hkN (hI k _ _ _ hi hq2) hax2 (by omega)) ?_
      have fin : ∀ (jump : Option Code) (S' : Nat → Prop) (W3 : World), Upd w.heap.size S S' W2 W3 →
          ∃ W4, (Instr.endRound (w.heap.size + 1) jump).run P W3 = .ok (.bool jump.isNone) W4 ∧ Upd W1.heap.size S S' W W4 ∧ Still w.heap.size W3 W4 ∧
            ¬ S' w.heap.size ∧ ¬ S' (w.heap.size + 1) ∧ W1.heap.size ≤ W4.heap.size ∧
            W4.heap[w.heap.size + 1]? = some (.loop (rec (if jump.isNone then .ready else .done) jump)) ∧ W4.heap[w.heap.size]? = some (.deferred (some [])) := fun jump S' W3 hu => by
        have hl3 := (inner (w.heap.size + 1) _ _ _ _ (by omega) (by omega) (by omega) n2 hu)
        have hk3 := (inner w.heap.size _ _ _ _ (by omega) (by omega) (by omega) n1 hu)
        have hl4 := hl3.1.trans hl2
        have hs3 := hu.size
        have hr := run_endRound (P := P) jump hl4
        have e : ({ rec .ready none with state := if jump.isNone then LoopState.ready else LoopState.done, pending := jump } : Loop) = rec (if jump.isNone then .ready else .done) jump := by rw [hrec]
        simp only at hr
        rw [e] at hr
        have hq4 : Still w.heap.size W3 (W3.putObj (w.heap.size + 1) (.loop (rec (if jump.isNone then .ready else .done) jump))) := Still.put (by omega) hl4 _
        refine ⟨_, hr, ⟨by simp; omega, fun b hB hlt' hs' => ?_⟩, hq4, hk3.2, hl3.2, by simp; omega, World.putObj_heap_same (by omega), (World.putObj_heap_other (by omega)).trans (hk3.1.trans hk2)⟩
        · obtain ⟨g3, g4⟩ := hu.block b (by omega) (by omega) hs'
          refine ⟨(World.putObj_heap_other (by omega)).trans (g3.trans ?_), g4⟩
          rw [← hW2, World.putObj_heap_other (by omega)]
      rintro e a3 W3 hp
      cases e with
      | normal =>
        obtain ⟨S', hu, hi3⟩ := hp
        obtain ⟨W4, hr, hu4, hq4, m1, m2, m3, hl4, hk4⟩ := fin none S' W3 hu
        exact ⟨_, _, hr, S', hu4, .inl ⟨rfl, hI _ _ _ _ hi3 hq4, m1, m2, m3, hl4, hk4⟩⟩
      | ret =>
        obtain ⟨S', hu, hi3⟩ := hp
        obtain ⟨W4, hr, hu4, hq4, m1, m2, m3, hl4, hk4⟩ := fin (some .ret) S' W3 hu
        exact ⟨_, _, hr, S', hu4, .inr ⟨rfl, .ret, hIx _ _ _ _ hi3 hq4, m1, m2, m3, hl4, hk4⟩⟩
      | exit id =>
        obtain ⟨S', hu, hi3⟩ := hp
        obtain ⟨W4, hr, hu4, hq4, m1, m2, m3, hl4, hk4⟩ := fin (some (.exit id)) S' W3 hu
        exact ⟨_, _, hr, S', hu4, .inr ⟨rfl, .exit id, hIx _ _ _ _ hi3 hq4, m1, m2, m3, hl4, hk4⟩⟩
      | goto t =>
        obtain ⟨S', hu, hi3⟩ := hp
        obtain ⟨W4, hr, hu4, hq4, m1, m2, m3, hl4, hk4⟩ := fin (some (.goto t)) S' W3 hu
        exact ⟨_, _, hr, S', hu4, .inr ⟨rfl, .goto t, hIx _ _ _ _ hi3 hq4, m1, m2, m3, hl4, hk4⟩⟩
      | panic ch => exact hp.elim
      | outgrown => exact hp.elim
    · rintro e W2 ⟨⟨v, rfl⟩, S, (⟨hi, n1, n2, hsz, hl, hk⟩ | ⟨c, hi, n1, n2, hsz, hl, hk⟩)⟩
      · refine ⟨none, _, by have h := run_endLoop (P := P) hl (by rw [hrec]; simp); rw [hrec] at h; exact h, ?_⟩
        exact hdone _ S _ (Nat.le_refl _) (hI _ _ _ _ hi (Still.put (by omega) hl _)) ((World.putObj_heap_other (by omega)).trans hk)
      · refine ⟨some c, _, by have h := run_endLoop (P := P) hl (by rw [hrec]; simp); rw [hrec] at h; exact h, ?_⟩
        exact hstop _ c S _ (Nat.le_refl _) (hIx _ _ _ _ hi (Still.put (by omega) hl _)) ((World.putObj_heap_other (by omega)).trans hk)

end Go.KP
namespace Go.Proofs.YtgddookioipjiaaGreatDoor
open Go.RowKit Go.KP Go.KI Go.Shelf
attribute [local go_sem] Oper.semAt_some

set_option maxRecDepth 100000 in
set_option maxHeartbeats 1000000 in
theorem backPure_any (bx n c : Nat) (a : Option Addr) (f : Nat → Int) (hn : n ≤ 1000000) :
    IterPure Tryz.prog 208 #[.pointer (some ⟨bx, 0, none⟩)] (fun k => #[.int .i64 ((n : Int) - 1 - k), .int .i64 (f k)]) n (BackAt bx a n c f) := by
  intro l J Jx S0 W hKe hY h0
  refine callsIn_of_wp Tryz.func208 rfl trivial ?_ rfl
  simp only [Tryz.ntmps208, List.size_toArray, List.length_cons, List.length_nil, Nat.reduceAdd, Nat.reduceSub, Array.replicate_succ, Array.replicate_zero, List.push_toArray, List.append_toArray, List.nil_append, List.cons_append]
  have c0 := cell_blk (hKe 0 _ _ (Nat.zero_le _) h0).1 0
  have HY := hide hY; have H0 := hide h0; have HK := hide hKe
  clear hY h0 hKe
  gi_wp2
  clear c0
  gi_loopw [3] (fun i wr => ∃ (k : Nat) (S : Nat → Prop), k ≤ n ∧ i = .int .i64 ((n : Int) - 1 - k) ∧ Hid (J k S wr ∧ W.heap.size ≤ wr.heap.size)) (fun i _ => (intOf i + 1).toNat)
  case atStart => exact ⟨0, _, Nat.zero_le _, by simp, H0.out, Nat.le_refl _⟩
  case round =>
    obtain ⟨k, S, hk, rfl, hin⟩ := hrel
    obtain ⟨hbox, hcl⟩ := HK.out k S wr hk hin.out.1
    have c0 := cell_blk hbox 0
    by_cases hlt : k < n
    · obtain ⟨g, o, rfl, hcell⟩ := hcl hlt
      obtain ⟨m, hm⟩ : ∃ m : Nat, (n : Int) - 1 - (k : Int) = m := ⟨n - 1 - k, by omega⟩
      have hm2 : n - 1 - k = m := by omega
      rw [hm2] at hcell
      have hyy := HY.out k S wr hlt hin.out.1 hin.out.2
      rw [hm] at hyy ⊢
      obtain ⟨fn, tmps, assign, body, hy, hR⟩ := hyy
      have HR := hide hR
      have hm0 : (0 : Int) ≤ (m : Int) := by omega
      have hml : (m : Int) < (n : Int) := by omega
      have HM := hide hm; have HSZ := hide hin.out.2
      clear hR hm hm2 hin hcl hbox
      gi_wp2
      refine ⟨rfl, HR.out.mono ?_⟩
      rintro e W3 ⟨S3, hu3, (⟨rfl, hJ3⟩ | ⟨rfl, hJx3⟩)⟩
      · have HJ3 := hide (And.intro hJ3 (Nat.le_trans HSZ.out hu3.size))
        clear hu3 hJ3 hy HR
        gi_wp2
        go_roundw
        case rel => exact ⟨k + 1, S3, by omega, by have := HM.out; congr 1; omega, HJ3.out⟩
        case measure => simp [intOf]
      · clear hu3 hy HR
        gi_wp2
        refine bodyPost_ret (results_none rfl _ _ _) rfl ?_
        exact ⟨⟨_, rfl⟩, S3, .inr hJx3⟩
    · obtain rfl : k = n := by omega
      have hm : (k : Int) - 1 - (k : Int) = -1 := by omega
      rw [hm]
      clear hm hcl c0 hbox
      gi_wp2
      refine bodyPost_end (results_none rfl _ _ _) rfl ?_
      exact ⟨⟨_, rfl⟩, S, .inl hin.out.1⟩
theorem wByte (B b : Nat) (bs : List Value) (c : Int) (w : World) (h : Lib.IsBuilderF 145 5 B b bs w) (hlen : bs.length + 1 ≤ 140737488355328) (hBw : B ≤ w.heap.size) :
    Calls Tryz.prog 209 #[.pointer (some ⟨b, 0, none⟩), .int .u8 c] w fun e w' => e = .returned .nilIface ∧ (Lib.BuilderAtF 145 5 B b (.pointer (some ⟨b, 0, none⟩)) (bs ++ [.int .u8 c]) w' ∧ Below B w w' ∧ Lib.OthersKept 5 (some b) w w') := Any.Builder_WriteByte_k lays167 extra167 B b bs c w h hlen hBw
theorem wString (B b : Nat) (bs : List Value) (s : ByteArray) (w : World) (h : Lib.IsBuilderF 145 5 B b bs w) (hlen : bs.length + s.size ≤ 140737488355328) (hBw : B ≤ w.heap.size) :
    Calls Tryz.prog 132 #[.pointer (some ⟨b, 0, none⟩), .string s] w fun e w' => e = .returned (.tuple #[.int .i64 s.size, .nilIface]) ∧ (Lib.BuilderAtF 145 5 B b (.pointer (some ⟨b, 0, none⟩)) (bs ++ Lib.strCells s) w' ∧ Below B w w' ∧ Lib.OthersKept 5 (some b) w w') := Any.Builder_WriteString_k lays166 Tryz.Builder_Extra_105 B b bs s w h hlen hBw
theorem wGive (B b : Nat) (l : List UInt8) (w : World) (h : Lib.IsBuilderF 145 5 B b (Lib.byteCells l) w) (hBw : B ≤ w.heap.size) :
    Calls Tryz.prog 134 #[.pointer (some ⟨b, 0, none⟩)] w fun e w' => e = .returned (.string (strB l)) ∧ (Lib.IsBuilderF 145 5 B b (Lib.byteCells l) w' ∧ Below B w w' ∧ Lib.OthersKept 5 (some b) w w') := Any.Builder_String_any_k Tryz.lays169 Tryz.Builder_Extra_169 B b l w h hBw
/-- A builder stays where no block of its own has turned. -/
theorem builder_keep {T e : TypeId} {B b : Nat} {bs : List Value} {w w2 : World} (h : Lib.IsBuilderF T e B b bs w) (hb : ∀ (i : Nat) cs t fz, w.heap[i]? = some (Obj.cells cs t fz) → w2.heap[i]? = some (Obj.cells cs t fz)) : Lib.IsBuilderF T e B b bs w2 := by
  have key : ∀ p, Lib.BuilderAtF T e B b p bs w → Lib.BuilderAtF T e B b p bs w2 := by
    rintro p ⟨h1, v, h2, h3, h4⟩
    refine ⟨h1, v, hb _ _ _ _ h2, ⟨h3.1, h3.2.imp id ?_⟩, h4⟩
    rintro ⟨g, cap, cur, fz, hv, hg, hh, r⟩
    exact ⟨g, cap, cur, fz, hv, hg, hb _ _ _ _ hh, r⟩
  exact h.imp (key _) (key _)
theorem builder_new {w : World} {b : Nat} (h : w.heap[b]? = some (.cells #[.pointer none, .slice none 0 0] 145 (0, 0))) : Lib.IsBuilderF 145 5 b b [] w :=
  .inl ⟨Nat.le_refl _, _, h, World.ownsRowF_nil _ _ _ _, by simp [Value.ownBlock]⟩
/-- The builder, and all rows of bytes. -/
def SU (b : Nat) (W : World) : Nat → Prop := fun i => i = b ∨ ∃ cur fz, W.heap[i]? = some (.cells cur 5 fz)
theorem su_step {B b : Nat} {W W2 : World} (hs : W.heap.size ≤ W2.heap.size) (h : ∀ i o, W.heap[i]? = some o → i ≠ b → (∀ c fz, o ≠ .cells c 5 fz) → W2.heap[i]? = some o) : Upd B (SU b W) (SU b W2) W W2 := by
  refine ⟨hs, fun i _ hl hn => ?_⟩
  have h1 : W.heap[i]? = some W.heap[i] := Array.getElem?_eq_getElem hl
  have h2 := h i _ h1 (fun e => hn (.inl e)) (fun c fz e => hn (.inr ⟨c, fz, by rw [h1, e]⟩))
  refine ⟨h2.trans h1.symm, ?_⟩
  rintro (e | ⟨c, fz, hc⟩)
  · exact hn (.inl e)
  · exact hn (.inr ⟨c, fz, by rw [← hc, h2, h1]⟩)
theorem su_still {n b : Nat} {W W2 : World} (h : Still n W W2) : SU b W2 = SU b W := by
  funext i
  apply propext
  constructor
  · rintro (e | ⟨c, fz, hc⟩)
    · exact .inl e
    · exact .inr ⟨c, fz, h.new _ _ _ _ hc⟩
  · rintro (e | ⟨c, fz, hc⟩)
    · exact .inl e
    · exact .inr ⟨c, fz, h.old _ _ _ _ hc⟩
/-- The digits of the upper limbs. -/
def upText (l : List Nat) (k : Nat) : List UInt8 := if k = 0 then [] else Lib.decDigits (lv 1000000000 (l.drop (l.length - k)))
theorem up_zero (l : List Nat) : upText l 0 = [] := rfl
theorem up_all {l : List Nat} (h : l ≠ []) : upText l l.length = Lib.decDigits (lv 1000000000 l) := by
  unfold upText
  rw [if_neg (fun e => h (List.eq_nil_of_length_eq_zero e)), Nat.sub_self, List.drop_zero]
theorem drop_val {l : List Nat} {k : Nat} (hk : k < l.length) : lv 1000000000 (l.drop (l.length - (k + 1))) = lat l (l.length - 1 - k) + 1000000000 * lv 1000000000 (l.drop (l.length - k)) := by
  have h1 : l.drop (l.length - (k + 1)) = lat l (l.length - 1 - k) :: l.drop (l.length - k) := by
    rw [show l.length - (k + 1) = l.length - 1 - k by omega, List.drop_eq_getElem_cons (by omega), lat_at (by omega), show l.length - 1 - k + 1 = l.length - k by omega]
  rw [h1]
  rfl
theorem up_first {l : List Nat} (hl : 0 < l.length) : upText l 1 = Lib.decDigits (lat l (l.length - 1)) := by
  unfold upText
  rw [if_neg (by omega), drop_val hl, Nat.sub_zero, Nat.sub_zero, List.drop_length]
  rfl
theorem up_next {l : List Nat} (h : Norm 1000000000 l) {k : Nat} (hk : k < l.length) (h0 : 0 < k) :
    upText l (k + 1) = upText l k ++ (List.replicate (9 - (Lib.decDigits (lat l (l.length - 1 - k))).length) 48 ++ Lib.decDigits (lat l (l.length - 1 - k))) := by
  unfold upText
  rw [if_neg (by omega), if_neg (by omega), drop_val hk]
  have hp : 1 ≤ lv 1000000000 (l.drop (l.length - k)) := by
    have hne : l ≠ [] := fun e => by rw [e] at hk; simp at hk
    have ht := h.top.resolve_left hne
    have h1 := lv_split (b := 1000000000) (l := l.drop (l.length - k)) (i := k - 1) (by rw [List.length_drop]; omega)
    have h2 : lat (l.drop (l.length - k)) (k - 1) = lat l (l.length - 1) := by
      unfold lat
      rw [List.getElem?_drop, show l.length - k + (k - 1) = l.length - 1 by omega]
    rw [h2] at h1
    have h3 : 1000000000 ^ (k - 1) * 1 ≤ 1000000000 ^ (k - 1) * (lat l (l.length - 1) + 1000000000 * lv 1000000000 ((l.drop (l.length - k)).drop (k - 1 + 1))) := Nat.mul_le_mul_left _ (by omega)
    have h4 : 0 < 1000000000 ^ (k - 1) := Nat.pow_pos (by omega)
    omega
  have e := dec_split (q := lv 1000000000 (l.drop (l.length - k))) (r := lat l (l.length - 1 - k)) (k := 9) hp (by have := lat_lt (by omega) h.lt (l.length - 1 - k); simpa using this) (by omega)
  rw [← e]
  congr 1
  have : (10 : Nat) ^ 9 = 1000000000 := by decide
  rw [this]
  omega
end Go.Proofs.YtgddookioipjiaaGreatDoor
namespace Go.Proofs.YtgddookioipjiaaGreatDoor
open Go.RowKit Go.KP Go.KI Go.Shelf
attribute [local go_sem] Oper.semAt_some

theorem dec9 {n : Nat} (h : n < 1000000000) : (Lib.decDigits n).length ≤ 9 := (dec_len_le (by omega)).2 (by simpa using h)
theorem up_len {l : List Nat} (h : Norm 1000000000 l) : ∀ k, k ≤ l.length → (upText l k).length ≤ 9 * k := by
  intro k
  induction k with
  | zero => intro _; simp [up_zero]
  | succ k ih =>
    intro hk
    have h9 := dec9 (lat_lt (by omega) h.lt (l.length - 1 - k))
    rcases Nat.eq_zero_or_pos k with h0 | h0
    · subst h0
      rw [up_first (by omega)]
      have : l.length - 1 - 0 = l.length - 1 := by omega
      rw [this] at h9
      omega
    · rw [up_next h (by omega) h0]
      have := ih (by omega)
      simp only [List.length_append, List.length_replicate]
      omega
theorem repeat48 (c : Nat) : Lib.repeatL [48] c = List.replicate c 48 := by
  induction c with
  | zero => rfl
  | succ n ih => simp [Lib.repeatL, ih, List.replicate_succ]
theorem valS_itoa {m : Bool} {n : Nat} (h : 1 ≤ n) : Lib.itoa (valS m n) = (if m then [45] else []) ++ Lib.decDigits n := by
  cases m
  · show Lib.itoa (n : Int) = _
    rw [Lib.itoa_nonneg]
    rfl
  · show Lib.itoa (-(n : Int)) = _
    rw [Lib.itoa_neg n h]
    rfl
theorem byteCells_app (a b : List UInt8) : Lib.byteCells a ++ Lib.strCells (strB b) = Lib.byteCells (a ++ b) := by
  rw [show Lib.strCells (strB b) = Lib.byteCells b from rfl]
  simp [Lib.byteCells]
theorem byteCells_len (a : List UInt8) : (Lib.byteCells a).length = a.length := by simp [Lib.byteCells]
theorem strCells_len (s : ByteArray) : (Lib.strCells s).length = s.size := by
  show (Lib.byteCells s.data.toList).length = _
  rw [byteCells_len, bytes_len]
theorem builder_lt {T e : TypeId} {B b : Nat} {bs : List Value} {w : World} (h : Lib.IsBuilderF T e B b bs w) : b < w.heap.size := by
  rcases h with ⟨_, v, h2, _⟩ | ⟨_, v, h2, _⟩ <;> exact lt_blk h2
theorem ok_box {bb i : Nat} {W W2 : World} {cs : Array Value} (h : Lib.OthersKept 5 (some bb) W W2) (hi : i ≠ bb) (hb : W.heap[i]? = some (.cells cs 40 (0, 0))) : W2.heap[i]? = some (.cells cs 40 (0, 0)) :=
  h i _ hb (fun e => hi (Option.some.inj e)) (fun c fz e => by injection e with _ e _; exact absurd e (by decide))
set_option maxRecDepth 100000 in
set_option maxHeartbeats 4000000 in
theorem write_any (m : Bool) (v : Value) (l : List Nat) (B : Nat) (w : World) (h : LimbAt B w v l) (hB : B ≤ w.heap.size) (hn : Norm 1000000000 l) (hl : l.length ≤ 100000) (hT : P10 B w) :
    Calls Tryz.prog 178 #[numV m v] w (Ret w (.string (strB (Lib.itoa (valS m (lv 1000000000 l)))))) := by
  obtain ⟨a0, c0, hv⟩ := h.form
  subst hv
  have HL := hide h; have HN := hide hn; have HT := hide hT
  clear h hn hT
  obtain ⟨n, hnn⟩ : ∃ n, n = l.length := ⟨_, rfl⟩
  have HNN := hide hnn
  rw [← hnn] at hl ⊢
  clear hnn
  obtain ⟨b0, bs0, bb0⟩ := heap1 w (.cells #[.bool m, .slice a0 n c0] 128)
  refine (callsIn_wide (n := 0)).1 ?_
  refine callsIn_of_wp_marks Tryz.func178 rfl trivial ?_ rfl
  simp only [Tryz.ntmps178, List.size_toArray, List.length_cons, List.length_nil, Nat.reduceAdd, Nat.reduceSub, Array.replicate_succ, Array.replicate_zero, List.push_toArray, List.append_toArray, List.nil_append, List.cons_append]
  by_cases h0 : n = 0
  · have hnil : l = [] := List.eq_nil_of_length_eq_zero (HNN.out.symm.trans h0)
    have hq : ((n : Int) == 0) = true := by rw [h0]; rfl
    have HE := hide (show Lib.itoa (valS m (lv 1000000000 l)) = [48] by
      rw [hnil, lv_nil]
      cases m <;> exact itoa_zero)
    have BB := hide bb0
    clear h0 hnil b0 bs0 bb0
    gi_wp2_with fail
    rw [HE.out]
    exact ⟨_, results_tmp rfl _ _ _, rfl, BB.out⟩
  · have hq : ((n : Int) == 0) = false := by simpa using h0
    obtain ⟨b1, bs1, bb1⟩ := heap1 (w.alloc (.cells #[.bool m, .slice a0 n c0] 128)) (.cells #[.pointer none, .slice none 0 0] 145)
    obtain ⟨w1, hw1⟩ : ∃ w1, (w.alloc (.cells #[.bool m, .slice a0 n c0] 128)).alloc (.cells #[.pointer none, .slice none 0 0] 145) = w1 := ⟨_, rfl⟩
    have e0 := below_blk bb1 b0 (by omega)
    have eb := bb0.trans (bb1.mono (by omega))
    rw [hw1] at b1 bs1 e0 eb
    rw [bs0] at b1 bs1
    have E0 := hide e0; have E1 := hide (builder_new b1); have EB := hide eb
    have c1 := cell_blk e0 0
    have c2 := cell_blk e0 1
    have hs1 : w.heap.size + 2 ≤ w1.heap.size := by omega
    clear b0 bs0 bb0 b1 bs1 bb1 e0 eb
    obtain ⟨pre, hpre⟩ : ∃ pre : List UInt8, pre = if m then [45] else [] := ⟨_, rfl⟩
    have HPRE := hide hpre
    have hne : l ≠ [] := fun e => h0 (by rw [HNN.out, e]; rfl)
    have hpos : 1 ≤ lv 1000000000 l := by
      have h1 := HN.out.ge hne
      have h2 : 0 < 1000000000 ^ (l.length - 1) := Nat.pow_pos (by omega)
      omega
    have HTX := hide (show Lib.itoa (valS m (lv 1000000000 l)) = pre ++ upText l n by rw [valS_itoa hpos, ← hpre, HNN.out, up_all hne])
    clear hpos hne
    have hpl : pre.length ≤ 1 := by rw [hpre]; cases m <;> simp
    clear hpre
    cases m
    case' true =>
      gi_wp2_with fail
      refine ⟨trivial, rfl, (callsIn_wide.2 (wByte (w.heap.size + 1) (w.heap.size + 1) [] 45 w1 E1.out (by simp) (by omega))).mono ?_⟩
      rintro e w2 ⟨rfl, hb2, bl2, ok2⟩
      have E0' := hide (show w2.heap[w.heap.size]? = some (.cells #[.bool true, .slice a0 n c0] 128 (0, 0)) from below_blk bl2 E0.out (by omega))
      have E1' := hide (show Lib.IsBuilderF 145 5 (w.heap.size + 1) (w.heap.size + 1) (Lib.byteCells pre) w2 by rw [HPRE.out]; exact .inr hb2)
      have EB' := hide (EB.out.trans (bl2.mono (by omega)))
      have hs1' : w.heap.size + 2 ≤ w2.heap.size := by have := bl2.size; omega
      clear hb2 bl2 ok2 E0 E1 EB c1 c2 hs1 hw1
      obtain ⟨w1, rfl⟩ : ∃ x, x = w2 := ⟨_, rfl⟩
      have E0 := E0'; have E1 := E1'; have EB := EB'; have hs1 := hs1'
      clear E0' E1' EB' hs1'
      have c1 := cell_blk E0.out 0
      have c2 := cell_blk E0.out 1
      gi_wp2_with fail
    case' false =>
      have E1' := hide (show Lib.IsBuilderF 145 5 (w.heap.size + 1) (w.heap.size + 1) (Lib.byteCells pre) w1 by rw [HPRE.out]; exact E1.out)
      clear E1
      have E1 := E1'
      clear E1'
      gi_wp2_with fail
      clear hw1
    all_goals
      refine ⟨trivial, rfl, (callsIn_wide.2 (backward_any a0 n c0 w1)).mono ?_⟩
      rintro e w3 ⟨rfl, hw3⟩
      obtain ⟨b3, bs3, bb3⟩ := heap1 w1 (.cells #[.slice a0 n c0] 40)
      rw [hw3] at b3 bs3 bb3
      have F0 := hide (below_blk bb3 E0.out (by omega))
      have F1 := hide (show Lib.IsBuilderF 145 5 (w.heap.size + 1) (w.heap.size + 1) (Lib.byteCells pre) w3 from builder_keep E1.out (fun i cs t fz h => below_blk bb3 h (lt_blk h)))
      have F2 := hide b3; have FB := hide (EB.out.trans (bb3.mono (by omega)))
      have hs3 : w1.heap.size < w3.heap.size := by omega
      clear b3 bs3 bb3 E0 E1 EB c1 c2
      gi_wp2_with fail
    case neg.false =>
      refine wp_iter_pure (gf := 208) (lb := #[.pointer (some ⟨w1.heap.size, 0, none⟩)]) rfl (enters_of Tryz.func208 (by kernel_rfl) rfl) (backPure_any w1.heap.size n c0 a0 (fun k => (lat l (n - 1 - k) : Nat)) (by omega)) (fun _ => rfl)
        (fun k S W => S = SU (w.heap.size + 1) W ∧ Lib.IsBuilderF 145 5 (w.heap.size + 1) (w.heap.size + 1) (Lib.byteCells (pre ++ upText l k)) W ∧ W.heap[w.heap.size]? = some (.cells #[.bool false, .slice a0 n c0] 128 (0, 0)) ∧ W.heap[w1.heap.size]? = some (.cells #[.slice a0 n c0] 40 (0, 0)) ∧ Below w.heap.size w W)
        (fun _ _ _ => False) ?hI (fun _ _ _ _ h _ => h) (S0 := SU (w.heap.size + 1) w3) ?h0 ?hke
        (fun k S a1' W => a1' = { tmps := #[numV false (.slice a0 n c0), .pointer (some ⟨w.heap.size, 0, none⟩), .string ⟨#[]⟩, .pointer (some ⟨w.heap.size + 1, 0, none⟩), .int .i64 ((n : Int) - 1 - k), .int .i64 (lat l (n - 1 - k)), undef, .pointer (some ⟨w.heap.size, 1, none⟩), .slice a0 n c0, .int .i64 n, .bool false, .pointer (some ⟨w.heap.size, 0, none⟩), .bool false, undef, .pointer (some ⟨w.heap.size, 1, none⟩), .slice a0 n c0, .func (.func 208) #[] #[.pointer (some ⟨w1.heap.size, 0, none⟩)], .int .i64 ((n : Int) - 1 - k), .int .i64 (lat l (n - 1 - k)), undef, undef, undef, undef, undef, undef, undef, undef, undef, undef, undef, undef, undef, undef, undef, undef], defers := [] })
        ?hAx ?hassign ?hS ?hbody ?hdone ?hstop
      case hI =>
        rintro k S W W2 ⟨rfl, h1, h2, h3, h4⟩ hq
        exact ⟨(su_still hq).symm, builder_keep h1 hq.old, hq.old _ _ _ _ h2, hq.old _ _ _ _ h3, ⟨h4.os.symm ▸ hq.os, h4.tape.symm ▸ hq.tape, h4.output.symm ▸ hq.output, Nat.le_trans h4.size hq.size, fun j hj => (hq.kept j (by omega) (by have := h4.size; omega)).trans (h4.block j hj)⟩⟩
      case h0 =>
        refine ⟨rfl, ?_, F0.out, F2.out, FB.out⟩
        rw [up_zero, List.append_nil]
        exact F1.out
      case hke =>
        rintro k S W hk ⟨rfl, h1, h2, h3, h4⟩
        refine ⟨h3, fun hlt => ?_⟩
        have hL := HL.out
        rw [← HNN.out] at hL
        rcases LimbAt.cases (l := l) (by rw [HNN.out] at hL; exact hL) with ⟨a, c, e1, e2⟩ | ⟨g, o, cap, e1, e2, e3⟩
        · subst e2
          have := HNN.out
          simp at this
          omega
        · injection e1 with e1 _ _
          refine ⟨g, o, e1, ?_⟩
          have h5 := e3 (n - 1 - k) (by rw [← HNN.out]; omega)
          have h6 : W.heap[g]? = w.heap[g]? := h4.block g (by omega)
          rw [← h5]
          simp [World.cell?, h6]
      case hAx =>
        rintro k S a1' W l r r2 h _
        exact h
      case hassign =>
        intro lp k S W K hsz hSlt hK
        have HK := hide hK
        clear hK
        gi_wp2
        exact HK.out _ rfl
      case hS =>
        rintro k S W ⟨rfl, h1, _⟩ b (rfl | ⟨cur, fz, hb⟩)
        · exact builder_lt h1
        · exact lt_blk hb
      case hstop =>
        intro D c S W _ h
        exact h.elim
      case hbody =>
        rintro lp k S a1' W hk ⟨rfl, h1, h2, h3, h4⟩ rfl hsz
        obtain ⟨d, hd⟩ : ∃ d, d = lat l (n - 1 - k) := ⟨_, rfl⟩
        rw [← hd]
        have hdl : d < 1000000000 := by rw [hd]; exact lat_lt (by omega) HN.out.lt _
        obtain ⟨t, ht⟩ : ∃ t, t = strB (Lib.itoa d) := ⟨_, rfl⟩
        have htb : strB (Lib.decDigits d) = t := by rw [ht, Lib.itoa_nonneg]
        have hts : t.size ≤ 9 := by rw [← htb, strB_size]; exact dec9 hdl
        have hlen : (Lib.byteCells (pre ++ upText l k)).length ≤ 1 + 9 * k := by
          rw [byteCells_len, List.length_append]
          have := up_len HN.out k (by rw [← HNN.out]; omega)
          omega
        have hTW : P10 B W := fun w' hb => HT.out w' ((h4.mono hB).trans hb)
        have hsz1 : w.heap.size + 1 < W.heap.size := by omega
        have c1 := cell_blk h2 0
        have c2 := cell_blk h2 1
        have G1 := hide h1; have G2 := hide h2; have G3 := hide h3; have G4 := hide h4; have HTW := hide hTW; have HD := hide hd; have HTT := hide ht; have HTB := hide htb; have HLN := hide hlen
        clear h1 h2 h3 h4 hTW hd ht htb F0 F1 F2 FB hw3 hlen
        gi_wp2_with fail
        refine ⟨trivial, rfl, (CallsIn.inRound lp (callsIn_wide.2 (itoa_any d (by omega) (by omega) B W HTW.out))).mono ?_⟩
        rw [← HTT.out]
        rintro e W2 ⟨rfl, hb2⟩
        have K1 := hide (builder_keep G1.out (fun i cs t fz h => below_blk hb2 h (lt_blk h)))
        have K2 := hide (below_blk hb2 G2.out (lt_blk G2.out)); have K3 := hide (below_blk hb2 G3.out (lt_blk G3.out)); have K4 := hide (G4.out.trans (hb2.mono (by omega)))
        have hsz2 : W.heap.size ≤ W2.heap.size := hb2.size
        have KB := hide hb2
        have c1 := cell_blk K2.out 0
        have c2 := cell_blk K2.out 1
        clear hb2 G1 G2 G3 G4 HTW
        by_cases hk0 : k = 0
        · have hte : ((n : Int) - 1 - (k : Int) < (n : Int) - 1) = False := eq_false (by omega)
          gi_wp2_with fail
          refine ⟨trivial, rfl, (CallsIn.inRound lp (callsIn_wide.2 (wString (w.heap.size + 1) (w.heap.size + 1) _ t W2 K1.out (by have := HLN.out; omega) (by omega)))).mono ?_⟩
          rintro e W4 ⟨rfl, hf, bl4, ok4⟩
          have HF := hide hf; have BL := hide bl4; have OK := hide ok4
          clear hf bl4 ok4
          gi_wp2_with fail
          refine ⟨_, su_step (b := w.heap.size + 1) (Nat.le_trans hsz2 BL.out.size) (fun i o hi hib hio => OK.out i o (below_blk KB.out hi (lt_blk hi)) (by intro e; injection e with e; exact hib e) hio), rfl, ?_, below_blk BL.out K2.out (by omega), ok_box OK.out (by omega) K3.out, K4.out.trans (BL.out.mono (by omega))⟩
          have h1 := HF.out
          rw [← HTB.out, byteCells_app, hk0, up_zero, List.append_nil, HD.out, hk0] at h1
          rw [hk0, up_first (by rw [← HNN.out]; omega), ← HNN.out]
          exact .inr h1
        · have hte : (n : Int) - 1 - (k : Int) < (n : Int) - 1 := by omega
          obtain ⟨q, hq9⟩ : ∃ q : Nat, (9 : Int) - (t.size : Int) = (q : Int) := ⟨9 - t.size, by omega⟩
          have HQ := hide (show q = 9 - t.size by omega)
          have hqs : q ≤ 9 := by omega
          gi_wp2_with fail
          clear hq9
          refine ⟨trivial, rfl, (CallsIn.inRound lp (callsIn_wide.2 (repeat_any ⟨#[48]⟩ q W2 (by omega) (by decide)))).mono ?_⟩
          rw [show (⟨#[48]⟩ : ByteArray).data.toList = [48] from rfl, repeat48]
          rintro e W3 ⟨rfl, hb3⟩
          have L1 := hide (builder_keep K1.out (fun i cs t fz h => below_blk hb3 h (lt_blk h)))
          have L2 := hide (below_blk hb3 K2.out (lt_blk K2.out)); have L3 := hide (below_blk hb3 K3.out (lt_blk K3.out)); have L4 := hide (K4.out.trans (hb3.mono (by omega)))
          have hsz3 : W2.heap.size ≤ W3.heap.size := hb3.size
          have LB := hide hb3
          obtain ⟨z, hz⟩ : ∃ z, z = strB (List.replicate q 48) := ⟨_, rfl⟩
          rw [← hz]
          have hzs : z.size ≤ 9 := by rw [hz, strB_size]; simp; omega
          have HZ := hide hz
          clear hb3 K1 K2 K3 K4 c1 c2 hz
          gi_wp2_with fail
          refine ⟨trivial, rfl, (CallsIn.inRound lp (callsIn_wide.2 (wString (w.heap.size + 1) (w.heap.size + 1) _ z W3 L1.out (by have := HLN.out; omega) (by omega)))).mono ?_⟩
          rintro e W4 ⟨rfl, hf, bl4, ok4⟩
          have HF := hide (show Lib.IsBuilderF 145 5 (w.heap.size + 1) (w.heap.size + 1) _ W4 from .inr hf); have BL := hide bl4; have OK := hide ok4
          have hsz4 : W3.heap.size ≤ W4.heap.size := bl4.size
          clear hf bl4 ok4
          gi_wp2_with fail
          refine ⟨trivial, rfl, (CallsIn.inRound lp (callsIn_wide.2 (wString (w.heap.size + 1) (w.heap.size + 1) _ t W4 HF.out (by have := HLN.out; rw [List.length_append, strCells_len z]; omega) (by omega)))).mono ?_⟩
          rintro e W5 ⟨rfl, hf, bl5, ok5⟩
          have HF2 := hide hf; have BL5 := hide bl5; have OK5 := hide ok5
          clear hf bl5 ok5
          gi_wp2_with fail
          refine ⟨_, su_step (b := w.heap.size + 1) (Nat.le_trans hsz2 (Nat.le_trans hsz3 (Nat.le_trans hsz4 BL5.out.size))) (fun i o hi hib hio => OK5.out i o (OK.out i o (below_blk LB.out (below_blk KB.out hi (lt_blk hi)) (by have := lt_blk hi; omega)) (by intro e; injection e with e; exact hib e) hio) (by intro e; injection e with e; exact hib e) hio), rfl, ?_, below_blk BL5.out (below_blk BL.out L2.out (by omega)) (by omega), ok_box OK5.out (by omega) (ok_box OK.out (by omega) L3.out), L4.out.trans ((BL.out.mono (by omega)).trans (BL5.out.mono (by omega)))⟩
          have h1 := HF2.out
          rw [HZ.out, byteCells_app, ← HTB.out, byteCells_app, HQ.out, ← HTB.out, strB_size, HD.out, HNN.out] at h1
          rw [up_next HN.out (by rw [← HNN.out]; omega) (by omega)]
          rw [List.append_assoc, List.append_assoc] at h1
          exact .inr h1
      case hdone =>
        rintro D S W hD ⟨rfl, h1, h2, h3, h4⟩ hDf
        have G1 := hide h1; have G4 := hide h4; have GD := hide hDf
        have hsz1 : w.heap.size + 1 < W.heap.size := by have := lt_blk hDf; omega
        clear h1 h2 h3 h4 hDf F0 F1 F2 FB hw3
        gi_wp2_with fail
        refine ⟨trivial, rfl, (callsIn_wide.2 (wGive (w.heap.size + 1) (w.heap.size + 1) (pre ++ upText l n) W G1.out (by omega))).mono ?_⟩
        rintro e W2 ⟨rfl, hf, bl, ok⟩
        have BL := hide bl
        have GD2 := hide (ok D _ GD.out (by intro e; injection e with e; omega) (fun c fz e => by cases e))
        clear hf bl ok
        gi_wp2_with fail
        refine ⟨by simp, .inl ⟨_, _, rfl, run_takeDeferred GD2.out, ?_⟩⟩
        refine ⟨_, results_tmp rfl _ _ _, ?_, ?_⟩
        · rw [HTX.out]
          rfl
        · exact G4.out.trans ((BL.out.mono (by omega)).trans (belowK_b (w := w) (Nat.le_refl _) _ D _ _ (by omega) GD2.out rfl rfl))
    case neg.true =>
      refine wp_iter_pure (gf := 208) (lb := #[.pointer (some ⟨w1.heap.size, 0, none⟩)]) rfl (enters_of Tryz.func208 (by kernel_rfl) rfl) (backPure_any w1.heap.size n c0 a0 (fun k => (lat l (n - 1 - k) : Nat)) (by omega)) (fun _ => rfl)
        (fun k S W => S = SU (w.heap.size + 1) W ∧ Lib.IsBuilderF 145 5 (w.heap.size + 1) (w.heap.size + 1) (Lib.byteCells (pre ++ upText l k)) W ∧ W.heap[w.heap.size]? = some (.cells #[.bool true, .slice a0 n c0] 128 (0, 0)) ∧ W.heap[w1.heap.size]? = some (.cells #[.slice a0 n c0] 40 (0, 0)) ∧ Below w.heap.size w W)
        (fun _ _ _ => False) ?hI (fun _ _ _ _ h _ => h) (S0 := SU (w.heap.size + 1) w3) ?h0 ?hke
        (fun k S a1' W => a1' = { tmps := #[numV true (.slice a0 n c0), .pointer (some ⟨w.heap.size, 0, none⟩), .string ⟨#[]⟩, .pointer (some ⟨w.heap.size + 1, 0, none⟩), .int .i64 ((n : Int) - 1 - k), .int .i64 (lat l (n - 1 - k)), undef, .pointer (some ⟨w.heap.size, 1, none⟩), .slice a0 n c0, .int .i64 n, .bool false, .pointer (some ⟨w.heap.size, 0, none⟩), .bool true, .nilIface, .pointer (some ⟨w.heap.size, 1, none⟩), .slice a0 n c0, .func (.func 208) #[] #[.pointer (some ⟨w1.heap.size, 0, none⟩)], .int .i64 ((n : Int) - 1 - k), .int .i64 (lat l (n - 1 - k)), undef, undef, undef, undef, undef, undef, undef, undef, undef, undef, undef, undef, undef, undef, undef, undef], defers := [] })
        ?hAx ?hassign ?hS ?hbody ?hdone ?hstop
      case hI =>
        rintro k S W W2 ⟨rfl, h1, h2, h3, h4⟩ hq
        exact ⟨(su_still hq).symm, builder_keep h1 hq.old, hq.old _ _ _ _ h2, hq.old _ _ _ _ h3, ⟨h4.os.symm ▸ hq.os, h4.tape.symm ▸ hq.tape, h4.output.symm ▸ hq.output, Nat.le_trans h4.size hq.size, fun j hj => (hq.kept j (by omega) (by have := h4.size; omega)).trans (h4.block j hj)⟩⟩
      case h0 =>
        refine ⟨rfl, ?_, F0.out, F2.out, FB.out⟩
        rw [up_zero, List.append_nil]
        exact F1.out
      case hke =>
        rintro k S W hk ⟨rfl, h1, h2, h3, h4⟩
        refine ⟨h3, fun hlt => ?_⟩
        have hL := HL.out
        rw [← HNN.out] at hL
        rcases LimbAt.cases (l := l) (by rw [HNN.out] at hL; exact hL) with ⟨a, c, e1, e2⟩ | ⟨g, o, cap, e1, e2, e3⟩
        · subst e2
          have := HNN.out
          simp at this
          omega
        · injection e1 with e1 _ _
          refine ⟨g, o, e1, ?_⟩
          have h5 := e3 (n - 1 - k) (by rw [← HNN.out]; omega)
          have h6 : W.heap[g]? = w.heap[g]? := h4.block g (by omega)
          rw [← h5]
          simp [World.cell?, h6]
      case hAx =>
        rintro k S a1' W l r r2 h _
        exact h
      case hassign =>
        intro lp k S W K hsz hSlt hK
        have HK := hide hK
        clear hK
        gi_wp2
        exact HK.out _ rfl
      case hS =>
        rintro k S W ⟨rfl, h1, _⟩ b (rfl | ⟨cur, fz, hb⟩)
        · exact builder_lt h1
        · exact lt_blk hb
      case hstop =>
        intro D c S W _ h
        exact h.elim
      case hbody =>
        rintro lp k S a1' W hk ⟨rfl, h1, h2, h3, h4⟩ rfl hsz
        obtain ⟨d, hd⟩ : ∃ d, d = lat l (n - 1 - k) := ⟨_, rfl⟩
        rw [← hd]
        have hdl : d < 1000000000 := by rw [hd]; exact lat_lt (by omega) HN.out.lt _
        obtain ⟨t, ht⟩ : ∃ t, t = strB (Lib.itoa d) := ⟨_, rfl⟩
        have htb : strB (Lib.decDigits d) = t := by rw [ht, Lib.itoa_nonneg]
        have hts : t.size ≤ 9 := by rw [← htb, strB_size]; exact dec9 hdl
        have hlen : (Lib.byteCells (pre ++ upText l k)).length ≤ 1 + 9 * k := by
          rw [byteCells_len, List.length_append]
          have := up_len HN.out k (by rw [← HNN.out]; omega)
          omega
        have hTW : P10 B W := fun w' hb => HT.out w' ((h4.mono hB).trans hb)
        have hsz1 : w.heap.size + 1 < W.heap.size := by omega
        have c1 := cell_blk h2 0
        have c2 := cell_blk h2 1
        have G1 := hide h1; have G2 := hide h2; have G3 := hide h3; have G4 := hide h4; have HTW := hide hTW; have HD := hide hd; have HTT := hide ht; have HTB := hide htb; have HLN := hide hlen
        clear h1 h2 h3 h4 hTW hd ht htb F0 F1 F2 FB hw3 hlen
        gi_wp2_with fail
        refine ⟨trivial, rfl, (CallsIn.inRound lp (callsIn_wide.2 (itoa_any d (by omega) (by omega) B W HTW.out))).mono ?_⟩
        rw [← HTT.out]
        rintro e W2 ⟨rfl, hb2⟩
        have K1 := hide (builder_keep G1.out (fun i cs t fz h => below_blk hb2 h (lt_blk h)))
        have K2 := hide (below_blk hb2 G2.out (lt_blk G2.out)); have K3 := hide (below_blk hb2 G3.out (lt_blk G3.out)); have K4 := hide (G4.out.trans (hb2.mono (by omega)))
        have hsz2 : W.heap.size ≤ W2.heap.size := hb2.size
        have KB := hide hb2
        have c1 := cell_blk K2.out 0
        have c2 := cell_blk K2.out 1
        clear hb2 G1 G2 G3 G4 HTW
        by_cases hk0 : k = 0
        · have hte : ((n : Int) - 1 - (k : Int) < (n : Int) - 1) = False := eq_false (by omega)
          gi_wp2_with fail
          refine ⟨trivial, rfl, (CallsIn.inRound lp (callsIn_wide.2 (wString (w.heap.size + 1) (w.heap.size + 1) _ t W2 K1.out (by have := HLN.out; omega) (by omega)))).mono ?_⟩
          rintro e W4 ⟨rfl, hf, bl4, ok4⟩
          have HF := hide hf; have BL := hide bl4; have OK := hide ok4
          clear hf bl4 ok4
          gi_wp2_with fail
          refine ⟨_, su_step (b := w.heap.size + 1) (Nat.le_trans hsz2 BL.out.size) (fun i o hi hib hio => OK.out i o (below_blk KB.out hi (lt_blk hi)) (by intro e; injection e with e; exact hib e) hio), rfl, ?_, below_blk BL.out K2.out (by omega), ok_box OK.out (by omega) K3.out, K4.out.trans (BL.out.mono (by omega))⟩
          have h1 := HF.out
          rw [← HTB.out, byteCells_app, hk0, up_zero, List.append_nil, HD.out, hk0] at h1
          rw [hk0, up_first (by rw [← HNN.out]; omega), ← HNN.out]
          exact .inr h1
        · have hte : (n : Int) - 1 - (k : Int) < (n : Int) - 1 := by omega
          obtain ⟨q, hq9⟩ : ∃ q : Nat, (9 : Int) - (t.size : Int) = (q : Int) := ⟨9 - t.size, by omega⟩
          have HQ := hide (show q = 9 - t.size by omega)
          have hqs : q ≤ 9 := by omega
          gi_wp2_with fail
          clear hq9
          refine ⟨trivial, rfl, (CallsIn.inRound lp (callsIn_wide.2 (repeat_any ⟨#[48]⟩ q W2 (by omega) (by decide)))).mono ?_⟩
          rw [show (⟨#[48]⟩ : ByteArray).data.toList = [48] from rfl, repeat48]
          rintro e W3 ⟨rfl, hb3⟩
          have L1 := hide (builder_keep K1.out (fun i cs t fz h => below_blk hb3 h (lt_blk h)))
          have L2 := hide (below_blk hb3 K2.out (lt_blk K2.out)); have L3 := hide (below_blk hb3 K3.out (lt_blk K3.out)); have L4 := hide (K4.out.trans (hb3.mono (by omega)))
          have hsz3 : W2.heap.size ≤ W3.heap.size := hb3.size
          have LB := hide hb3
          obtain ⟨z, hz⟩ : ∃ z, z = strB (List.replicate q 48) := ⟨_, rfl⟩
          rw [← hz]
          have hzs : z.size ≤ 9 := by rw [hz, strB_size]; simp; omega
          have HZ := hide hz
          clear hb3 K1 K2 K3 K4 c1 c2 hz
          gi_wp2_with fail
          refine ⟨trivial, rfl, (CallsIn.inRound lp (callsIn_wide.2 (wString (w.heap.size + 1) (w.heap.size + 1) _ z W3 L1.out (by have := HLN.out; omega) (by omega)))).mono ?_⟩
          rintro e W4 ⟨rfl, hf, bl4, ok4⟩
          have HF := hide (show Lib.IsBuilderF 145 5 (w.heap.size + 1) (w.heap.size + 1) _ W4 from .inr hf); have BL := hide bl4; have OK := hide ok4
          have hsz4 : W3.heap.size ≤ W4.heap.size := bl4.size
          clear hf bl4 ok4
          gi_wp2_with fail
          refine ⟨trivial, rfl, (CallsIn.inRound lp (callsIn_wide.2 (wString (w.heap.size + 1) (w.heap.size + 1) _ t W4 HF.out (by have := HLN.out; rw [List.length_append, strCells_len z]; omega) (by omega)))).mono ?_⟩
          rintro e W5 ⟨rfl, hf, bl5, ok5⟩
          have HF2 := hide hf; have BL5 := hide bl5; have OK5 := hide ok5
          clear hf bl5 ok5
          gi_wp2_with fail
          refine ⟨_, su_step (b := w.heap.size + 1) (Nat.le_trans hsz2 (Nat.le_trans hsz3 (Nat.le_trans hsz4 BL5.out.size))) (fun i o hi hib hio => OK5.out i o (OK.out i o (below_blk LB.out (below_blk KB.out hi (lt_blk hi)) (by have := lt_blk hi; omega)) (by intro e; injection e with e; exact hib e) hio) (by intro e; injection e with e; exact hib e) hio), rfl, ?_, below_blk BL5.out (below_blk BL.out L2.out (by omega)) (by omega), ok_box OK5.out (by omega) (ok_box OK.out (by omega) L3.out), L4.out.trans ((BL.out.mono (by omega)).trans (BL5.out.mono (by omega)))⟩
          have h1 := HF2.out
          rw [HZ.out, byteCells_app, ← HTB.out, byteCells_app, HQ.out, ← HTB.out, strB_size, HD.out, HNN.out] at h1
          rw [up_next HN.out (by rw [← HNN.out]; omega) (by omega)]
          rw [List.append_assoc, List.append_assoc] at h1
          exact .inr h1
      case hdone =>
        rintro D S W hD ⟨rfl, h1, h2, h3, h4⟩ hDf
        have G1 := hide h1; have G4 := hide h4; have GD := hide hDf
        have hsz1 : w.heap.size + 1 < W.heap.size := by have := lt_blk hDf; omega
        clear h1 h2 h3 h4 hDf F0 F1 F2 FB hw3
        gi_wp2_with fail
        refine ⟨trivial, rfl, (callsIn_wide.2 (wGive (w.heap.size + 1) (w.heap.size + 1) (pre ++ upText l n) W G1.out (by omega))).mono ?_⟩
        rintro e W2 ⟨rfl, hf, bl, ok⟩
        have BL := hide bl
        have GD2 := hide (ok D _ GD.out (by intro e; injection e with e; omega) (fun c fz e => by cases e))
        clear hf bl ok
        gi_wp2_with fail
        refine ⟨by simp, .inl ⟨_, _, rfl, run_takeDeferred GD2.out, ?_⟩⟩
        refine ⟨_, results_tmp rfl _ _ _, ?_, ?_⟩
        · rw [HTX.out]
          rfl
        · exact G4.out.trans ((BL.out.mono (by omega)).trans (belowK_b (w := w) (Nat.le_refl _) _ D _ _ (by omega) GD2.out rfl rfl))
end Go.Proofs.YtgddookioipjiaaGreatDoor
namespace Go.Proofs.YtgddookioipjiaaGreatDoor
open Go.RowKit Go.KP Go.KI Go.Shelf
attribute [local go_sem] Oper.semAt_some

theorem P10.on {B n : Nat} {w w2 : World} (h : P10 B w) (hb : Below n w w2) (hB : B ≤ n) : P10 B w2 := fun w' h2 => h w' ((hb.mono hB).trans h2)
/-- Limbs of a number that fits. -/
theorem fits_limbs {m : Bool} {l : List Nat} (h : Norm 1000000000 l) (hf : fits (valS m (lv 1000000000 l))) : l.length ≤ 40 := by
  rcases Nat.lt_or_ge 40 l.length with hl | hl
  · exfalso
    have hne : l ≠ [] := fun e => by rw [e] at hl; simp at hl
    have h1 := h.ge hne
    have h2 : lv 1000000000 l < lim := by
      have : (valS m (lv 1000000000 l)).natAbs = lv 1000000000 l := by cases m <;> simp [valS]
      rw [← this]
      exact hf
    have h3 : lim ≤ 1000000000 ^ (l.length - 1) := by
      have e1 : (1000000000 : Nat) ^ (l.length - 1) = 10 ^ (9 * (l.length - 1)) := by rw [Nat.pow_mul]
      rw [e1]
      exact Nat.pow_le_pow_right (by omega) (by rw [most_eq]; omega)
    omega
  · exact hl
theorem digs_size (z : Int) : (strB (digs (Lib.itoa z))).size = (Lib.decDigits z.natAbs).length := by rw [strB_size, digs_itoa]
theorem resS_yes {z : Int} (h : ¬ 300 < (Lib.decDigits z.natAbs).length) : resS z = Lib.itoa z ∧ resE z = 0 := by
  have : fits z := fits_len.2 (by omega)
  exact ⟨if_pos this, if_pos this⟩
theorem resS_no {z : Int} (h : 300 < (Lib.decDigits z.natAbs).length) : resS z = [] ∧ resE z = 4 := by
  have : ¬ fits z := fun hf => by have := fits_len.1 hf; omega
  exact ⟨if_neg this, if_neg this⟩
/-- A pair of a text and an error. -/
abbrev pairV (s : List UInt8) (e : Int) : Value := .tuple #[.string (strB s), .int .i64 e]
set_option maxRecDepth 100000 in
set_option maxHeartbeats 2000000 in
theorem result_any (m : Bool) (v : Value) (l : List Nat) (B : Nat) (w : World) (h : LimbAt B w v l) (hB : B ≤ w.heap.size) (hn : Norm 1000000000 l) (hl : l.length ≤ 100000) (hT : P10 B w) :
    Calls Tryz.prog 120 #[numV m v] w (Ret w (pairV (resS (valS m (lv 1000000000 l))) (resE (valS m (lv 1000000000 l))))) := by
  obtain ⟨a0, c0, hv⟩ := h.form
  subst hv
  have HW := hide (fun w2 (hb : Below w.heap.size w w2) => write_any m _ l B w2 (h.below hb hB) (by have := hb.size; omega) hn hl (hT.on hb hB))
  clear h hn hT
  obtain ⟨n, hnn⟩ : ∃ n, n = l.length := ⟨_, rfl⟩
  rw [← hnn] at hl HW ⊢
  clear hnn
  obtain ⟨z, hz⟩ : ∃ z, z = valS m (lv 1000000000 l) := ⟨_, rfl⟩
  rw [← hz] at HW ⊢
  clear hz
  obtain ⟨b0, bs0, bb0⟩ := heap1 w (.cells #[.bool m, .slice a0 n c0] 128)
  have B0 := hide b0; have BB := hide bb0
  have c0' := cell_blk b0 0
  have c1' := cell_blk b0 1
  clear b0 bs0 bb0
  have hd := digs_size z
  obtain ⟨t, ht⟩ : ∃ t, t = strB (Lib.itoa z) := ⟨_, rfl⟩
  obtain ⟨u, hu⟩ : ∃ u, u = strB (digs (Lib.itoa z)) := ⟨_, rfl⟩
  have HU := hide (fun w => trimPrefix_any t w)
  have HT2 := hide ht
  rw [show digs t.data.toList = digs (Lib.itoa z) by rw [ht, strB_list], ← hu] at HU
  rw [← ht] at HW
  rw [← hu] at hd
  by_cases h3 : 300 < (Lib.decDigits z.natAbs).length
  · obtain ⟨e1, e2⟩ := resS_no h3
    rw [e1, e2]
    have hc : (300 : Int) < (u.size : Int) := by omega
    have HT3 := hide ht
    clear h3 hd ht hu e1 e2
    go_enter Tryz.func120, Tryz.ntmps120
    go_wp2_with fail
    refine (HW.out _ BB.out).mono ?_
    rintro e w1 ⟨rfl, hb1⟩
    have HB1 := hide (BB.out.trans (hb1.mono (by have := BB.out.size; omega)))
    clear hb1 HW c0' c1' BB B0
    go_wp2_with fail
    refine (HU.out _).mono ?_
    rintro e w2 ⟨rfl, rfl⟩
    clear HU
    go_wp2_with fail
    refine bodyPost_ret (results_tmp2 rfl _ _ _) rfl ?_
    exact ⟨rfl, HB1.out⟩
  · obtain ⟨e1, e2⟩ := resS_yes h3
    rw [e1, e2]
    have hc : ((300 : Int) < (u.size : Int)) = False := eq_false (by omega)
    have HT3 := hide ht
    clear h3 hd ht hu e1 e2
    go_enter Tryz.func120, Tryz.ntmps120
    go_wp2_with fail
    refine (HW.out _ BB.out).mono ?_
    rintro e w1 ⟨rfl, hb1⟩
    have HB1 := hide (BB.out.trans (hb1.mono (by have := BB.out.size; omega)))
    clear hb1 HW c0' c1' BB B0
    go_wp2_with fail
    refine (HU.out _).mono ?_
    rintro e w2 ⟨rfl, rfl⟩
    clear HU
    go_wp2_with fail
    refine bodyPost_ret (results_tmp2 rfl _ _ _) rfl ?_
    exact ⟨by rw [HT2.out]; rfl, HB1.out⟩
end Go.Proofs.YtgddookioipjiaaGreatDoor
namespace Go.Proofs.YtgddookioipjiaaGreatDoor
open Go.RowKit Go.KP Go.KI Go.Shelf
attribute [local go_sem] Oper.semAt_some

theorem op2_bad {f : Int → Int → Int} {a b : List UInt8} (h : bothI a b ≠ 0) : op2S f a b = [] ∧ op2E f a b = bothI a b := by
  unfold bothI at h ⊢
  unfold op2S op2E
  by_cases h1 : chkI a = 0
  · rw [if_pos h1] at h ⊢
    rw [if_neg (by simp [h1]), if_pos h, if_neg (by simp [h1]), if_pos h]
    exact ⟨rfl, rfl⟩
  · rw [if_neg h1] at h ⊢
    rw [if_pos h1, if_pos h1]
    exact ⟨rfl, rfl⟩
theorem op2_good {f : Int → Int → Int} {a b : List UInt8} (h : bothI a b = 0) : chkI a = 0 ∧ chkI b = 0 ∧ op2S f a b = resS (f (valI a) (valI b)) ∧ op2E f a b = resE (f (valI a) (valI b)) := by
  unfold bothI at h
  by_cases h1 : chkI a = 0
  · rw [if_pos h1] at h
    unfold op2S op2E
    rw [if_neg (by simp [h1]), if_neg (by simp [h]), if_neg (by simp [h1]), if_neg (by simp [h])]
    exact ⟨h1, h, rfl, rfl⟩
  · rw [if_neg h1] at h
    exact absurd h h1
theorem chk_digs {l : List UInt8} (h : chkI l = 0) : (∀ c ∈ digs l, isDg c = true) ∧ l.length ≤ 301 := by
  obtain ⟨h1, h2⟩ := chk_ok h
  have hf := fits_len.1 h2
  have he : digs l = Lib.decDigits (valI l).natAbs := by
    have := digs_itoa (valI l)
    rw [← h1] at this
    exact this
  refine ⟨by rw [he]; exact decDigits_dg _, ?_⟩
  rcases itoa_cases (valI l) with ⟨_, e⟩ | ⟨_, e⟩
  · rw [h1, e, List.length_cons]
    omega
  · rw [h1, e]
    omega
theorem read_good (s : ByteArray) (h : chkI s.data.toList = 0) (w : World) :
    Calls Tryz.prog 115 #[.string s] w fun e w2 => ∃ (m : Bool) (v : Value) (l : List Nat), e = .returned (numV m v) ∧ Below w.heap.size w w2 ∧ OwnL 0 w2 v l ∧ Norm 1000000000 l ∧ valS m (lv 1000000000 l) = valI s.data.toList ∧ l.length ≤ 40 := by
  obtain ⟨h1, h2⟩ := chk_digs h
  rw [bytes_len] at h2
  refine (read_any s (by omega) h1 w).mono ?_
  rintro e w2 ⟨_, rfl, hb, m, v, l, rfl, ho, hn, hv, _⟩
  exact ⟨m, v, l, rfl, hb, ho, hn, hv, fits_limbs hn (by rw [hv]; exact (chk_ok h).2)⟩
theorem LimbAt.of_own {base : Nat} {w : World} {v : Value} {l : List Nat} (h : OwnL base w v l) : LimbAt w.heap.size w v l := SlAt.of_owns h
theorem result_own (m : Bool) (v : Value) (l : List Nat) (base B : Nat) (w : World) (h : OwnL base w v l) (hn : Norm 1000000000 l) (hl : l.length ≤ 100000) (hT : P10 B w) (hB : B ≤ w.heap.size) :
    Calls Tryz.prog 120 #[numV m v] w (Ret w (pairV (resS (valS m (lv 1000000000 l))) (resE (valS m (lv 1000000000 l))))) :=
  result_any m v l w.heap.size w (.of_own h) (Nat.le_refl _) hn hl (hT.mono hB)
theorem pow18 : (10 : Nat) ^ 18 = 1000000000000000000 := by decide
theorem resS_small {z : Int} (h : z.natAbs < 10 ^ 40) : resS z = Lib.itoa z ∧ resE z = 0 := by
  have : fits z := fits_small (n := 40) (by rw [most_eq]; omega) h
  exact ⟨if_pos this, if_pos this⟩
set_option maxRecDepth 100000 in
set_option maxHeartbeats 2000000 in
theorem Add_any (s t : ByteArray) (B : Nat) (w : World) (hs : s.size ≤ 1000000) (ht : t.size ≤ 1000000) (hB : B ≤ w.heap.size) (hT : P10 B w) :
    Calls Tryz.prog 76 #[.string s, .string t] w (Ret w (pairV (op2S (· + ·) s.data.toList t.data.toList) (op2E (· + ·) s.data.toList t.data.toList))) := by
  have H1 := hide (both_any s t hs ht w)
  have HT := hide hT
  by_cases hE : bothI s.data.toList t.data.toList = 0
  · obtain ⟨c1, c2, e1, e2⟩ := op2_good (f := (· + ·)) hE
    rw [e1, e2]
    have C1 := hide c1; have C2 := hide c2
    rw [hE] at H1
    clear e1 e2 hE hT hs ht
    by_cases hsm : s.size ≤ 18 ∧ t.size ≤ 18
    · have H2 := hide (fun w => small_yes s t c1 c2 hsm.1 hsm.2 w)
      have v1 := short_val (n := 18) c1 (by rw [bytes_len]; exact hsm.1) (by omega)
      have v2 := short_val (n := 18) c2 (by rw [bytes_len]; exact hsm.2) (by omega)
      rw [pow18] at v1 v2
      obtain ⟨x, hx⟩ : ∃ x, x = valI s.data.toList := ⟨_, rfl⟩
      obtain ⟨y, hy⟩ : ∃ y, y = valI t.data.toList := ⟨_, rfl⟩
      rw [← hx, ← hy] at H2 ⊢
      rw [← hx] at v1
      rw [← hy] at v2
      obtain ⟨z, hz⟩ : ∃ z, z = x + y := ⟨_, rfl⟩
      have hw : IntKind.i64.wrap (x + y) = z := by rw [hz]; exact IntWalk.i64_in _ (by omega)
      obtain ⟨e3, e4⟩ := resS_small (z := z) (Nat.lt_of_lt_of_le (m := 10 ^ 19) (by omega) (Nat.pow_le_pow_right (by omega) (by omega)))
      have hz1 : -9223372036854775808 ≤ z := by omega
      have hz2 : z ≤ 9223372036854775807 := by omega
      show Calls _ _ _ _ (Ret w (pairV (resS (x + y)) (resE (x + y))))
      rw [← hz, e3, e4]
      clear c1 c2 hsm hx hy hz e3 e4
      go_enter Tryz.func76, Tryz.ntmps76
      go_wp2_with fail
      refine H1.out.mono ?_
      rintro e w1 ⟨rfl, hb1⟩
      have HB1 := hide hb1
      clear hb1 H1
      go_wp2_with fail
      refine (H2.out _).mono ?_
      rintro e w2 ⟨rfl, hb2⟩
      have HB2 := hide (HB1.out.trans (hb2.mono HB1.out.size))
      clear hb2 H2 HB1
      go_wp2_with fail
      refine (itoa_any z hz1 hz2 B w2 (HT.out.on HB2.out hB)).mono ?_
      rintro e w3 ⟨rfl, hb3⟩
      have HB3 := hide (HB2.out.trans (hb3.mono HB2.out.size))
      clear hb3 HB2
      go_wp2_with fail
      refine bodyPost_ret (results_tmp2 rfl _ _ _) rfl ?_
      exact ⟨rfl, HB3.out⟩
    · have H2 := hide (fun w => small_no s t hsm w)
      have R1 := hide (fun w => read_good s c1 w)
      have R2 := hide (fun w => read_good t c2 w)
      clear c1 c2 hsm
      go_enter Tryz.func76, Tryz.ntmps76
      go_wp2_with fail
      refine H1.out.mono ?_
      rintro e w1 ⟨rfl, hb1⟩
      have HB1 := hide hb1
      clear hb1 H1
      go_wp2_with fail
      refine (H2.out _).mono ?_
      rintro e w2 ⟨rfl, hb2⟩
      have HB2 := hide (HB1.out.trans (hb2.mono HB1.out.size))
      clear hb2 H2 HB1
      go_wp2_with fail
      refine (R1.out _).mono ?_
      rintro e w3 ⟨m1, a1, l1, rfl, hb3, o1, n1, q1, k1⟩
      have HB3 := hide (HB2.out.trans (hb3.mono HB2.out.size))
      have O1 := hide o1; have N1 := hide n1; have Q1 := hide q1
      clear hb3 HB2 R1 o1 n1 q1
      go_wp2_with fail
      refine (R2.out _).mono ?_
      rintro e w4 ⟨m2, a2, l2, rfl, hb4, o2, n2, q2, k2⟩
      have HB4 := hide (HB3.out.trans (hb4.mono HB3.out.size))
      have O1' := hide (O1.out.keep hb4)
      have O2 := hide o2; have N2 := hide n2; have Q2 := hide q2
      clear hb4 HB3 R2 o2 n2 q2 O1
      go_wp2_with fail
      refine (add_any m1 m2 a1 a2 l1 l2 w4.heap.size w4 (.of_own O1'.out) (.of_own O2.out) (Nat.le_refl _) N1.out N2.out (by omega) (by omega)).mono ?_
      rintro e w5 ⟨_, rfl, hb5, m3, a3, l3, rfl, o3, n3, q3, k3⟩
      have HB5 := hide (HB4.out.trans (hb5.mono HB4.out.size))
      have O3 := hide o3; have N3 := hide n3
      rw [Q1.out, Q2.out] at q3
      have Q3 := hide q3
      clear hb5 HB4 O1' O2 N1 N2 Q1 Q2 o3 n3 q3
      go_wp2_with fail
      refine (result_own m3 a3 l3 0 B w5 O3.out N3.out (by omega) (HT.out.on HB5.out hB) (Nat.le_trans hB HB5.out.size)).mono ?_
      rintro e w6 ⟨rfl, hb6⟩
      rw [Q3.out]
      have HB6 := hide (HB5.out.trans (hb6.mono HB5.out.size))
      clear hb6 HB5
      go_wp2_with fail
      refine bodyPost_ret (results_tmp2 rfl _ _ _) rfl ?_
      exact ⟨rfl, HB6.out⟩
  · obtain ⟨e1, e2⟩ := op2_bad (f := (· + ·)) hE
    rw [e1, e2]
    have hne : (bothI s.data.toList t.data.toList != 0) = true := by simpa using hE
    obtain ⟨E, hEE⟩ : ∃ E, E = bothI s.data.toList t.data.toList := ⟨_, rfl⟩
    rw [← hEE] at H1 hne ⊢
    clear e1 e2 hE hEE hT
    go_enter Tryz.func76, Tryz.ntmps76
    go_wp2_with fail
    refine H1.out.mono ?_
    rintro e w1 ⟨rfl, hb1⟩
    have HB1 := hide hb1
    clear hb1 H1
    go_wp2_with fail
    refine bodyPost_ret (results_tmp2 rfl _ _ _) rfl ?_
    exact ⟨rfl, HB1.out⟩
end Go.Proofs.YtgddookioipjiaaGreatDoor
namespace Go.Proofs.YtgddookioipjiaaGreatDoor
open Go.RowKit Go.KP Go.KI Go.Shelf
attribute [local go_sem] Oper.semAt_some

set_option maxRecDepth 100000 in
set_option maxHeartbeats 2000000 in
theorem qgcd_any (a b : Nat) (ha : a < 1000000000000000000) (hb : b < 1000000000000000000) (w : World) :
    Calls Tryz.prog 109 #[.int .i64 a, .int .i64 b] w (Ret w (.int .i64 (Nat.gcd a b : Nat))) := by
  obtain ⟨G, hG⟩ : ∃ G, G = Nat.gcd a b := ⟨_, rfl⟩
  rw [← hG]
  have HG := hide hG
  clear hG
  go_enter Tryz.func109, Tryz.ntmps109
  go_wp2_with fail
  go_loopw [0, 1] (fun x y wr => ∃ p q : Nat, x = .int .i64 p ∧ y = .int .i64 q ∧ p < 1000000000000000000 ∧ q < 1000000000000000000 ∧ Hid (Nat.gcd p q = G ∧ Below w.heap.size w wr)) (fun _ y _ => (intOf y).toNat)
  case atStart => exact ⟨a, b, rfl, rfl, ha, hb, HG.out.symm, Below.refl _ _⟩
  case round =>
    obtain ⟨p, q, rfl, rfl, hp, hq, hin⟩ := hrel
    have IN := hide hin.out
    clear hin
    by_cases hq0 : q = 0
    · subst hq0
      have hqq : (((0 : Nat) : Int) != 0) = false := rfl
      have hG : p = G := by have := IN.out.1; simpa using this
      have GG := hide hG
      clear hq hG
      go_wp2_with fail
      go_ret
      rw [← GG.out]
      exact ⟨rfl, IN.out.2⟩
    · have hqq : ((q : Int) != 0) = true := by
        have : (q : Int) ≠ 0 := by omega
        simpa using this
      have hqz : ((q : Int) == 0) = false := by
        have : (q : Int) ≠ 0 := by omega
        simpa using this
      obtain ⟨r, hr⟩ : ∃ r, r = p % q := ⟨_, rfl⟩
      have hri : (p : Int) % (q : Int) = (r : Int) := by rw [hr, Int.natCast_emod]
      have hrl : r < q := by rw [hr]; exact Nat.mod_lt _ (by omega)
      have HR := hide hr; have HRI := hide hri
      clear hq0 hr
      go_wp2_with fail
      go_quiet (fail)
      have HB := hide (below_drewN IN.out.2 nq)
      clear hqq hqz
      go_wp2_with fail
      go_roundw
      case rel =>
        refine ⟨q, r, rfl, by first | rfl | rw [HRI.out], by omega, by omega, ?_, HB.out⟩
        rw [HR.out, ← IN.out.1, Nat.gcd_comm q, ← Nat.gcd_rec, Nat.gcd_comm]
      case measure => simp [intOf]; omega
end Go.Proofs.YtgddookioipjiaaGreatDoor
