/-
  Texts of the integers, laid together: Rf, Ro, Rp, Rq, Rr, Rs, Rt, L3.
-/
import Derived.Laws.AppendOwnNone
import Derived.Test.YthkioajalhglfaaGreatDoorZ10
import Derived.Test.YthkioajalhglfaaGreatDoorZ12
namespace Go.Proofs.YthkioajalhglfaaGreatDoor
open Go.RowKit Go.KP Go.KI Go.Shelf
attribute [local go_sem] Oper.semAt_some

/-- The short division, k limbs over. -/
structure RShortAt (x : List Nat) (d k : Nat) (Q : List Nat) (R : Nat) : Prop where
  len : Q.length = x.length
  lt : Lt 1000000 Q
  rest : R < d
  val : lv 1000000 (x.drop (x.length - k)) = lv 1000000 (Q.drop (x.length - k)) * d + R
theorem RShortAt.start (x : List Nat) {d : Nat} (hd : 1 ≤ d) : RShortAt x d 0 (zeros x.length) 0 :=
  ⟨zeros_len _, zeros_lt _ _ (by omega), hd, by rw [Nat.sub_zero, List.drop_length, List.drop_of_length_le (by rw [zeros_len]; exact Nat.le_refl _)]; simp [lv]⟩
theorem RShortAt.step {x : List Nat} {d k R : Nat} {Q : List Nat} (h : RShortAt x d k Q R) (hx : Lt 1000000 x) (hd2 : d < 1000000) (hk : k < x.length) {i : Nat} (hi : i = x.length - 1 - k) :
    lat x i + R * 1000000 < d * 1000000 ∧ (lat x i + R * 1000000) / d < 1000000 ∧ RShortAt x d (k + 1) (Q.set i ((lat x i + R * 1000000) / d)) ((lat x i + R * 1000000) % d) := by
  have hr := h.rest
  have hxi := lat_lt (by omega) hx i
  have h1 : (R + 1) * 1000000 ≤ d * 1000000 := Nat.mul_le_mul_right _ hr
  have h2 : lat x i + R * 1000000 < d * 1000000 := by omega
  have hdp : 0 < d := by omega
  have h3 : (lat x i + R * 1000000) / d < 1000000 := by
    rw [Nat.div_lt_iff_lt_mul hdp]
    omega
  refine ⟨h2, h3, by rw [List.length_set]; exact h.len, lt_set h.lt h3, Nat.mod_lt _ hdp, ?_⟩
  have e1 : x.length - (k + 1) = i := by omega
  have e2 : x.length - k = i + 1 := by omega
  have hv := h.val
  rw [e2] at hv
  rw [e1]
  have hl : i < x.length := by omega
  have hlq : i < Q.length := by rw [h.len]; exact hl
  have f1 : lv 1000000 (x.drop i) = lat x i + 1000000 * lv 1000000 (x.drop (i + 1)) := by
    rw [List.drop_eq_getElem_cons hl, lat_at hl]
    rfl
  have f2 : (Q.set i ((lat x i + R * 1000000) / d)).drop i = ((lat x i + R * 1000000) / d) :: Q.drop (i + 1) := by
    rw [List.drop_eq_getElem_cons (by rw [List.length_set]; exact hlq), List.getElem_set_self, List.drop_set_of_lt (by omega)]
  rw [f1, f2, hv]
  show lat x i + 1000000 * (lv 1000000 (Q.drop (i + 1)) * d + R) = ((lat x i + R * 1000000) / d + 1000000 * lv 1000000 (Q.drop (i + 1))) * d + (lat x i + R * 1000000) % d
  have h4 := Nat.div_add_mod (lat x i + R * 1000000) d
  rw [Nat.add_mul, Nat.mul_comm (_ / d) d]
  have e5 : 1000000 * lv 1000000 (Q.drop (i + 1)) * d = 1000000 * (lv 1000000 (Q.drop (i + 1)) * d) := by rw [Nat.mul_assoc]
  rw [e5]
  omega
theorem RShortAt.done {x : List Nat} {d R : Nat} {Q : List Nat} (h : RShortAt x d x.length Q R) : lv 1000000 Q = lv 1000000 x / d ∧ R = lv 1000000 x % d := by
  have hv := h.val
  rw [Nat.sub_self, List.drop_zero, List.drop_zero] at hv
  have hr := h.rest
  rw [hv]
  constructor
  · rw [Nat.add_comm, Nat.add_mul_div_right _ _ (by omega), Nat.div_eq_of_lt hr, Nat.zero_add]
  · rw [Nat.add_comm, Nat.add_mul_mod_self_right, Nat.mod_eq_of_lt hr]
theorem rshort_nums {X R d : Nat} (hX : X < 1000000) (hR : R < d) (hd : d < 1000000) :
    ∃ T q r : Nat, T = X + R * 1000000 ∧ q = T / d ∧ r = T % d ∧ IntKind.i64.wrap ((R : Int) * 1000000) = (R : Int) * 1000000 ∧ IntKind.i64.wrap ((R : Int) * 1000000 + (X : Int)) = (T : Int) ∧ (T : Int) / (d : Int) = (q : Int) ∧ (T : Int) % (d : Int) = (r : Int) ∧ (T : Int) < 1000000000000 ∧ ((d : Int) == 0) = false ∧ r < d := by
  have h1 : X + R * 1000000 < 1000000000000 := by omega
  have h2 : (d : Int) ≠ 0 := by omega
  obtain ⟨T, hT⟩ : ∃ T, T = X + R * 1000000 := ⟨_, rfl⟩
  have h3 : (R : Int) * 1000000 + (X : Int) = (T : Int) := by omega
  exact ⟨T, T / d, T % d, hT, rfl, rfl, IntWalk.i64_in _ (by omega), by rw [h3]; exact IntWalk.i64_in _ (by omega), Int.natCast_ediv .., Int.natCast_emod .., by omega, by simpa using h2, Nat.mod_lt _ (by omega)⟩
/-- What the reference's divisions return: both rows of the call's own. -/
def RDivRes (x y : List Nat) (w : World) (e : Ending) (w' : World) : Prop := ∃ (vq vr : Value) (q r : List Nat), e = .returned (.tuple #[vq, vr]) ∧ Below w.heap.size w w' ∧ OwnL w.heap.size w' vq q ∧ OwnL w.heap.size w' vr r ∧
  Norm 1000000 q ∧ Norm 1000000 r ∧ lv 1000000 q = lv 1000000 x / lv 1000000 y ∧ lv 1000000 r = lv 1000000 x % lv 1000000 y ∧ q.length ≤ x.length
set_option maxRecDepth 100000 in
set_option maxHeartbeats 8000000 in
theorem rshort_any (va : Value) (x : List Nat) (d : Nat) (B : Nat) (w : World) (ha : LimbAt B w va x) (hB : B ≤ w.heap.size) (hx : Lt 1000000 x) (lx : x.length ≤ 200000) (hd : 1 ≤ d) (hd2 : d < 1000000) :
    Calls Tryz.prog 78 #[va, .int .i64 d] w (RDivRes x [d] w) := by
  obtain ⟨a0, c0, hva⟩ := ha.form
  subst hva
  have HA := hide ha; have HX := hide hx
  clear ha hx
  obtain ⟨n, hn⟩ : ∃ n, n = x.length := ⟨_, rfl⟩
  have HN := hide hn
  have hmk := make_ints n (by omega)
  rw [← hn] at lx ⊢
  clear hn
  have H0 := hide (heap_alloc_new w (rowO (zeros n))); have HB0 := hide ((Below.refl w.heap.size w).alloc (Nat.le_refl _) (rowO (zeros n)))
  go_enter Tryz.func78, Tryz.ntmps78
  go_wp2_with fail
  clear hmk
  go_loopw [7, 8] (fun rr i wr => ∃ (k R : Nat), k ≤ n ∧ i = .int .i64 ((n : Int) - 1 - k) ∧ rr = .int .i64 R ∧ Hid (∃ Q : List Nat, RShortAt x d k Q R ∧ wr.heap[w.heap.size]? = some (rowO Q) ∧ Below w.heap.size w wr)) (fun _ i _ => (intOf i + 1).toNat)
  case atStart => exact ⟨0, 0, Nat.zero_le _, by simp, rfl, zeros n, by have := RShortAt.start x hd; rw [← HN.out] at this; exact this, H0.out, HB0.out⟩
  case round =>
    obtain ⟨k, R, hk, rfl, rfl, hin⟩ := hrel
    obtain ⟨Q, h1, hQ, hW⟩ := hin.out
    have hsz := lt_blk hQ
    by_cases hlt : k < n
    · obtain ⟨m, hm⟩ : ∃ m : Nat, (n : Int) - 1 - (k : Int) = m := ⟨n - 1 - k, by omega⟩
      have hm2 : m = x.length - 1 - k := by have := HN.out; omega
      have hst := h1.step HX.out hd2 (by have := HN.out; omega) hm2
      obtain ⟨t1, t2, t3⟩ := hst
      have hxm := lat_lt (by omega) HX.out m
      rw [hm]
      rcases (HA.out.below hW hB).cases with ⟨_, _, _, hnil⟩ | ⟨g, o, cap, hv, hg, hc⟩
      · have := HN.out
        rw [hnil] at this
        simp at this
        omega
      injection hv with hv1 hv2 hv3
      subst hv1
      have q1 := hc m (by have := HN.out; omega)
      obtain ⟨X, hX⟩ : ∃ X, X = lat x m := ⟨_, rfl⟩
      rw [← hX] at hxm t1 t2 t3 q1
      obtain ⟨T, q, r, hT, hq, hr, hw1, hwt, hqi, hri, hTl, hd0, hrl⟩ := rshort_nums hxm h1.rest hd2
      rw [← hT] at t1 t2 t3
      rw [← hq, ← hr] at t3
      rw [← hq] at t2
      have hmi : (m : Int) < (n : Int) := by omega
      have hmq : m < Q.length := by rw [h1.len, ← HN.out]; omega
      have c3 := row_cell hQ hmq
      have f3 := row_froz hQ m
      have hkn : k + 1 ≤ n := hlt
      have T3 := hide t3; have HQ := hide hQ; have HW := hide hW; have HM := hide hm; have HRI := hide hri
      clear hm hm2 t3 hQ hW h1 hX hT hq hr t1 hc hv2 hv3 hg hin hlt
      go_wp2_with fail
      go_roundw
      case rel => exact ⟨k + 1, r, by omega, by have := HM.out; congr 1; omega, by first | rfl | rw [HRI.out], Q.set m q, T3.out, row_set HQ.out m q, HW.out.setCell (p := ⟨w.heap.size, m, none⟩) (Nat.le_refl _) _⟩
      case measure => simp [intOf]
    · obtain rfl : k = n := by omega
      have hm : (k : Int) - 1 - (k : Int) = -1 := by omega
      rw [hm]
      have hQn : Q.length = k := h1.len.trans HN.out.symm
      have HTq := hide (rtrim_any (some ⟨w.heap.size, 0, none⟩) k Q wr.heap.size wr (by
        have := row_limbs hQ (by unfold maxLen; omega)
        rw [hQn] at this ⊢
        exact this) (by omega) (by omega))
      rw [hQn] at HTq
      have HTr := hide (show Calls Tryz.prog 72 #[.slice (some ⟨wr.heap.size, 0, none⟩) 1 1] (wr.alloc (.cells #[.int .i64 R] 3)) (fun e w'' => e = .returned (.slice (some ⟨wr.heap.size, 0, none⟩) (trimTo [R] 1) 1) ∧ wr.alloc (.cells #[.int .i64 R] 3) = w'') from
        rtrim_any (some ⟨wr.heap.size, 0, none⟩) 1 [R] _ (wr.alloc (rowO [R])) (row_limbs (heap_alloc_new wr (rowO [R])) (by unfold maxLen; simp)) (by simp) (by simp))
      have H1 := hide h1; have HQ := hide hQ; have HW := hide hW; have HQN := hide hQn
      clear h1 hQ hW hQn hin hlt hm
      go_wp2_with fail
      refine HTq.out.mono ?_
      rintro e w1 ⟨rfl, rfl⟩
      go_wp2_with fail
      refine HTr.out.mono ?_
      rintro e w1 ⟨rfl, rfl⟩
      go_wp2_with fail
      refine bodyPost_ret (results_tmp2 rfl _ _ _) rfl ?_
      obtain ⟨e1, e2⟩ := (show RShortAt x d x.length Q R by have := H1.out; rw [HN.out] at this; exact this).done
      have hR : Lt 1000000 [R] := fun z hz => by
        simp only [List.mem_singleton] at hz
        have := H1.out.rest
        omega
      have hE2 : (wr.alloc (rowO [R])).heap[w.heap.size]? = some (rowO Q) := (Below.heap_alloc _ _ _ hsz).trans HQ.out
      have o1 := (row_owns (base := w.heap.size) hE2 (Nat.le_refl _) (by rw [HQN.out]; unfold maxLen; omega)).cut (k := trimTo Q Q.length) (trimTo_le _ _)
      have o2 := (row_owns (base := w.heap.size) (heap_alloc_new wr (rowO [R])) HW.out.size (by unfold maxLen; simp)).cut (k := trimTo [R] 1) (trimTo_le _ _)
      have hv : lv 1000000 [d] = d := by simp [lv]
      have hr1 : lv 1000000 [R] = R := by simp [lv]
      refine ⟨_, _, trimL Q, trimL [R], rfl, HW.out.alloc HW.out.size _, ?_, ?_, trimL_norm H1.out.lt, trimL_norm hR, by rw [trimL_lv, e1, hv], by rw [trimL_lv, hr1, hv, e2], ?_⟩
      · unfold trimL
        rw [HQN.out] at o1 ⊢
        exact o1
      · exact o2
      · rw [trimL_len]
        have := trimTo_le Q Q.length
        have := HQN.out
        have := HN.out
        omega
end Go.Proofs.YthkioajalhglfaaGreatDoor
namespace Go.Proofs.YthkioajalhglfaaGreatDoor
open Go.RowKit Go.KP Go.KI Go.Shelf

/-- The long division, k limbs over: quotient's limbs, the rest. -/
structure RDivAt (x : List Nat) (d k : Nat) (Q : List Nat) (R : Nat) : Prop where
  len : Q.length = x.length
  lt : Lt 1000000 Q
  rest : R < d
  val : lv 1000000 (x.drop (x.length - k)) = lv 1000000 (Q.drop (x.length - k)) * d + R
theorem RDivAt.start (x : List Nat) {d : Nat} (hd : 1 ≤ d) : RDivAt x d 0 (zeros x.length) 0 :=
  ⟨zeros_len _, zeros_lt _ _ (by omega), hd, by rw [Nat.sub_zero, List.drop_length, List.drop_of_length_le (by rw [zeros_len]; exact Nat.le_refl _)]; simp [lv]⟩
theorem RDivAt.step {x : List Nat} {d k R g r : Nat} {Q : List Nat} (h : RDivAt x d k Q R) (hk : k < x.length) {i : Nat} (hi : i = x.length - 1 - k) (hg : g < 1000000) (hr : r < d) (hv : lat x i + 1000000 * R = g * d + r) :
    RDivAt x d (k + 1) (Q.set i g) r := by
  refine ⟨by rw [List.length_set]; exact h.len, lt_set h.lt hg, hr, ?_⟩
  have e1 : x.length - (k + 1) = i := by omega
  have e2 : x.length - k = i + 1 := by omega
  have hw := h.val
  rw [e2] at hw
  rw [e1]
  have hl : i < x.length := by omega
  have hlq : i < Q.length := by rw [h.len]; exact hl
  have f1 : lv 1000000 (x.drop i) = lat x i + 1000000 * lv 1000000 (x.drop (i + 1)) := by
    rw [List.drop_eq_getElem_cons hl, lat_at hl]
    rfl
  have f2 : (Q.set i g).drop i = g :: Q.drop (i + 1) := by
    rw [List.drop_eq_getElem_cons (by rw [List.length_set]; exact hlq), List.getElem_set_self, List.drop_set_of_lt (by omega)]
  rw [f1, f2, hw]
  show lat x i + 1000000 * (lv 1000000 (Q.drop (i + 1)) * d + R) = (g + 1000000 * lv 1000000 (Q.drop (i + 1))) * d + r
  rw [Nat.add_mul, Nat.mul_add, Nat.mul_assoc]
  omega
theorem RDivAt.done {x : List Nat} {d R : Nat} {Q : List Nat} (h : RDivAt x d x.length Q R) : lv 1000000 Q = lv 1000000 x / d ∧ R = lv 1000000 x % d := by
  have hv := h.val
  rw [Nat.sub_self, List.drop_zero, List.drop_zero] at hv
  have hr := h.rest
  rw [hv]
  constructor
  · rw [Nat.add_comm, Nat.add_mul_div_right _ _ (by omega), Nat.div_eq_of_lt hr, Nat.zero_add]
  · rw [Nat.add_comm, Nat.add_mul_mod_self_right, Nat.mod_eq_of_lt hr]
/-- The upper limbs. -/
theorem up3 {l : List Nat} (hl : Lt 1000000 l) {m : Nat} (h : l.length ≤ m + 3) : (lat l (m + 2) * 1000000 + lat l (m + 1)) * 1000000 + lat l m = lv 1000000 l / 1000000 ^ m := by
  have h1 := lvT_all (b := 1000000) h
  rw [lvT_succ, lvT_succ, lvT_succ] at h1
  have h2 := lvT_lt (b := 1000000) (by omega) hl m
  have e1 : (1000000 : Nat) ^ (m + 1) = 1000000 ^ m * 1000000 := Nat.pow_succ ..
  have e2 : (1000000 : Nat) ^ (m + 2) = 1000000 ^ m * 1000000 * 1000000 := by rw [Nat.pow_succ, Nat.pow_succ]
  rw [← h1, e1, e2]
  have e3 : lvT 1000000 l m + 1000000 ^ m * lat l m + 1000000 ^ m * 1000000 * lat l (m + 1) + 1000000 ^ m * 1000000 * 1000000 * lat l (m + 2) = lvT 1000000 l m + 1000000 ^ m * ((lat l (m + 2) * 1000000 + lat l (m + 1)) * 1000000 + lat l m) := by grind
  rw [e3, Nat.add_mul_div_left _ _ (Nat.pow_pos (by omega)), Nat.div_eq_of_lt h2, Nat.zero_add]
theorem up2 {l : List Nat} (hl : Lt 1000000 l) {m : Nat} (h : l.length ≤ m + 2) : lat l (m + 1) * 1000000 + lat l m = lv 1000000 l / 1000000 ^ m := by
  have h1 := up3 hl (m := m) (by omega)
  rw [lat_past (i := m + 2) h, Nat.zero_mul, Nat.zero_add] at h1
  exact h1
/-- The guess is not too great. -/
theorem guess_le {r y P g : Nat} (hP : 0 < P) (hg : g = r / P / (y / P + 1)) : g * y ≤ r := by
  have h1 : g * (y / P + 1) ≤ r / P := by rw [hg]; exact Nat.div_mul_le_self _ _
  have h2 : y ≤ P * (y / P + 1) := by
    have := Nat.div_add_mod y P
    have := Nat.mod_lt y hP
    rw [Nat.mul_add]
    omega
  calc g * y ≤ g * (P * (y / P + 1)) := Nat.mul_le_mul_left _ h2
    _ = P * (g * (y / P + 1)) := by grind
    _ ≤ P * (r / P) := Nat.mul_le_mul_left _ h1
    _ ≤ r := Nat.mul_div_le _ _
theorem guess_lt {r y g : Nat} (h : g * y ≤ r) (hr : r < 1000000 * y) : g < 1000000 := by
  rcases Nat.lt_or_ge g 1000000 with h1 | h1
  · exact h1
  · have := Nat.mul_le_mul_right y h1
    omega
theorem rdiv_nums (L2 L1 L0 T : Nat) :
    ∃ G : Nat, (((L2 : Int) * 1000000 + (L1 : Int)) * 1000000 + (L0 : Int)) / ((T : Int) + 1) = (G : Int) ∧ G = ((L2 * 1000000 + L1) * 1000000 + L0) / (T + 1) := by
  refine ⟨((L2 * 1000000 + L1) * 1000000 + L0) / (T + 1), ?_, rfl⟩
  rw [Int.natCast_ediv]
  congr 1
end Go.Proofs.YthkioajalhglfaaGreatDoor
namespace Go.Proofs.YthkioajalhglfaaGreatDoor
open Go.RowKit Go.KP Go.KI Go.Shelf
attribute [local go_sem] Oper.semAt_some

theorem rtop_nums {b1 b0 : Nat} (h1 : b1 < 1000000) (h0 : b0 < 1000000) : ∃ T : Nat, T = b1 * 1000000 + b0 ∧ IntKind.i64.wrap ((b1 : Int) * 1000000) = (b1 : Int) * 1000000 ∧ IntKind.i64.wrap ((b1 : Int) * 1000000 + (b0 : Int)) = (T : Int) ∧ T < 1000000000000 := by
  refine ⟨b1 * 1000000 + b0, rfl, IntWalk.i64_in _ (by omega), ?_, by omega⟩
  rw [IntWalk.i64_in _ (by omega)]
  omega
/-- What trim returns of an own row: the row, cut. -/
def TrimRes (base : Nat) (l : List Nat) (W : World) (e : Ending) (w2 : World) : Prop := W = w2 ∧ ∃ v, e = .returned v ∧ OwnL base W v (trimL l)
theorem rtrim_own (base : Nat) (v : Value) (l : List Nat) (W : World) (h : OwnL base W v l) (hl : l.length ≤ 1000000) :
    Calls Tryz.prog 72 #[v] W (TrimRes base l W) := by
  obtain ⟨a, c, rfl, hc, _⟩ := h.form
  refine (rtrim_any a c l W.heap.size W h.at_ hc hl).mono ?_
  rintro e w2 ⟨rfl, rfl⟩
  exact ⟨rfl, _, rfl, h.cut (trimTo_le _ _)⟩
set_option maxRecDepth 100000 in
set_option maxHeartbeats 16000000 in
theorem rdivide_any (va vb : Value) (x y : List Nat) (B : Nat) (w : World) (ha : LimbAt B w va x) (hb : LimbAt B w vb y) (hB : B ≤ w.heap.size) (hx : Lt 1000000 x) (hy : Norm 1000000 y) (hy0 : y ≠ []) (lx : x.length ≤ 1000) (ly : y.length ≤ 1000) :
    Calls Tryz.prog 50 #[va, vb] w (RDivRes x y w) := by
  obtain ⟨a0, c0, hva⟩ := ha.form
  obtain ⟨a1, c1, hvb⟩ := hb.form
  subst hva; subst hvb
  have HA := hide ha; have HBB := hide hb; have HX := hide hx; have HY := hide hy
  have hyp : 1 ≤ lv 1000000 y := by
    have h1 := hy.ge hy0
    have h2 : 0 < 1000000 ^ (y.length - 1) := Nat.pow_pos (by omega)
    omega
  have HYP := hide hyp
  have hpos : y.length ≠ 0 := fun h => hy0 (List.eq_nil_of_length_eq_zero h)
  obtain ⟨N, hN⟩ : ∃ N, N = x.length := ⟨_, rfl⟩
  have HN := hide hN
  rw [← hN] at lx HA ⊢
  obtain ⟨n, hn⟩ : ∃ n, n = y.length := ⟨_, rfl⟩
  have HNY := hide hn
  rw [← hn] at ly hpos ⊢
  rcases hb.cases with ⟨_, _, _, hnil⟩ | ⟨gb, ob, capb, hvb, hgb, hcb⟩
  · exact absurd hnil hy0
  rw [← hn] at hvb
  injection hvb with hv1 hv2 hv3
  subst hv1; subst hv3
  clear ha hb hx hy hy0 hN hv2 hyp
  by_cases h1 : n = 1
  · have hq : ((n : Int) == 1) = true := by rw [h1]; rfl
    have hcell := hcb 0 (by rw [← hn]; omega)
    obtain ⟨d, hd⟩ : ∃ d, d = lat y 0 := ⟨_, rfl⟩
    rw [← hd, Nat.add_zero] at hcell
    have hyd : y = [d] := by
      match y, hn with
      | [], hn => simp at hn; omega
      | [c], _ => rw [hd]; rfl
      | _ :: _ :: _, hn => simp at hn; omega
    have hd1 : 1 ≤ d := by have := HYP.out; rw [hyd] at this; simpa [lv] using this
    have hd2 : d < 1000000 := HY.out.lt d (by rw [hyd]; simp)
    have HS := hide (rshort_any (.slice a0 N c0) x d B w HA.out hB HX.out (by rw [← HN.out]; omega) hd1 hd2)
    rw [← hyd] at HS
    have hn0 : (0 : Int) < (n : Int) := by omega
    clear hcb hd hyd h1 hn hpos
    go_enter Tryz.func50, Tryz.ntmps50
    go_wp2_with fail
    refine HS.out.mono ?_
    rintro e w1 ⟨vq, vr, q, r, rfl, hb1, oq, or_, nq, nr, eq, er, lq⟩
    have HR := hide (show RDivRes x y w (.returned (.tuple #[vq, vr])) w1 from ⟨vq, vr, q, r, rfl, hb1, oq, or_, nq, nr, eq, er, lq⟩)
    clear hb1 oq or_ nq nr eq er lq HS
    go_wp2_with fail
    refine bodyPost_ret (results_tmp2 rfl _ _ _) rfl ?_
    exact HR.out
  · have hq : ((n : Int) == 1) = false := by
      simp only [beq_eq_false_iff_ne, ne_eq]
      omega
    obtain ⟨m, hm⟩ : ∃ m, n = m + 2 := ⟨n - 2, by omega⟩
    have hi1 : IntKind.i64.wrap ((n : Int) - 1) = ((m + 1 : Nat) : Int) := by rw [IntWalk.i64_in _ (by omega)]; omega
    have hi2 : IntKind.i64.wrap ((n : Int) - 2) = (m : Int) := by rw [IntWalk.i64_in _ (by omega)]; omega
    have hm1 : ((m + 1 : Nat) : Int) < (n : Int) := by omega
    have hm0 : (m : Int) < (n : Int) := by omega
    have hcell1 := hcb (m + 1) (by rw [← hn]; omega)
    have hcell0 := hcb m (by rw [← hn]; omega)
    have hb1l := lat_lt (by omega) HY.out.lt (m + 1)
    have hb0l := lat_lt (by omega) HY.out.lt m
    have HTOP := hide (up2 HY.out.lt (m := m) (by rw [← hn]; omega))
    obtain ⟨b1, hb1⟩ : ∃ b1, b1 = lat y (m + 1) := ⟨_, rfl⟩
    obtain ⟨b0, hb0⟩ : ∃ b0, b0 = lat y m := ⟨_, rfl⟩
    rw [← hb1] at hcell1 hb1l HTOP
    rw [← hb0] at hcell0 hb0l HTOP
    obtain ⟨T, hT, hw1, hw2, hTl⟩ := rtop_nums hb1l hb0l
    rw [← hT] at HTOP
    have hmk := make_ints N (by omega)
    have HM := hide hm
    clear hcb hn h1 hpos hb1 hb0 hT hm
    go_enter Tryz.func50, Tryz.ntmps50
    go_wp2_with fail
    go_quiet (fail)
    clear hw1 hw2 hi1 hi2 hcell1 hcell0 hm1 hm0 hb1l hb0l
    go_wp2_with fail
    have hw1s : ((w.drewN nq).alloc (rowO (zeros N))).heap.size = w.heap.size + 1 := by simp
    have HE0 := hide (show OwnL (w.heap.size + 1) (((w.drewN nq).alloc (rowO (zeros N))).alloc (.cells #[] 3)) (.slice (some ⟨w.heap.size + 1, 0, none⟩) 0 0) [] by
      have h := empty_own ((w.drewN nq).alloc (rowO (zeros N)))
      rw [hw1s] at h
      exact h)
    have HQ0 := hide (show (((w.drewN nq).alloc (rowO (zeros N))).alloc (.cells #[] 3)).heap[w.heap.size]? = some (rowO (zeros N)) from (Below.heap_alloc _ _ _ (by simp)).trans (heap_alloc_new (w.drewN nq) _))
    have HB0 := hide (show Below w.heap.size w (((w.drewN nq).alloc (rowO (zeros N))).alloc (.cells #[] 3)) from ((below_drewN (Below.refl w.heap.size w) nq).alloc (Nat.le_refl _) _).alloc (by simp) _)
    obtain ⟨w1, hw1⟩ : ∃ w1, ((w.drewN nq).alloc (rowO (zeros N))).alloc (.cells #[] 3) = w1 := ⟨_, rfl⟩
    rw [hw1] at HE0 HQ0 HB0 ⊢
    clear hmk hw1s hw1
    obtain ⟨Y, hY⟩ : ∃ Y, Y = lv 1000000 y := ⟨_, rfl⟩
    have HYV := hide hY
    clear hY
    obtain ⟨m1, hm1⟩ : ∃ m1, m1 = m + 1 := ⟨_, rfl⟩
    have HM1 := hide hm1
    have hj1 : (n : Int) - 1 = (m1 : Int) := by have := HM.out; omega
    have hj2 : (n : Int) - 2 = (m : Int) := by have := HM.out; omega
    have hmn : m ≤ 1000 := by have := HM.out; omega
    have hmn1 : m1 ≤ 1001 := by omega
    clear hm1
    go_loopw [9, 10] (fun v i wr => ∃ k : Nat, k ≤ N ∧ i = .int .i64 ((N : Int) - 1 - k) ∧ Hid (∃ Q R : List Nat, RDivAt x Y k Q (lv 1000000 R) ∧ OwnL (w.heap.size + 1) wr v R ∧ Norm 1000000 R ∧ wr.heap[w.heap.size]? = some (rowO Q) ∧ Below w.heap.size w wr)) (fun _ i _ => (intOf i + 1).toNat)
    case atStart => exact ⟨0, Nat.zero_le _, by simp, zeros N, [], by have := RDivAt.start x HYP.out; rw [← HN.out, ← HYV.out] at this; exact this, HE0.out, Norm.nil _, HQ0.out, HB0.out⟩
    case round =>
      obtain ⟨k, hk, rfl, hin⟩ := hrel
      obtain ⟨Q, R, hd, ho, hnr, hQ, hW⟩ := hin.out
      have hsz := lt_blk hQ
      by_cases hlt : k < N
      · obtain ⟨p, hp⟩ : ∃ p : Nat, (N : Int) - 1 - (k : Int) = p := ⟨N - 1 - k, by omega⟩
        rw [hp]
        have hpN : p < N := by omega
        have hpi : (p : Int) < (N : Int) := by omega
        rcases (HA.out.below hW hB).cases with ⟨_, _, _, hnil⟩ | ⟨g, o, cap, hv, hg, hc⟩
        · have := HN.out
          rw [hnil] at this
          simp at this
          omega
        injection hv with hv1 hv2 hv3
        subst hv1; subst hv3
        have q1 := hc p (by have := HN.out; omega)
        have hxp := lat_lt (by omega) HX.out p
        obtain ⟨X, hX⟩ : ∃ X, X = lat x p := ⟨_, rfl⟩
        rw [← hX] at q1 hxp
        have HXE := hide hX
        have HD := hide hd; have HNR := hide hnr; have HQ := hide hQ; have HW := hide hW; have HP := hide hp; have HO := hide ho
        have HRL := hide (show R.length ≤ n by
          have h1 := hd.rest
          rw [HYV.out] at h1
          rw [HNY.out]
          exact norm_le_b (by omega) hnr HY.out.lt (by omega))
        have HALL := hide (fun (o : Obj) => (Below.refl wr.heap.size wr).alloc (Nat.le_refl _) o)
        have HNEW := hide (show (wr.alloc (.cells #[.int .i64 X] 3)).ownsRow wr.heap.size 3 1 (.slice (some ⟨wr.heap.size, 0, none⟩) 1 1) 1 (icells [X]) from row_owns (heap_alloc_new wr (rowO [X])) (Nat.le_refl _) (by simp [maxLen]))
        obtain ⟨i0, hi0, hz0, hz1, hz2⟩ := info_parts info3
        have hrl := HRL.out
        clear hd hnr hQ hW hp hX hc hv2 hg hin hlt
        rcases ho.2 with ⟨hv, hr0⟩ | ⟨gr, capr, curr, hv, hgr, hhr, hrr⟩
        case' inl =>
          subst hv
          have hR0 : R = [] := List.eq_nil_of_length_eq_zero hr0
          clear hr0 ho
          go_wp2_with (at_builtin; go_must (refine wpList_append_own_none rfl (.tmp 51) (.tmp 52) 46 rfl wr.heap.size 3 i0 1 Tryz.underlying46 hi0 (.slice (some ⟨wr.heap.size, 0, none⟩) 1 1) 1 (icells [X]) rfl HNEW.out rfl ?_))
          have HO5 := hide (show OwnL wr.heap.size (wr.alloc (.cells #[.int .i64 X] 3)) (.slice (some ⟨wr.heap.size, 0, none⟩) 1 1) (X :: R) by
            rw [hR0]
            exact HNEW.out)
          have HB5 := hide (HALL.out (.cells #[.int .i64 X] 3))
          refine (rtrim_own wr.heap.size _ (X :: R) _ HO5.out (by simp; omega)).mono ?_
          rintro e w6 ⟨rfl, v6, rfl, h6⟩
          obtain ⟨W5, hW5⟩ : ∃ W5, wr.alloc (.cells #[.int .i64 X] 3) = W5 := ⟨_, rfl⟩
          rw [hW5] at HB5 h6 ⊢
          clear hR0 HO5 hW5
        case' inr =>
          subst hv
          have hcs := ho.cells (g := gr) rfl
          have HNS := hide (fun j u (hu : (icells R)[j]? = some u) => ((show (wr.alloc (.cells #[.int .i64 X] 3)).cell? ((⟨gr, 0, none⟩ : Addr).add j) = wr.cell? ((⟨gr, 0, none⟩ : Addr).add j) by
            rw [Addr.add_lit]
            exact cell_alloc (lt_blk hhr)).trans (hcs j u hu)))
          clear hhr hrr hcs ho
          go_wp2_with (at_builtin; go_must (refine wpList_append_own _ rfl (.tmp 51) (.tmp 52) 46 rfl wr.heap.size 3 i0 _ 1 8 Tryz.underlying46 hi0 hz0 hz1 hz2 rfl (by decide) (.slice (some ⟨wr.heap.size, 0, none⟩) 1 1) 1 (icells [X]) rfl HNEW.out ⟨gr, 0, none⟩ R.length capr (icells R) rfl (by simp [icells]) HNS.out (by simp [icells, Value.oneCell']) (by simp only [maxLen]; omega) (by omega) (by simp) ?_); intro v5 w5 hown hg1 hiff; clear hiff; have HO5 := hide (show OwnL wr.heap.size w5 v5 (X :: R) by
            unfold OwnL
            rw [show (X :: R).length = 1 + R.length by simp; omega]
            exact hown); have HB5 := hide ((HALL.out (.cells #[.int .i64 X] 3)).grown hg1 (by simp) (owns_ge HNEW.out (Nat.le_refl _))); clear hown hg1)
          refine (rtrim_own wr.heap.size v5 (X :: R) w5 HO5.out (by simp; omega)).mono ?_
          rintro e w6 ⟨rfl, v6, rfl, h6⟩
          obtain ⟨W5, hW5⟩ : ∃ W5, W5 = w5 := ⟨_, rfl⟩
          rw [← hW5] at HB5 h6 ⊢
          clear HNS HO5 hW5
        all_goals
          obtain ⟨a6, c6, hvf, _, _⟩ := h6.form
          subst hvf
          have HN6 := hide (show Norm 1000000 (trimL (X :: R)) from trimL_norm (fun z hz => by
            rcases List.mem_cons.1 hz with h | h
            · rw [h]; exact hxp
            · exact HNR.out.lt z h))
          have HL6 := hide (show lv 1000000 (trimL (X :: R)) = X + 1000000 * lv 1000000 R by rw [trimL_lv]; rfl)
          have HC6 := hide (show (trimL (X :: R)).length ≤ m + 3 by
            rw [trimL_len]
            have := trimTo_le (X :: R) (X :: R).length
            have h2 : (X :: R).length = R.length + 1 := rfl
            have := HM.out
            omega)
          obtain ⟨R1, hR1⟩ : ∃ R1, R1 = trimL (X :: R) := ⟨_, rfl⟩
          rw [← hR1] at HN6 HL6 HC6 h6 ⊢
          have H6 := hide h6
          clear h6 hR1 HNEW HALL hi0 hz0 hz1 hz2
          have hr6 := HC6.out
          go_wp2_with fail
          have hA := hide (rlimb_any (.slice a6 R1.length c6) R1 n W5.heap.size W5 H6.out.at_ (by omega))
          have hB' := hide (rlimb_any (.slice a6 R1.length c6) R1 m1 W5.heap.size W5 H6.out.at_ (by omega))
          have hC := hide (rlimb_any (.slice a6 R1.length c6) R1 m W5.heap.size W5 H6.out.at_ (by omega))
          have l2 := lat_lt (by omega) HN6.out.lt n
          have l1 := lat_lt (by omega) HN6.out.lt m1
          have l0 := lat_lt (by omega) HN6.out.lt m
          have HUP := hide (up3 HN6.out.lt hr6)
          rw [← HM.out, ← HM1.out] at HUP
          obtain ⟨L2, hL2⟩ : ∃ L2, L2 = lat R1 n := ⟨_, rfl⟩
          obtain ⟨L1, hL1⟩ : ∃ L1, L1 = lat R1 m1 := ⟨_, rfl⟩
          obtain ⟨L0, hL0⟩ : ∃ L0, L0 = lat R1 m := ⟨_, rfl⟩
          rw [← hL2] at hA l2 HUP
          rw [← hL1] at hB' l1 HUP
          rw [← hL0] at hC l0 HUP
          obtain ⟨G, hGi, hG⟩ := rdiv_nums L2 L1 L0 T
          rw [HUP.out, HTOP.out] at hG
          have hGS := guess_le (Nat.pow_pos (by omega)) hG
          obtain ⟨S, hS⟩ : ∃ S, S = lv 1000000 R1 := ⟨_, rfl⟩
          rw [← HYV.out, ← hS] at hGS
          have hSY : S < 1000000 * Y := by
            rw [hS, HL6.out]
            have := HD.out.rest
            omega
          have hGl := guess_lt hGS hSY
          have HGS := hide hGS; have HSY := hide hSY; have HS := hide hS
          have hT0 : ((T : Int) + 1 == 0) = false := by
            simp only [beq_eq_false_iff_ne, ne_eq]
            omega
          clear hL2 hL1 hL0 hG hGS hSY hS
          refine hA.out.mono ?_
          rintro e w7 ⟨rfl, he⟩
          obtain rfl := he.symm
          go_wp2_with fail
          refine hB'.out.mono ?_
          rintro e w7 ⟨rfl, he⟩
          obtain rfl := he.symm
          go_wp2_with fail
          refine hC.out.mono ?_
          rintro e w7 ⟨rfl, he⟩
          obtain rfl := he.symm
          clear hA hB' hC
          go_wp2_with fail
          rw [hGi]
          have HGI := hide hGi
          clear hGi hT0 l2 l1 l0
          have HB6 := hide (HB5.out.alloc (Nat.le_trans (Nat.le_refl _) HB5.out.size) (.cells #[.int .i64 G] 3))
          have HB7 := hide (HW.out.trans (HB6.out.mono HW.out.size))
          have HG6 := hide (show LimbAt (W5.alloc (.cells #[.int .i64 G] 3)).heap.size (W5.alloc (.cells #[.int .i64 G] 3)) (.slice (some ⟨W5.heap.size, 0, none⟩) 1 1) [G] from row_limbs (heap_alloc_new W5 (rowO [G])) (by simp [maxLen]))
          have HR6 := hide (show OwnL wr.heap.size (W5.alloc (.cells #[.int .i64 G] 3)) (.slice a6 R1.length c6) R1 from H6.out.keep ((Below.refl _ _).alloc (Nat.le_refl _) _))
          have HY6 := hide ((HBB.out.below HB7.out hB).mono (Nat.le_trans hB HB7.out.size))
          obtain ⟨W6, hW6⟩ : ∃ W6, W5.alloc (.cells #[.int .i64 G] 3) = W6 := ⟨_, rfl⟩
          rw [hW6] at HB6 HB7 HG6 HR6 HY6 ⊢
          rw [← HNY.out] at HY6
          clear hW6 H6 HB5
          have hnl : n ≤ 1000 := ly
          refine (rtimes_any _ _ y [G] W6.heap.size W6 HY6.out HG6.out (Nat.le_refl _) HY.out.lt (fun z hz => by simp only [List.mem_singleton] at hz; rw [hz]; exact hGl) (by rw [← HNY.out]; omega) (by simp)).mono ?_
          rintro e w7 ⟨l7, ⟨v7, rfl, hb7, o7⟩, n7, q7, k7⟩
          obtain ⟨a7, c7, hvf, _, _⟩ := o7.form
          subst hvf
          have HB8 := hide (HB7.out.trans (hb7.mono HB7.out.size))
          have HR7 := hide (HR6.out.keep hb7)
          have O7 := hide o7; have N7 := hide n7
          have Q7 := hide (show lv 1000000 l7 = G * Y by rw [q7, ← HYV.out, Nat.mul_comm]; simp [lv])
          have HBB7 := hide (show Below wr.heap.size wr w7 from HB6.out.trans (hb7.mono HB6.out.size))
          clear hb7 o7 n7 q7 k7 HG6 HY6 HR6 HB6 HB7
          go_wp2_with fail
          refine (rminus_any _ _ R1 l7 w7.heap.size w7 (.of_own HR7.out) (.of_own O7.out) (Nat.le_refl _) HN6.out.lt N7.out (by omega) (by rw [Q7.out, ← HS.out]; exact HGS.out)).mono ?_
          rintro e w8 ⟨l8, ⟨v8, rfl, hb8, o8⟩, n8, q8, k8⟩
          have HB9 := hide (HB8.out.trans (hb8.mono HB8.out.size))
          have hsw : w.heap.size + 1 ≤ w7.heap.size := by have := HBB7.out.size; omega
          have O8 := hide (o8.mono hsw); have N8 := hide n8
          have Q8 := hide (show G * Y + lv 1000000 l8 = S by rw [q8, Q7.out, ← HS.out]; have := HGS.out; omega)
          have HQ8 := hide (below_blk (HBB7.out.trans (hb8.mono HBB7.out.size)) HQ.out hsz)
          clear hb8 o8 n8 q8 k8 HR7 O7 N7 Q7 HBB7 HB8 hsw
          obtain ⟨wo, hwo⟩ : ∃ wo, wo = w8 := ⟨_, rfl⟩
          rw [← hwo] at HB9 O8 HQ8 ⊢
          clear hwo
          go_wp2_with fail
          go_loopw [9, 11] (fun v g wr2 => ∃ G2 : Nat, g = .int .i64 G2 ∧ G2 ≤ 1000000 ∧ Hid (∃ R2 : List Nat, OwnL (w.heap.size + 1) wr2 v R2 ∧ Norm 1000000 R2 ∧ G2 * Y + lv 1000000 R2 = S ∧ wr2.heap[w.heap.size]? = some (rowO Q) ∧ Below w.heap.size w wr2)) (fun _ g _ => 1000000 - (intOf g).toNat)
          case atStart => exact ⟨G, rfl, by omega, l8, O8.out, N8.out, Q8.out, HQ8.out, HB9.out⟩
          case round =>
            obtain ⟨G2, rfl, hG2, hin⟩ := hrel
            obtain ⟨R2, ho2, hn2, hv2, hq2, hw2⟩ := hin.out
            obtain ⟨ar, cr, hvf, _, _⟩ := ho2.form
            subst hvf
            have hlen2 : R2.length ≤ m + 3 := Nat.le_trans (norm_le_b (by omega) hn2 HN6.out.lt (by rw [← HS.out]; omega)) hr6
            have hBw : B ≤ wr.heap.size := Nat.le_trans hB hw2.size
            have hyw := (HBB.out.below hw2 hB).mono hBw
            rw [← HNY.out] at hyw
            have HO2 := hide ho2; have HN2 := hide hn2; have HV2 := hide hv2; have HQ2 := hide hq2; have HW2 := hide hw2; have HYW := hide hyw
            have hsz2 := lt_blk hq2
            have HSZ := hide (rsize_any (.slice ar R2.length cr) _ R2 y wr.heap.size wr ho2.at_ hyw (Nat.le_refl _) hn2 HY.out (by omega))
            clear ho2 hn2 hv2 hq2 hw2 hyw hin
            go_wp2_with fail
            refine HSZ.out.mono ?_
            rintro e w9 ⟨r, rfl, hr, hb9⟩
            have hb9s := hb9.size
            have HW3 := hide (HW2.out.trans (hb9.mono HW2.out.size)); have HO3 := hide (HO2.out.keep hb9); have HQ3 := hide (below_blk hb9 HQ2.out hsz2); have HYW3 := hide ((HYW.out.below hb9 (Nat.le_refl _)).mono hb9s)
            clear hb9 HSZ HW2 HO2 HQ2 HYW
            by_cases hge : 0 ≤ r
            · have hle : Y ≤ lv 1000000 R2 := by
                rw [HYV.out]
                have h1 := hr.1
                have h2 : ¬ lv 1000000 R2 < lv 1000000 y := fun h => by have := h1.2 h; omega
                omega
              have hG3 : G2 + 1 ≤ 1000000 := by
                have h1 := HSY.out
                have h2 := HV2.out
                have h3 : (G2 + 1) * Y ≤ S := by rw [Nat.add_mul]; omega
                exact Nat.le_of_lt (guess_lt h3 h1)
              have HLE := hide hle
              clear hr hle
              go_wp2_with fail
              refine (rminus_any _ _ R2 y w9.heap.size w9 HO3.out.at_ HYW3.out (Nat.le_refl _) HN2.out.lt HY.out (by omega) (by rw [← HYV.out]; exact HLE.out)).mono ?_
              rintro e w10 ⟨l10, ⟨v10, rfl, hb10, o10⟩, n10, q10, k10⟩
              have HW4 := hide (HW3.out.trans (hb10.mono HW3.out.size))
              have HO4 := hide (o10.mono (show w.heap.size + 1 ≤ w9.heap.size by omega))
              have HQ4 := hide (below_blk hb10 HQ3.out (by omega))
              have HN4 := hide n10
              have HV4 := hide (show (G2 + 1) * Y + lv 1000000 l10 = S by
                have h1 := HV2.out
                have h2 := HLE.out
                rw [q10, ← HYV.out, Nat.add_mul]
                omega)
              clear hb10 o10 n10 q10 k10
              go_wp2_with fail
              go_roundw
              case rel => exact ⟨G2 + 1, by go_num, hG3, l10, HO4.out, HN4.out, HV4.out, HQ4.out, HW4.out⟩
              case measure => simp [intOf]; omega
            · have hlt2 : lv 1000000 R2 < Y := by
                rw [HYV.out]
                exact hr.1.1 (by omega)
              have hge' : (0 ≤ r) = False := eq_false hge
              have hG3 : G2 < 1000000 := guess_lt (y := Y) (r := S) (by have := HV2.out; omega) HSY.out
              have hpQ : p < Q.length := by rw [HD.out.len, ← HN.out]; exact hpN
              have c3 := row_cell HQ3.out hpQ
              have f3 := row_froz HQ3.out p
              have hsz3 : w.heap.size < w9.heap.size := by omega
              have HRS := hide hlt2
              clear hr hge hlt2
              go_wp2_with fail
              go_roundw
              case rel =>
                refine ⟨k + 1, by have := HP.out; omega, by have := HP.out; congr 1; omega, Q.set p G2, R2, ?_, HO3.out.other (p := ⟨w.heap.size, p, none⟩) (by simp) _, HN2.out, row_set HQ3.out p G2, HW3.out.setCell (p := ⟨w.heap.size, p, none⟩) (Nat.le_refl _) _⟩
                refine HD.out.step (by have := HN.out; have := HP.out; omega) (i := p) (by have := HN.out; have := HP.out; omega) hG3 HRS.out ?_
                rw [← HXE.out]
                have h1 := HV2.out
                rw [HS.out, HL6.out] at h1
                omega
              case measure => simp [intOf]
      · obtain rfl : k = N := by omega
        have hm : (k : Int) - 1 - (k : Int) = -1 := by omega
        rw [hm]
        have hQn : Q.length = k := hd.len.trans HN.out.symm
        have HTq := hide (rtrim_own w.heap.size (.slice (some ⟨w.heap.size, 0, none⟩) k k) Q wr (by
          have := row_owns (base := w.heap.size) hQ (Nat.le_refl _) (by unfold maxLen; omega)
          rw [hQn] at this
          exact this) (by omega))
        have HD := hide hd; have HO := hide ho; have HNR := hide hnr; have HW := hide hW; have HQN := hide hQn
        clear hd ho hnr hQ hW hQn hin hlt hm hj1 hj2
        go_wp2_with fail
        refine HTq.out.mono ?_
        rintro e w5 ⟨rfl, vq, rfl, hoq⟩
        have HOQ := hide hoq
        clear hoq HTq
        go_wp2_with fail
        refine bodyPost_ret (results_tmp2 rfl _ _ _) rfl ?_
        obtain ⟨e1, e2⟩ := (show RDivAt x Y x.length Q (lv 1000000 R) by have := HD.out; rw [HN.out] at this; exact this).done
        refine ⟨_, _, trimL Q, R, rfl, HW.out, HOQ.out, HO.out.mono (by omega), trimL_norm HD.out.lt, HNR.out, by rw [trimL_lv, e1, HYV.out], by rw [e2, HYV.out], ?_⟩
        rw [trimL_len]
        have := trimTo_le Q Q.length
        have := HQN.out
        have := HN.out
        omega
end Go.Proofs.YthkioajalhglfaaGreatDoor
namespace Go.Proofs.YthkioajalhglfaaGreatDoor
open Go.RowKit Go.KP Go.KI Go.Shelf
attribute [local go_sem] Oper.semAt_some

set_option maxRecDepth 100000 in
set_option maxHeartbeats 2000000 in
theorem rDivide_small (s t : ByteArray) (B : Nat) (w : World) (c1 : chkI s.data.toList = 0) (c2 : chkI t.data.toList = 0) (hs : s.size ≤ 17) (ht : t.size ≤ 17) (h0 : t.data.toList ≠ [48]) (hB : B ≤ w.heap.size) (hT : P10 B w) :
    Calls Tryz.prog 18 #[.string s, .string t] w (Ret w (tripV (Lib.itoa ((valI s.data.toList).fdiv (valI t.data.toList))) (Lib.itoa ((valI s.data.toList).fmod (valI t.data.toList))) 0)) := by
  have H1 := hide (rboth_any s t (by omega) (by omega) w)
  have hb0 : bothI s.data.toList t.data.toList = 0 := by unfold bothI; rw [if_pos c1, c2]
  rw [hb0] at H1
  have HT := hide hT
  have H2 := hide (fun w => rtwo_yes s t c1 c2 hs ht w)
  have v1 := short_val (n := 17) c1 (by rw [bytes_len]; exact hs) (by omega)
  have v2 := short_val (n := 17) c2 (by rw [bytes_len]; exact ht) (by omega)
  rw [pow17] at v1 v2
  have hy0 : valI t.data.toList ≠ 0 := by
    intro e
    have := (chk_ok c2).1
    rw [e, itoa_zero] at this
    exact h0 this
  have hq : (t.toList == [48]) = false := by rw [ByteArray.toList_eq]; simpa using h0
  obtain ⟨x, hx⟩ : ∃ x, x = valI s.data.toList := ⟨_, rfl⟩
  obtain ⟨y, hy⟩ : ∃ y, y = valI t.data.toList := ⟨_, rfl⟩
  rw [← hx, ← hy] at H2 ⊢
  rw [← hx] at v1
  rw [← hy] at v2 hy0
  have r1 := natAbs_tmod_lt x hy0
  have q1 := natAbs_tdiv_le x y
  have hyq : (y == 0) = false := by simpa using hy0
  clear c1 c2 hs ht h0 hT hx hy hb0
  go_enter Tryz.func18, Tryz.ntmps18
  go_wp2_with fail
  refine H1.out.mono ?_
  rintro e w1 ⟨rfl, hb1⟩
  have HB1 := hide hb1
  clear hb1 H1
  go_wp2_with fail
  refine (H2.out _).mono ?_
  rintro e w2 ⟨rfl, hb2⟩
  have HB2 := hide (HB1.out.trans (hb2.mono HB1.out.size))
  clear hb2 H2 HB1
  go_wp2_with fail
  go_quiet (fail)
  obtain ⟨w3, hw3⟩ : ∃ w3, w3 = w2.drewN nq := ⟨_, rfl⟩
  rw [← hw3]
  have HB3 := hide (show Below w.heap.size w w3 by rw [hw3]; exact ⟨HB2.out.os, HB2.out.tape, HB2.out.output, HB2.out.size, HB2.out.block⟩)
  clear hw3 HB2
  have FS := hide (floor_same (x := x) hy0); have FL := hide (floor_less (x := x) hy0)
  obtain ⟨q, hq2⟩ : ∃ q, q = x.tdiv y := ⟨_, rfl⟩
  obtain ⟨r, hr2⟩ : ∃ r, r = x.tmod y := ⟨_, rfl⟩
  rw [← hq2] at q1
  rw [← hr2] at r1
  rw [← hq2, ← hr2] at FS FL ⊢
  clear hq2 hr2 hyq hy0 hq
  obtain ⟨g, hg⟩ : ∃ g, g = x.fdiv y := ⟨_, rfl⟩
  obtain ⟨h, hh⟩ : ∃ h, h = x.fmod y := ⟨_, rfl⟩
  rw [← hg, ← hh] at FS FL
  have HG := hide hg; have HH := hide hh
  clear hg hh
  by_cases hr0 : r = 0
  · obtain ⟨f1, f2⟩ := FS.out (.inl hr0)
    have t1 : (r != 0) = false := by simp [hr0]
    have F1 := hide (f1.trans HG.out); have F2 := hide (f2.trans HH.out)
    clear hr0 f1 f2
    go_wp2_with fail
    refine (itoa_any q (by omega) (by omega) B _ (HT.out.on HB3.out hB)).mono ?_
    rintro e w4 ⟨rfl, hb4⟩
    have HB4 := hide (HB3.out.trans (hb4.mono HB3.out.size))
    clear hb4 HB3
    go_wp2_with fail
    refine (itoa_any r (by omega) (by omega) B _ (HT.out.on HB4.out hB)).mono ?_
    rintro e w5 ⟨rfl, hb5⟩
    have HB5 := hide (HB4.out.trans (hb5.mono HB4.out.size))
    clear hb5 HB4
    go_wp2_with fail
    refine bodyPost_ret (results_tmp3' rfl _ _ _) rfl ?_
    exact ⟨by rw [← F1.out, ← F2.out]; rfl, HB5.out⟩
  · have t1 : (r != 0) = true := by simpa using hr0
    by_cases h1 : r < 0
    · by_cases h2 : y < 0
      · obtain ⟨f1, f2⟩ := FS.out (.inr ⟨fun _ => h2, fun _ => h1⟩)
        have F1 := hide (f1.trans HG.out); have F2 := hide (f2.trans HH.out)
        clear hr0 f1 f2
        go_wp2_with fail
        refine (itoa_any q (by omega) (by omega) B _ (HT.out.on HB3.out hB)).mono ?_
        rintro e w4 ⟨rfl, hb4⟩
        have HB4 := hide (HB3.out.trans (hb4.mono HB3.out.size))
        clear hb4 HB3
        go_wp2_with fail
        refine (itoa_any r (by omega) (by omega) B _ (HT.out.on HB4.out hB)).mono ?_
        rintro e w5 ⟨rfl, hb5⟩
        have HB5 := hide (HB4.out.trans (hb5.mono HB4.out.size))
        clear hb5 HB4
        go_wp2_with fail
        refine bodyPost_ret (results_tmp3' rfl _ _ _) rfl ?_
        exact ⟨by rw [← F1.out, ← F2.out]; rfl, HB5.out⟩
      · obtain ⟨f1, f2⟩ := FL.out hr0 (fun e => h2 (e.1 h1))
        have F1 := hide (f1.trans HG.out); have F2 := hide (f2.trans HH.out)
        have t2 : (y < 0) = False := eq_false h2
        clear hr0 f1 f2 h2
        go_wp2_with fail
        refine (itoa_any (q-1) (by omega) (by omega) B _ (HT.out.on HB3.out hB)).mono ?_
        rintro e w4 ⟨rfl, hb4⟩
        have HB4 := hide (HB3.out.trans (hb4.mono HB3.out.size))
        clear hb4 HB3
        go_wp2_with fail
        refine (itoa_any (r+y) (by omega) (by omega) B _ (HT.out.on HB4.out hB)).mono ?_
        rintro e w5 ⟨rfl, hb5⟩
        have HB5 := hide (HB4.out.trans (hb5.mono HB4.out.size))
        clear hb5 HB4
        go_wp2_with fail
        refine bodyPost_ret (results_tmp3' rfl _ _ _) rfl ?_
        exact ⟨by rw [← F1.out, ← F2.out]; rfl, HB5.out⟩
    · by_cases h2 : y < 0
      · obtain ⟨f1, f2⟩ := FL.out hr0 (fun e => h1 (e.2 h2))
        have F1 := hide (f1.trans HG.out); have F2 := hide (f2.trans HH.out)
        have t2 : (r < 0) = False := eq_false h1
        clear hr0 f1 f2 h1
        go_wp2_with fail
        refine (itoa_any (q-1) (by omega) (by omega) B _ (HT.out.on HB3.out hB)).mono ?_
        rintro e w4 ⟨rfl, hb4⟩
        have HB4 := hide (HB3.out.trans (hb4.mono HB3.out.size))
        clear hb4 HB3
        go_wp2_with fail
        refine (itoa_any (r+y) (by omega) (by omega) B _ (HT.out.on HB4.out hB)).mono ?_
        rintro e w5 ⟨rfl, hb5⟩
        have HB5 := hide (HB4.out.trans (hb5.mono HB4.out.size))
        clear hb5 HB4
        go_wp2_with fail
        refine bodyPost_ret (results_tmp3' rfl _ _ _) rfl ?_
        exact ⟨by rw [← F1.out, ← F2.out]; rfl, HB5.out⟩
      · obtain ⟨f1, f2⟩ := FS.out (.inr ⟨fun e => absurd e h1, fun e => absurd e h2⟩)
        have F1 := hide (f1.trans HG.out); have F2 := hide (f2.trans HH.out)
        have t2 : (r < 0) = False := eq_false h1
        have t3 : (y < 0) = False := eq_false h2
        clear hr0 f1 f2 h1 h2
        go_wp2_with fail
        refine (itoa_any q (by omega) (by omega) B _ (HT.out.on HB3.out hB)).mono ?_
        rintro e w4 ⟨rfl, hb4⟩
        have HB4 := hide (HB3.out.trans (hb4.mono HB3.out.size))
        clear hb4 HB3
        go_wp2_with fail
        refine (itoa_any r (by omega) (by omega) B _ (HT.out.on HB4.out hB)).mono ?_
        rintro e w5 ⟨rfl, hb5⟩
        have HB5 := hide (HB4.out.trans (hb5.mono HB4.out.size))
        clear hb5 HB4
        go_wp2_with fail
        refine bodyPost_ret (results_tmp3' rfl _ _ _) rfl ?_
        exact ⟨by rw [← F1.out, ← F2.out]; rfl, HB5.out⟩
set_option maxRecDepth 100000 in
set_option maxHeartbeats 2000000 in
theorem rDivide_zero {s t : ByteArray} (c1 : chkI s.data.toList = 0) (h2 : t.data.toList = [48]) (w : World) :
    Calls Tryz.prog 18 #[.string s, .string t] w (Ret w (.tuple #[.string ⟨#[]⟩, .string ⟨#[]⟩, .int .i64 12])) := by
  have l1 := (chk_digs c1).2
  rw [bytes_len] at l1
  have l2 : t.size = 1 := by rw [← bytes_len, h2]; rfl
  have H1 := hide (rboth_any s t (by omega) (by omega) w)
  have c2 : chkI t.data.toList = 0 := by rw [h2, ← itoa_zero]; exact chk_fits fits_zero
  have hb0 : bothI s.data.toList t.data.toList = 0 := by unfold bothI; rw [if_pos c1, c2]
  rw [hb0] at H1
  have hq : (t.toList == [48]) = true := by rw [ByteArray.toList_eq]; simpa using h2
  clear c1 c2 h2 hb0 l1 l2
  go_enter Tryz.func18, Tryz.ntmps18
  go_wp2_with fail
  refine H1.out.mono ?_
  rintro e w1 ⟨rfl, hb1⟩
  have HB1 := hide hb1
  clear hb1 H1
  go_wp2_with fail
  refine bodyPost_ret (results_tmp3' rfl _ _ _) rfl ?_
  exact ⟨rfl, HB1.out⟩
set_option maxRecDepth 100000 in
set_option maxHeartbeats 2000000 in
theorem rDivide_bad (s t : ByteArray) (hs : s.size ≤ 1000000) (ht : t.size ≤ 1000000) (hE : bothI s.data.toList t.data.toList ≠ 0) (w : World) :
    Calls Tryz.prog 18 #[.string s, .string t] w (Ret w (.tuple #[.string ⟨#[]⟩, .string ⟨#[]⟩, .int .i64 (bothI s.data.toList t.data.toList)])) := by
  have H1 := hide (rboth_any s t hs ht w)
  have hne : (bothI s.data.toList t.data.toList != 0) = true := by simpa using hE
  obtain ⟨E, hEE⟩ : ∃ E, E = bothI s.data.toList t.data.toList := ⟨_, rfl⟩
  rw [← hEE] at H1 hne ⊢
  clear hE hEE
  go_enter Tryz.func18, Tryz.ntmps18
  go_wp2_with fail
  refine H1.out.mono ?_
  rintro e w1 ⟨rfl, hb1⟩
  have HB1 := hide hb1
  clear hb1 H1
  go_wp2_with fail
  refine bodyPost_ret (results_tmp3' rfl _ _ _) rfl ?_
  exact ⟨rfl, HB1.out⟩
set_option maxRecDepth 100000 in
set_option maxHeartbeats 2000000 in
theorem Divide_bad (s t : ByteArray) (hs : s.size ≤ 1000000) (ht : t.size ≤ 1000000) (hE : bothI s.data.toList t.data.toList ≠ 0) (w : World) :
    Calls Tryz.prog 17 #[.string s, .string t] w (Ret w (.tuple #[.string ⟨#[]⟩, .string ⟨#[]⟩, .int .i64 (bothI s.data.toList t.data.toList)])) := by
  have H1 := hide (both_any s t hs ht w)
  have hne : (bothI s.data.toList t.data.toList != 0) = true := by simpa using hE
  obtain ⟨E, hEE⟩ : ∃ E, E = bothI s.data.toList t.data.toList := ⟨_, rfl⟩
  rw [← hEE] at H1 hne ⊢
  clear hE hEE
  go_enter Tryz.func17, Tryz.ntmps17
  go_wp2_with fail
  refine H1.out.mono ?_
  rintro e w1 ⟨rfl, hb1⟩
  have HB1 := hide hb1
  clear hb1 H1
  go_wp2_with fail
  refine bodyPost_ret (results_tmp3' rfl _ _ _) rfl ?_
  exact ⟨rfl, HB1.out⟩
end Go.Proofs.YthkioajalhglfaaGreatDoor
namespace Go.Proofs.YthkioajalhglfaaGreatDoor
open Go.RowKit Go.KP Go.KI Go.Shelf
attribute [local go_sem] Oper.semAt_some

theorem row1 {w : World} : LimbAt (w.alloc (.cells #[.int .i64 1] 3)).heap.size (w.alloc (.cells #[.int .i64 1] 3)) (.slice (some ⟨w.heap.size, 0, none⟩) ([1] : List Nat).length 1) [1] := row_limbs (heap_alloc_new w (rowO [1])) (by simp [maxLen])
theorem norm1 : Norm 1000000 [1] := ⟨fun z hz => by simp only [List.mem_singleton] at hz; omega, .inr (by simp [lat])⟩
/-- The blocks of Divide behind the division: quotient, rest, divisor. -/
structure RDivSt (nb b : Nat) (mq mr my : Bool) (vq vr vy : Value) (W : World) : Prop where
  q : W.heap[b]? = some (bigO mq vq)
  r : W.heap[b + 1]? = some (bigO mr vr)
  y : W.heap[nb + 1]? = some (bigO my vy)
  lt : nb + 1 < b
theorem RDivSt.on {nb b : Nat} {mq mr my : Bool} {vq vr vy : Value} {W W2 : World} (h : RDivSt nb b mq mr my vq vr vy W) (hb : Below W.heap.size W W2) : RDivSt nb b mq mr my vq vr vy W2 :=
  ⟨below_blk hb h.q (lt_blk h.q), below_blk hb h.r (lt_blk h.r), below_blk hb h.y (lt_blk h.y), h.lt⟩
theorem RDivSt.cells {nb b : Nat} {mq mr my : Bool} {vq vr vy : Value} {W : World} (h : RDivSt nb b mq mr my vq vr vy W) :
    (W.cell? ⟨b, 0, none⟩ = some (.bool mq) ∧ W.cell? ⟨b, 1, none⟩ = some vq) ∧ (W.cell? ⟨b + 1, 0, none⟩ = some (.bool mr) ∧ W.cell? ⟨b + 1, 1, none⟩ = some vr) ∧ (W.cell? ⟨nb + 1, 0, none⟩ = some (.bool my) ∧ W.cell? ⟨nb + 1, 1, none⟩ = some vy) ∧
    (W.frozen? ⟨b, 0, none⟩ = false ∧ W.frozen? ⟨b, 1, none⟩ = false) ∧ (W.frozen? ⟨b + 1, 0, none⟩ = false ∧ W.frozen? ⟨b + 1, 1, none⟩ = false) ∧ b < W.heap.size ∧ b + 1 < W.heap.size ∧ nb + 1 < W.heap.size :=
  ⟨⟨cell_blk h.q 0, cell_blk h.q 1⟩, ⟨cell_blk h.r 0, cell_blk h.r 1⟩, ⟨cell_blk h.y 0, cell_blk h.y 1⟩, ⟨froz_blk h.q 0, froz_blk h.q 1⟩, ⟨froz_blk h.r 0, froz_blk h.r 1⟩, lt_blk h.q, lt_blk h.r, lt_blk h.y⟩
theorem RDivSt.setq {nb b : Nat} {mq mr my : Bool} {vq vr vy : Value} {W : World} (h : RDivSt nb b mq mr my vq vr vy W) (m : Bool) (v : Value) :
    RDivSt nb b m mr my v vr vy ((W.setCell ⟨b, 0, none⟩ (.bool m)).setCell ⟨b, 1, none⟩ v) ∧ Below b W ((W.setCell ⟨b, 0, none⟩ (.bool m)).setCell ⟨b, 1, none⟩ v) := by
  obtain ⟨s1, s2⟩ := set2 h.q (.bool m) v
  have := h.lt
  exact ⟨⟨s1, (setCell_other (by omega)).trans ((setCell_other (by omega)).trans h.r), (setCell_other (by omega)).trans ((setCell_other (by omega)).trans h.y), h.lt⟩, s2⟩
theorem RDivSt.setr {nb b : Nat} {mq mr my : Bool} {vq vr vy : Value} {W : World} (h : RDivSt nb b mq mr my vq vr vy W) (m : Bool) (v : Value) :
    RDivSt nb b mq m my vq v vy ((W.setCell ⟨b + 1, 0, none⟩ (.bool m)).setCell ⟨b + 1, 1, none⟩ v) ∧ Below b W ((W.setCell ⟨b + 1, 0, none⟩ (.bool m)).setCell ⟨b + 1, 1, none⟩ v) := by
  obtain ⟨s1, s2⟩ := set2 h.r (.bool m) v
  have := h.lt
  exact ⟨⟨(setCell_other (by omega)).trans ((setCell_other (by omega)).trans h.q), s1, (setCell_other (by omega)).trans ((setCell_other (by omega)).trans h.y), h.lt⟩, s2.mono (by omega)⟩
/-- A row that is none of the numbers' blocks stays where a number is set. -/
theorem OwnL.setNum {base nb : Nat} {W : World} {v u : Value} {m : Bool} {l : List Nat} (h : OwnL base W v l) (hb : W.heap[nb]? = some (bigO m u)) (m2 : Bool) (u2 : Value) : OwnL base ((W.setCell ⟨nb, 0, none⟩ (.bool m2)).setCell ⟨nb, 1, none⟩ u2) v l :=
  owns_stay h (fun r hr => by
    have := own_ne_big h hb r hr
    rw [setCell_other (by omega), setCell_other (by omega)])
set_option maxRecDepth 100000 in
set_option maxHeartbeats 16000000 in
theorem rDivide_long (s t : ByteArray) (w : World) (c1 : chkI s.data.toList = 0) (c2 : chkI t.data.toList = 0) (hl : ¬ (s.size ≤ 17 ∧ t.size ≤ 17)) (h0 : t.data.toList ≠ [48]) :
    Calls Tryz.prog 18 #[.string s, .string t] w (Ret w (tripV (Lib.itoa ((valI s.data.toList).fdiv (valI t.data.toList))) (Lib.itoa ((valI s.data.toList).fmod (valI t.data.toList))) 0)) := by
  have l1' := (chk_digs c1).2
  have l2' := (chk_digs c2).2
  rw [bytes_len] at l1' l2'
  have H1 := hide (rboth_any s t (by omega) (by omega) w)
  have hb0 : bothI s.data.toList t.data.toList = 0 := by unfold bothI; rw [if_pos c1, c2]
  rw [hb0] at H1
  have hy0 := chk_nz c2 h0
  have hq : (t.toList == [48]) = false := by rw [ByteArray.toList_eq]; simpa using h0
  have FQ := hide (res_fit (fits_of_le (chk_ok c1).2 (fdiv_natAbs_le (x := valI s.data.toList) hy0)))
  have H2 := hide (fun w => rtwo_no s t c1 hl w)
  have R1 := hide (fun w => rread_good s c1 w)
  have R2 := hide (fun w => rread_good t c2 w)
  obtain ⟨QS, hQS⟩ : ∃ u, u = strB (Lib.itoa ((valI s.data.toList).fdiv (valI t.data.toList))) := ⟨_, rfl⟩
  obtain ⟨RS, hRS⟩ : ∃ u, u = strB (Lib.itoa ((valI s.data.toList).fmod (valI t.data.toList))) := ⟨_, rfl⟩
  rw [tripV, ← hQS, ← hRS]
  have HQS := hide hQS; have HRS := hide hRS
  clear c1 c2 hl h0 hb0 l1' l2' hQS hRS
  go_enter Tryz.func18, Tryz.ntmps18
  go_wp2_with fail
  refine H1.out.mono ?_
  rintro e w1 ⟨rfl, hb1⟩
  have HB1 := hide hb1
  clear hb1 H1
  go_wp2_with fail
  refine (H2.out _).mono ?_
  rintro e w2 ⟨x0, y0, rfl, hb2⟩
  have HB2 := hide (HB1.out.trans (hb2.mono HB1.out.size))
  clear hb2 H2 HB1
  go_wp2_with fail
  refine (R1.out _).mono ?_
  rintro e w3 ⟨m1, v1, l1, rfl, hb3, o1, n1, q1, k1⟩
  have HB3 := hide (HB2.out.trans (hb3.mono HB2.out.size))
  have O1 := hide o1; have N1 := hide n1; have Q1 := hide q1
  clear hb3 HB2 R1 o1 n1 q1
  go_wp2_with fail
  refine (R2.out _).mono ?_
  rintro e w4 ⟨m2, v2, l2, rfl, hb4, o2, n2, q2, k2⟩
  have HB4 := hide (HB3.out.trans (hb4.mono HB3.out.size))
  have O1' := hide (O1.out.keep hb4)
  have O2 := hide o2; have N2 := hide n2; have Q2 := hide q2
  clear hb4 HB3 R2 o2 n2 q2 O1
  obtain ⟨av1, cv1, hvf, _, _⟩ := O1'.out.form
  subst hvf
  obtain ⟨av2, cv2, hvf, _, _⟩ := O2.out.form
  subst hvf
  have hl2 : l2 ≠ [] := by
    intro e
    have h := Q2.out
    rw [e] at h
    apply hy0
    rw [← h]
    cases m2 <;> rfl
  have hly : 0 < lv 1000000 l2 := by
    rcases Nat.eq_zero_or_pos (lv 1000000 l2) with h | h
    · exact absurd ((N2.out.zero (by omega)).1 h) hl2
    · exact h
  obtain ⟨g0, g1, gs0, gb0⟩ := heap2 w4 (bigO m1 (.slice av1 l1.length cv1)) (bigO m2 (.slice av2 l2.length cv2))
  obtain ⟨w5, hw5⟩ : ∃ w5, (w4.alloc (bigO m1 (.slice av1 l1.length cv1))).alloc (bigO m2 (.slice av2 l2.length cv2)) = w5 := ⟨_, rfl⟩
  rw [hw5] at g0 g1 gs0 gb0
  have c1 := cell_blk g0 1
  have c3 := cell_blk g1 1
  have HDV := hide (rdivide_any (.slice av1 l1.length cv1) (.slice av2 l2.length cv2) l1 l2 w5.heap.size w5 (LimbAt.of_own (O1'.out.keep gb0)) (LimbAt.of_own (O2.out.keep gb0)) (Nat.le_refl _) N1.out.lt N2.out hl2 (by omega) (by omega))
  have O2' := hide (O2.out.keep gb0)
  have HB5 := hide (HB4.out.trans (gb0.mono HB4.out.size)); have G0 := hide g0; have G1 := hide g1
  have hs5 : w4.heap.size + 1 < w5.heap.size := by omega
  have FL := hide (floor_long m1 m2 (a := lv 1000000 l1) hly)
  rw [Q1.out, Q2.out] at FL
  have HW5 := hide hw5
  clear g0 g1 gs0 gb0 O1' O2 HB4 hy0 hw5
  go_wp2_with fail
  rw [HW5.out]
  clear HW5
  obtain ⟨nb, hnb⟩ : ∃ nb, nb = w4.heap.size := ⟨_, rfl⟩
  rw [← hnb] at c1 c3 G0 G1 hs5 ⊢
  have HNB := hide hnb
  clear hnb
  refine HDV.out.mono ?_
  rintro e w6 ⟨vq, vr, q, r, rfl, hb6, oq, or_, nq, nr, eq, er, lq⟩
  obtain ⟨aq, cq, hvf, _, _⟩ := oq.form
  subst hvf
  obtain ⟨ar, cr, hvf, _, _⟩ := or_.form
  subst hvf
  have HBZ := hide (HB5.out.trans (hb6.mono HB5.out.size))
  have G0Z := hide (below_blk hb6 G0.out (by omega))
  have G1Z := hide (below_blk hb6 G1.out (by omega))
  have O2Z := hide (O2'.out.keep hb6)
  have hs6 : nb + 1 < w6.heap.size := Nat.lt_of_lt_of_le hs5 hb6.size
  have lr : r.length ≤ l2.length := norm_le_b (by omega) nr N2.out.lt (by rw [er]; exact Nat.le_of_lt (Nat.mod_lt _ hly))
  have OQ := hide oq; have OR := hide or_; have NQ := hide nq; have NR := hide nr; have ER := hide er
  rw [← eq, ← er] at FL
  clear hb6 oq or_ nq nr eq er c1 c3 HB5 G0 G1 O2' HDV
  have z0 := cell_blk G0Z.out 0
  have z1 := cell_blk G1Z.out 0
  have zA : ∀ o1 o2 : Obj, ((w6.alloc o1).alloc o2).cell? ⟨nb, 0, none⟩ = some (.bool m1) := fun o1 o2 => (cell_alloc (by simp; omega)).trans ((cell_alloc (by omega)).trans z0)
  have zB : ∀ o1 o2 : Obj, ((w6.alloc o1).alloc o2).cell? ⟨nb + 1, 0, none⟩ = some (.bool m2) := fun o1 o2 => (cell_alloc (by simp; omega)).trans ((cell_alloc (by omega)).trans z1)
  have hqc : (q = [] ∧ (0 < q.length) = False) ∨ (q ≠ [] ∧ 0 < q.length) := by
    by_cases h : q = []
    · exact .inl ⟨h, eq_false (by rw [h]; simp)⟩
    · exact .inr ⟨h, List.length_pos_iff.2 h⟩
  have hrc : (r = [] ∧ (0 < r.length) = False) ∨ (r ≠ [] ∧ 0 < r.length) := by
    by_cases h : r = []
    · exact .inl ⟨h, eq_false (by rw [h]; simp)⟩
    · exact .inr ⟨h, List.length_pos_iff.2 h⟩
  by_cases had : m1 ≠ m2 ∧ r ≠ []
  · obtain ⟨hm, hr⟩ := had
    have hr1 : lv 1000000 r ≠ 0 := fun e => hr ((NR.out.zero (by omega)).1 e)
    obtain ⟨f1, f2⟩ := FL.out.2 hm hr1
    have hm2 : m2 = !m1 := by cases m1 <;> cases m2 <;> simp_all
    have hrl : 0 < r.length := List.length_pos_iff.2 hr
    have hlt : lv 1000000 r ≤ lv 1000000 l2 := by
      rw [ER.out]
      exact Nat.le_of_lt (Nat.mod_lt _ hly)
    have HZ1 := hide (show -((lv 1000000 q : Nat) : Int) + -1 = (valI s.data.toList).fdiv (valI t.data.toList) by
      rw [← f1, hm2]
      cases m1 <;> simp [valS] <;> omega)
    have HZ2 := hide (show valS m1 (lv 1000000 r) + valS m2 (lv 1000000 l2) = (valI s.data.toList).fmod (valI t.data.toList) by
      rw [← f2, hm2]
      exact valS_sub2 m1 hlt)
    have HF0 := hide (fun (a b : Bool) => heap2 w6 (bigO a (.slice aq q.length cq)) (bigO b (.slice ar r.length cr)))
    have HST := hide (fun (sq sr : Bool) => show RDivSt nb w6.heap.size sq sr m2 (.slice aq q.length cq) (.slice ar r.length cr) (.slice av2 l2.length cv2) ((w6.alloc (bigO sq (.slice aq q.length cq))).alloc (bigO sr (.slice ar r.length cr))) from
      ⟨(heap2 w6 _ _).1, (heap2 w6 _ _).2.1, below_blk (heap2 w6 _ _).2.2.2 G1Z.out hs6, hs6⟩)
    have HA := hide (fun (sq sr : Bool) (h : valS sq (lv 1000000 q) = -((lv 1000000 q : Nat) : Int)) => show Calls Tryz.prog 51 #[numV sq (.slice aq q.length cq), numV true (.slice (some ⟨w6.heap.size + 1 + 1, 0, none⟩) 1 1)] (((w6.alloc (bigO sq (.slice aq q.length cq))).alloc (bigO sr (.slice ar r.length cr))).alloc (.cells #[.int .i64 1] 3))
        (fun e W2 => ∃ m3 a3 c3 l3, e = .returned (numV m3 (.slice a3 l3.length c3)) ∧ Hid (RDivSt nb w6.heap.size sq sr m2 (.slice aq q.length cq) (.slice ar r.length cr) (.slice av2 l2.length cv2) W2 ∧ Below w6.heap.size w6 W2 ∧ OwnL w6.heap.size W2 (.slice a3 l3.length c3) l3 ∧ Norm 1000000 l3 ∧ valS m3 (lv 1000000 l3) = (valI s.data.toList).fdiv (valI t.data.toList)) ∧ l3.length ≤ 200) by
      have hb6 : Below w6.heap.size w6 (((w6.alloc (bigO sq (.slice aq q.length cq))).alloc (bigO sr (.slice ar r.length cr))).alloc (.cells #[.int .i64 1] 3)) := (heap2 w6 _ _).2.2.2.alloc (heap2 w6 _ _).2.2.2.size _
      have h1 := row1 (w := (w6.alloc (bigO sq (.slice aq q.length cq))).alloc (bigO sr (.slice ar r.length cr)))
      rw [(heap2 w6 _ _).2.2.1] at h1
      refine (radd_any sq true aq (some ⟨w6.heap.size + 1 + 1, 0, none⟩) cq 1 q [1] _ (.of_own (OQ.out.keep hb6)) h1 NQ.out norm1 (by omega) (by simp)).mono ?_
      rintro e W2 ⟨m3, v3, l3, rfl, hb3, o3, n3, q3, k3⟩
      obtain ⟨a3, c3, hvf, _, _⟩ := o3.form
      subst hvf
      refine ⟨m3, a3, c3, l3, rfl, ⟨?_, hb6.trans (hb3.mono hb6.size), o3.mono hb6.size, n3, ?_⟩, by simp at k3; omega⟩
      · exact ((HST.out sq sr).on ((Below.refl _ _).alloc (Nat.le_refl _) _)).on hb3
      · rw [q3, h, ← HZ1.out]
        rfl)
    have HC := hide (fun (sr : Bool) (W : World) (hb : Below w6.heap.size w6 W) => radd_any sr m2 ar av2 cr cv2 r l2 W (.of_own (OR.out.keep hb)) (.of_own (O2Z.out.keep hb)) NR.out N2.out (by omega) (by omega))
    clear FL hrc f1 f2 hr1 hlt
    subst hm2
    rcases hqc with ⟨hq0, hqi⟩ | ⟨hq0, hqi⟩ <;> cases m1
    all_goals
      have HQ0 := hide hq0
      clear hq0 hr hm
      go_wp2_with fail
      refine (HA.out _ _ (by first | rfl | (rw [HQ0.out]; rfl))).mono ?_
      rintro e w7 ⟨m3, a3, c3, l3, rfl, hst, k3⟩
      have ST := hide hst.out.1; have HB7 := hide hst.out.2.1; have O3 := hide hst.out.2.2.1; have N3 := hide hst.out.2.2.2.1; have Q3 := hide hst.out.2.2.2.2
      obtain ⟨⟨e1, e2⟩, ⟨e3, e4⟩, ⟨e5, e6⟩, ⟨e7, e8⟩, ⟨e9, e10⟩, e11, e12, e13⟩ := ST.out.cells
      clear hst HA zA zB z0 z1
      have ne1 : (w6.heap.size = w6.heap.size + 1) = False := eq_false (by omega)
      have ne2 : (w6.heap.size = nb + 1) = False := eq_false (by omega)
      go_wp2_with fail
      have ST8 := hide (ST.out.setq m3 (.slice a3 l3.length c3)).1
      have HB8 := hide (HB7.out.trans (ST.out.setq m3 (.slice a3 l3.length c3)).2)
      have O8 := hide (O3.out.setNum ST.out.q m3 (.slice a3 l3.length c3))
      obtain ⟨w8, hw8⟩ : ∃ w8, (w7.setCell ⟨w6.heap.size, 0, none⟩ (.bool m3)).setCell ⟨w6.heap.size, 1, none⟩ (.slice a3 l3.length c3) = w8 := ⟨_, rfl⟩
      rw [hw8] at ST8 HB8 O8 ⊢
      clear hw8 e1 e2 e3 e4 e5 e6 e7 e8 e9 e10 e11 e12 e13 ST HB7 O3 ne1 ne2
      refine (HC.out _ w8 HB8.out).mono ?_
      rintro e w9 ⟨m4, v4, l4, rfl, hb9, o4, n4, q4, k4⟩
      obtain ⟨a4, c4, hvf, _, _⟩ := o4.form
      subst hvf
      have ST9 := hide (ST8.out.on hb9)
      have HB9 := hide (HB8.out.trans (hb9.mono HB8.out.size)); have O9 := hide (O8.out.keep hb9)
      have O4 := hide (o4.mono HB8.out.size); have N4 := hide n4
      have Q4 := hide (q4.trans HZ2.out)
      have hk4 : l4.length ≤ 100 := by omega
      obtain ⟨⟨e1, e2⟩, ⟨e3, e4⟩, ⟨e5, e6⟩, ⟨e7, e8⟩, ⟨e9, e10⟩, e11, e12, e13⟩ := ST9.out.cells
      have ne3 : (w6.heap.size + 1 = w6.heap.size) = False := eq_false (by omega)
      clear hb9 o4 n4 q4 k4 ST8 HB8 O8 HC
      go_wp2_with fail
      clear e1 e2 e3 e4 e5 e6 e7 e8 e9 e10 e11 e12 e13 ne3
      have STA := hide (ST9.out.setr m4 (.slice a4 l4.length c4)).1
      have HBA := hide (HB9.out.trans (ST9.out.setr m4 (.slice a4 l4.length c4)).2)
      have O3A := hide (O9.out.setNum ST9.out.r m4 (.slice a4 l4.length c4))
      have O4A := hide (O4.out.setNum ST9.out.r m4 (.slice a4 l4.length c4))
      obtain ⟨wA, hwA⟩ : ∃ wA, (w9.setCell ⟨w6.heap.size + 1, 0, none⟩ (.bool m4)).setCell ⟨w6.heap.size + 1, 1, none⟩ (.slice a4 l4.length c4) = wA := ⟨_, rfl⟩
      rw [hwA] at STA HBA O3A O4A ⊢
      clear hwA ST9 HB9 O9 O4
      have hres := rresult_any m3 (.slice a3 l3.length c3) l3 wA.heap.size wA (.of_own O3A.out) (Nat.le_refl _) N3.out (by omega)
      rw [Q3.out, FQ.out.1, FQ.out.2, pairV, ← HQS.out] at hres
      refine hres.mono ?_
      clear hres
      rintro e wB ⟨rfl, hbB⟩
      have STB := hide (STA.out.on hbB)
      have HBB := hide (HBA.out.trans (hbB.mono HBA.out.size)); have O4B := hide (O4A.out.keep hbB)
      obtain ⟨⟨e1, e2⟩, ⟨e3, e4⟩, ⟨e5, e6⟩, ⟨e7, e8⟩, ⟨e9, e10⟩, e11, e12, e13⟩ := STB.out.cells
      clear hbB STA HBA O3A O4A
      go_wp2_with fail
      have hwr := rwrite_any m4 (.slice a4 l4.length c4) l4 wB.heap.size wB (.of_own O4B.out) (Nat.le_refl _) N4.out (by omega)
      rw [Q4.out, ← HRS.out] at hwr
      refine hwr.mono ?_
      clear hwr e1 e2 e3 e4 e5 e6 e7 e8 e9 e10 e11 e12 e13
      rintro e wC ⟨rfl, hbC⟩
      have HBC := hide (HBZ.out.trans ((HBB.out.trans (hbC.mono HBB.out.size)).mono HBZ.out.size))
      clear hbC
      go_wp2_with fail
      refine bodyPost_ret (results_tmp3' rfl _ _ _) rfl ?_
      exact ⟨rfl, HBC.out⟩
  · have hz : valS (!(m1 == m2)) (lv 1000000 q) = (valI s.data.toList).fdiv (valI t.data.toList) ∧ valS m1 (lv 1000000 r) = (valI s.data.toList).fmod (valI t.data.toList) := by
      by_cases hm : m1 = m2
      · obtain ⟨f1, f2⟩ := FL.out.1 (.inl hm)
        exact ⟨f1, by rw [← hm] at f2; exact f2⟩
      · have hr : r = [] := by
          rcases hrc with h | h
          · exact h.1
          · exact absurd ⟨hm, h.1⟩ had
        obtain ⟨f1, f2⟩ := FL.out.1 (.inr (by rw [hr]; rfl))
        refine ⟨f1, ?_⟩
        rw [← f2, hr]
        cases m1 <;> cases m2 <;> rfl
    have HZ := hide hz; have HAD := hide had
    have HR1 := hide (fun (m : Bool) (W : World) (hb : Below w6.heap.size w6 W) (hm : valS m (lv 1000000 q) = (valI s.data.toList).fdiv (valI t.data.toList)) => show Calls Tryz.prog 43 #[numV m (.slice aq q.length cq)] W (Ret W (.tuple #[.string QS, .int .i64 0])) by
      have h := rresult_any m (.slice aq q.length cq) q W.heap.size W (.of_own (OQ.out.keep hb)) (Nat.le_refl _) NQ.out (by omega)
      rw [hm, FQ.out.1, FQ.out.2, pairV, ← HQS.out] at h
      exact h)
    have HR2 := hide (fun (m : Bool) (W : World) (hb : Below w6.heap.size w6 W) (hm : valS m (lv 1000000 r) = (valI s.data.toList).fmod (valI t.data.toList)) => show Calls Tryz.prog 52 #[numV m (.slice ar r.length cr)] W (Ret W (.string RS)) by
      have h := rwrite_any m (.slice ar r.length cr) r W.heap.size W (.of_own (OR.out.keep hb)) (Nat.le_refl _) NR.out (by omega)
      rw [hm, ← HRS.out] at h
      exact h)
    have HF0 := hide (fun (a b : Bool) => heap2 w6 (bigO a (.slice aq q.length cq)) (bigO b (.slice ar r.length cr)))
    clear hz had FL
    rcases hqc with ⟨hq0, hqi⟩ | ⟨hq0, hqi⟩ <;> rcases hrc with ⟨hr0, hri⟩ | ⟨hr0, hri⟩ <;> cases m1 <;> cases m2
    all_goals first | (exfalso; exact HAD.out ⟨by decide, hr0⟩) | skip
    all_goals
      have HQ0 := hide hq0; have HR0 := hide hr0
      clear hq0 hr0
      go_wp2_with fail
    all_goals
      refine (HR1.out _ _ (HF0.out _ _).2.2.2 (by first | exact HZ.out.1 | (have := HZ.out.1; rw [HQ0.out] at this ⊢; simpa [lv, valS] using this))).mono ?_
      rintro e w7 ⟨rfl, hb7⟩
      have C7 := hide (below_blk hb7 (HF0.out _ _).2.1 (lt_blk (HF0.out _ _).2.1))
      have HB7 := hide ((HF0.out _ _).2.2.2.trans (hb7.mono (HF0.out _ _).2.2.2.size))
      have cz0 := cell_blk C7.out 0
      have cz1 := cell_blk C7.out 1
      clear hb7 zA zB z0 z1
      go_wp2_with fail
      refine (HR2.out _ _ HB7.out (by first | exact HZ.out.2 | (have := HZ.out.2; rw [HR0.out] at this ⊢; simpa [lv, valS] using this))).mono ?_
      rintro e w8 ⟨rfl, hb8⟩
      have HB8 := hide (HBZ.out.trans ((HB7.out.trans (hb8.mono HB7.out.size)).mono HBZ.out.size))
      clear hb8 cz0 cz1
      go_wp2_with fail
      refine bodyPost_ret (results_tmp3' rfl _ _ _) rfl ?_
      exact ⟨rfl, HB8.out⟩
end Go.Proofs.YthkioajalhglfaaGreatDoor
namespace Go.Proofs.YthkioajalhglfaaGreatDoor
open Go.RowKit Go.KP Go.KI Go.Shelf
attribute [local go_sem] Oper.semAt_some

theorem rfield_limbs (m : Bool) (v : Value) (w : World) : (Instr.field 55 (numV m v) 1).run Tryz.prog w = .ok v w := by kernel_rfl
set_option maxRecDepth 100000 in
set_option maxHeartbeats 2000000 in
theorem rGcd_small (s t : ByteArray) (B : Nat) (w : World) (c1 : chkI s.data.toList = 0) (c2 : chkI t.data.toList = 0) (hs : s.size ≤ 17) (ht : t.size ≤ 17) (hB : B ≤ w.heap.size) (hT : P10 B w) :
    Calls Tryz.prog 20 #[.string s, .string t] w (Ret w (pairV (Lib.itoa ((Nat.gcd (valI s.data.toList).natAbs (valI t.data.toList).natAbs : Nat) : Int)) 0)) := by
  have H1 := hide (rboth_any s t (by omega) (by omega) w)
  have hb0 : bothI s.data.toList t.data.toList = 0 := by unfold bothI; rw [if_pos c1, c2]
  rw [hb0] at H1
  have HT := hide hT
  have H2 := hide (fun w => rtwo_yes s t c1 c2 hs ht w)
  have v1 := short_val (n := 17) c1 (by rw [bytes_len]; exact hs) (by omega)
  have v2 := short_val (n := 17) c2 (by rw [bytes_len]; exact ht) (by omega)
  rw [pow17] at v1 v2
  obtain ⟨x, hx⟩ : ∃ x, x = valI s.data.toList := ⟨_, rfl⟩
  obtain ⟨y, hy⟩ : ∃ y, y = valI t.data.toList := ⟨_, rfl⟩
  rw [← hx, ← hy] at H2 ⊢
  rw [← hx] at v1
  rw [← hy] at v2
  obtain ⟨G, hG⟩ : ∃ G, G = Nat.gcd x.natAbs y.natAbs := ⟨_, rfl⟩
  rw [← hG]
  have HG := hide hG
  have V1 := hide v1; have V2 := hide v2
  clear c1 c2 hs ht hT hx hy hb0 hG v1 v2
  go_enter Tryz.func20, Tryz.ntmps20
  go_wp2_with fail
  refine H1.out.mono ?_
  rintro e w1 ⟨rfl, hb1⟩
  have HB1 := hide hb1
  clear hb1 H1
  go_wp2_with fail
  refine (H2.out _).mono ?_
  rintro e w2 ⟨rfl, hb2⟩
  have HB2 := hide (HB1.out.trans (hb2.mono HB1.out.size))
  clear hb2 H2 HB1
  go_wp2_with fail
  go_loopw [7, 8] (fun a b wr => ∃ p q : Int, a = .int .i64 p ∧ b = .int .i64 q ∧ p.natAbs < 100000000000000000 ∧ q.natAbs < 100000000000000000 ∧ Hid (Nat.gcd p.natAbs q.natAbs = G ∧ Below w.heap.size w wr)) (fun _ b _ => (intOf b).natAbs)
  case atStart => exact ⟨x, y, rfl, rfl, V1.out, V2.out, HG.out.symm, HB2.out⟩
  case round =>
    obtain ⟨p, q, rfl, rfl, hp, hq, hin⟩ := hrel
    have IN := hide hin.out
    clear hin
    by_cases hq0 : q = 0
    · subst hq0
      have hqq : ((0 : Int) != 0) = false := rfl
      have hG : (p.natAbs : Nat) = G := by have := IN.out.1; simpa using this
      have GG := hide hG
      clear hq hG
      go_wp2_with fail
      have hmx : max p (-p) = (G : Int) := by have := GG.out; omega
      rw [hmx]
      have hG1 : (G : Int) ≤ 9223372036854775807 := by have := GG.out; omega
      clear hmx hqq
      refine (itoa_any G (by omega) hG1 B _ (HT.out.on IN.out.2 hB)).mono ?_
      rintro e w3 ⟨rfl, hb3⟩
      have HB3 := hide (IN.out.2.trans (hb3.mono IN.out.2.size))
      clear hb3
      go_wp2_with fail
      refine bodyPost_ret (results_tmp2 rfl _ _ _) rfl ?_
      exact ⟨rfl, HB3.out⟩
    · have hqq : (q != 0) = true := by simpa using hq0
      have hyq : (q == 0) = false := by simpa using hq0
      have hr := natAbs_tmod_lt p hq0
      have hgc : Nat.gcd q.natAbs (p.tmod q).natAbs = G := by
        rw [Int.natAbs_tmod, ← IN.out.1, Nat.gcd_comm q.natAbs, ← Nat.gcd_rec, Nat.gcd_comm]
      have GG := hide hgc
      clear hq0 hgc
      go_wp2_with fail
      go_quiet (fail)
      clear hyq hqq
      go_wp2_with fail
      go_roundw
      case rel => exact ⟨q, p.tmod q, rfl, rfl, hq, by omega, GG.out, ⟨IN.out.2.os, IN.out.2.tape, IN.out.2.output, IN.out.2.size, IN.out.2.block⟩⟩
      case measure => simpa [intOf] using hr
set_option maxRecDepth 100000 in
set_option maxHeartbeats 4000000 in
theorem rGcd_long (s t : ByteArray) (w : World) (c1 : chkI s.data.toList = 0) (c2 : chkI t.data.toList = 0) (hl : ¬ (s.size ≤ 17 ∧ t.size ≤ 17)) :
    Calls Tryz.prog 20 #[.string s, .string t] w (Ret w (pairV (Lib.itoa ((Nat.gcd (valI s.data.toList).natAbs (valI t.data.toList).natAbs : Nat) : Int)) 0)) := by
  have l1' := (chk_digs c1).2
  have l2' := (chk_digs c2).2
  rw [bytes_len] at l1' l2'
  have H1 := hide (rboth_any s t (by omega) (by omega) w)
  have hb0 : bothI s.data.toList t.data.toList = 0 := by unfold bothI; rw [if_pos c1, c2]
  rw [hb0] at H1
  have H2 := hide (fun w => rtwo_no s t c1 hl w)
  have R1 := hide (fun w => rread_good s c1 w)
  have R2 := hide (fun w => rread_good t c2 w)
  obtain ⟨G, hG⟩ : ∃ G, G = Nat.gcd (valI s.data.toList).natAbs (valI t.data.toList).natAbs := ⟨_, rfl⟩
  rw [← hG]
  have HG := hide hG
  clear c1 c2 hl hb0 l1' l2' hG
  go_enter Tryz.func20, Tryz.ntmps20
  go_wp2_with fail
  refine H1.out.mono ?_
  rintro e w1 ⟨rfl, hb1⟩
  have HB1 := hide hb1
  clear hb1 H1
  go_wp2_with fail
  refine (H2.out _).mono ?_
  rintro e w2 ⟨x0, y0, rfl, hb2⟩
  have HB2 := hide (HB1.out.trans (hb2.mono HB1.out.size))
  clear hb2 H2 HB1
  go_wp2_with fail
  refine (R1.out _).mono ?_
  rintro e w3 ⟨m1, a1, l1, rfl, hb3, o1, n1, q1, k1⟩
  have HB3 := hide (HB2.out.trans (hb3.mono HB2.out.size))
  have O1 := hide o1; have N1 := hide n1; have Q1 := hide q1
  obtain ⟨av1, cv1, hvf, _, _⟩ := o1.form
  subst hvf
  clear hb3 HB2 R1 o1 n1 q1
  have hf1 := fun w => rfield_limbs m1 (.slice av1 l1.length cv1) w
  go_wp2_with fail
  clear hf1
  refine (R2.out _).mono ?_
  rintro e w4 ⟨m2, a2, l2, rfl, hb4, o2, n2, q2, k2⟩
  have HB4 := hide (HB3.out.trans (hb4.mono HB3.out.size))
  have O1' := hide (O1.out.keep hb4)
  have O2 := hide o2; have N2 := hide n2; have Q2 := hide q2
  obtain ⟨av2, cv2, hvf, _, _⟩ := o2.form
  subst hvf
  clear hb4 HB3 R2 o2 n2 q2 O1
  have hf2 := fun w => rfield_limbs m2 (.slice av2 l2.length cv2) w
  have HG2 := hide (show Nat.gcd (lv 1000000 l1) (lv 1000000 l2) = G by
    rw [HG.out, ← Q1.out, ← Q2.out, valS_abs, valS_abs])
  go_wp2_with fail
  clear hf2
  go_loopw [10, 11] (fun p q wr => ∃ (ap : Option Addr) (cp : Nat) (aq : Option Addr) (cq : Nat) (x y : List Nat), p = .slice ap x.length cp ∧ q = .slice aq y.length cq ∧ x.length ≤ 60 ∧ y.length ≤ 60 ∧ Hid (LimbAt wr.heap.size wr (.slice ap x.length cp) x ∧ LimbAt wr.heap.size wr (.slice aq y.length cq) y ∧ Norm 1000000 x ∧ Norm 1000000 y ∧ Nat.gcd (lv 1000000 x) (lv 1000000 y) = G ∧ Below w.heap.size w wr)) (fun _ q wr => lv 1000000 (limbsAt wr q))
  case atStart => exact ⟨av1, cv1, av2, cv2, l1, l2, rfl, rfl, k1, k2, LimbAt.of_own O1'.out, LimbAt.of_own O2.out, N1.out, N2.out, HG2.out, HB4.out⟩
  case round =>
    clear k1 k2
    obtain ⟨ap, cp, aq, cq, x, y, rfl, rfl, hx, hy, hin⟩ := hrel
    have I1 := hide hin.out.1; have I2 := hide hin.out.2.1; have N3 := hide hin.out.2.2.1; have N4 := hide hin.out.2.2.2.1; have GG := hide hin.out.2.2.2.2.1; have HBW := hide hin.out.2.2.2.2.2
    clear hin
    by_cases hy0 : y = []
    · subst hy0
      have hz : valS false (lv 1000000 x) = (G : Int) := by
        have := GG.out
        rw [lv_nil, Nat.gcd_zero_right] at this
        rw [this]
        rfl
      have HR := hide (rwrite_any false (.slice ap x.length cp) x wr.heap.size wr I1.out (Nat.le_refl _) N3.out (by omega))
      rw [hz] at HR
      clear hz
      go_wp2_with fail
      refine HR.out.mono ?_
      rintro e w5 ⟨rfl, hb5⟩
      have HB5 := hide (HBW.out.trans (hb5.mono HBW.out.size))
      clear hb5 HR
      go_wp2_with fail
      refine bodyPost_ret (results_tmp2 rfl _ _ _) rfl ?_
      exact ⟨rfl, HB5.out⟩
    · have hyl : 0 < (y.length : Int) := by
        have := List.length_pos_iff.2 hy0
        omega
      have HD := hide (rdivide_any (.slice ap x.length cp) (.slice aq y.length cq) x y wr.heap.size wr I1.out I2.out (Nat.le_refl _) N3.out.lt N4.out hy0 (by omega) (by omega))
      have hyp : 0 < lv 1000000 y := by
        rcases Nat.eq_zero_or_pos (lv 1000000 y) with h | h
        · exact absurd ((N4.out.zero (by omega)).1 h) hy0
        · exact h
      have HYP := hide hyp
      clear hy0 hyp
      go_wp2_with fail
      refine HD.out.mono ?_
      rintro e w5 ⟨vq, vr, q, r, rfl, hb5, oq, or_, nq, nr, eq, er, lq⟩
      obtain ⟨ar, cr, hvf, _, _⟩ := or_.form
      subst hvf
      have hrlt : lv 1000000 r < lv 1000000 y := by rw [er]; exact Nat.mod_lt _ HYP.out
      have hrl : r.length ≤ 60 := by
        have := norm_le_b (by omega) nr N4.out.lt (Nat.le_of_lt hrlt)
        omega
      have HB5 := hide (HBW.out.trans (hb5.mono HBW.out.size))
      have J2 := hide ((I2.out.below hb5 (Nat.le_refl _)).mono hb5.size)
      have HE := hide (show Nat.gcd (lv 1000000 y) (lv 1000000 r) = G by rw [er, ← GG.out, Nat.gcd_comm (lv 1000000 y), ← Nat.gcd_rec, Nat.gcd_comm])
      have OR := hide (LimbAt.of_own or_); have NR := hide nr; have HLT := hide hrlt
      clear hb5 oq or_ nq nr eq er lq HD hrlt
      go_wp2_with fail
      go_roundw
      case rel => exact ⟨aq, cq, ar, cr, y, r, rfl, rfl, hy, hrl, J2.out, OR.out, N4.out, NR.out, HE.out, HB5.out⟩
      case measure =>
        rw [limbsAt_eq OR.out, limbsAt_eq I2.out]
        exact HLT.out
set_option maxRecDepth 100000 in
set_option maxHeartbeats 2000000 in
theorem rGcd_bad (s t : ByteArray) (hs : s.size ≤ 1000000) (ht : t.size ≤ 1000000) (hE : bothI s.data.toList t.data.toList ≠ 0) (w : World) :
    Calls Tryz.prog 20 #[.string s, .string t] w (Ret w (.tuple #[.string ⟨#[]⟩, .int .i64 (bothI s.data.toList t.data.toList)])) := by
  have H1 := hide (rboth_any s t hs ht w)
  have hne : (bothI s.data.toList t.data.toList != 0) = true := by simpa using hE
  obtain ⟨E, hEE⟩ : ∃ E, E = bothI s.data.toList t.data.toList := ⟨_, rfl⟩
  rw [← hEE] at H1 hne ⊢
  clear hE hEE
  go_enter Tryz.func20, Tryz.ntmps20
  go_wp2_with fail
  refine H1.out.mono ?_
  rintro e w1 ⟨rfl, hb1⟩
  have HB1 := hide hb1
  clear hb1 H1
  go_wp2_with fail
  refine bodyPost_ret (results_tmp2 rfl _ _ _) rfl ?_
  exact ⟨rfl, HB1.out⟩
set_option maxRecDepth 100000 in
set_option maxHeartbeats 2000000 in
theorem Gcd_bad (s t : ByteArray) (hs : s.size ≤ 1000000) (ht : t.size ≤ 1000000) (hE : bothI s.data.toList t.data.toList ≠ 0) (w : World) :
    Calls Tryz.prog 19 #[.string s, .string t] w (Ret w (.tuple #[.string ⟨#[]⟩, .int .i64 (bothI s.data.toList t.data.toList)])) := by
  have H1 := hide (both_any s t hs ht w)
  have hne : (bothI s.data.toList t.data.toList != 0) = true := by simpa using hE
  obtain ⟨E, hEE⟩ : ∃ E, E = bothI s.data.toList t.data.toList := ⟨_, rfl⟩
  rw [← hEE] at H1 hne ⊢
  clear hE hEE
  go_enter Tryz.func19, Tryz.ntmps19
  go_wp2_with fail
  refine H1.out.mono ?_
  rintro e w1 ⟨rfl, hb1⟩
  have HB1 := hide hb1
  clear hb1 H1
  go_wp2_with fail
  refine bodyPost_ret (results_tmp2 rfl _ _ _) rfl ?_
  exact ⟨rfl, HB1.out⟩
end Go.Proofs.YthkioajalhglfaaGreatDoor
namespace Go.Proofs.YthkioajalhglfaaGreatDoor
open Go.RowKit Go.KP Go.KI Go.Shelf

/-- Both functions return this, where the table of powers stands. -/
def Both (f g : Nat) (args : Array Value) (v : Value) : Prop := (∀ (B : Nat) (w : World), B ≤ w.heap.size → P10 B w → Calls Tryz.prog f args w (Ret w v)) ∧ (∀ (B : Nat) (w : World), B ≤ w.heap.size → P10 B w → Calls Tryz.prog g args w (Ret w v))
theorem Divide_same (s t : ByteArray) (hs : s.size ≤ 1000000) (ht : t.size ≤ 1000000) :
    ∃ (q r : ByteArray) (e : Int), Both 17 18 #[.string s, .string t] (.tuple #[.string q, .string r, .int .i64 e]) := by
  by_cases hE : bothI s.data.toList t.data.toList = 0
  · obtain ⟨c1, c2, _, _⟩ := op2_good (f := (· + ·)) hE
    by_cases h0 : t.data.toList = [48]
    · exact ⟨⟨#[]⟩, ⟨#[]⟩, 12, fun B w _ _ => Divide_zero c1 h0 w, fun B w _ _ => rDivide_zero c1 h0 w⟩
    · refine ⟨strB (Lib.itoa ((valI s.data.toList).fdiv (valI t.data.toList))), strB (Lib.itoa ((valI s.data.toList).fmod (valI t.data.toList))), 0, fun B w hB hT => ?_, fun B w hB hT => ?_⟩
      rotate_left
      · by_cases hl : s.size ≤ 17 ∧ t.size ≤ 17
        · exact rDivide_small s t B w c1 c2 hl.1 hl.2 h0 hB hT
        · exact rDivide_long s t w c1 c2 hl h0
      · by_cases hl : s.size ≤ 18 ∧ t.size ≤ 18
        · exact Divide_small s t B w c1 c2 hl.1 hl.2 h0 hB hT
        · exact Divide_long s t B w c1 c2 hl h0 hB hT
  · exact ⟨⟨#[]⟩, ⟨#[]⟩, _, fun B w _ _ => Divide_bad s t hs ht hE w, fun B w _ _ => rDivide_bad s t hs ht hE w⟩
theorem gcd_fits {a b : List UInt8} (c1 : chkI a = 0) (c2 : chkI b = 0) : fits ((Nat.gcd (valI a).natAbs (valI b).natAbs : Nat) : Int) := by
  by_cases h : valI a = 0
  · rw [h]
    simp only [Int.natAbs_zero, Nat.gcd_zero_left]
    exact fits_of_le (chk_ok c2).2 (by simp)
  · refine fits_of_le (chk_ok c1).2 ?_
    rw [Int.natAbs_natCast]
    exact Nat.gcd_le_left _ (by omega)
theorem Gcd_same (s t : ByteArray) (hs : s.size ≤ 1000000) (ht : t.size ≤ 1000000) :
    ∃ (q : ByteArray) (e : Int), Both 19 20 #[.string s, .string t] (.tuple #[.string q, .int .i64 e]) := by
  by_cases hE : bothI s.data.toList t.data.toList = 0
  · obtain ⟨c1, c2, _, _⟩ := op2_good (f := (· + ·)) hE
    refine ⟨strB (Lib.itoa ((Nat.gcd (valI s.data.toList).natAbs (valI t.data.toList).natAbs : Nat) : Int)), 0, fun B w hB hT => ?_, fun B w hB hT => ?_⟩
    · by_cases hl : s.size ≤ 18 ∧ t.size ≤ 18
      · exact Gcd_small s t B w c1 c2 hl.1 hl.2 hB hT
      · have h := Gcd_long s t B w c1 c2 hl hB hT
        obtain ⟨e1, e2⟩ := res_fit (gcd_fits c1 c2)
        rw [e1, e2] at h
        exact h
    · by_cases hl : s.size ≤ 17 ∧ t.size ≤ 17
      · exact rGcd_small s t B w c1 c2 hl.1 hl.2 hB hT
      · exact rGcd_long s t w c1 c2 hl
  · exact ⟨⟨#[]⟩, _, fun B w _ _ => Gcd_bad s t hs ht hE w, fun B w _ _ => rGcd_bad s t hs ht hE w⟩
end Go.Proofs.YthkioajalhglfaaGreatDoor
namespace Go.Proofs.YthkioajalhglfaaGreatDoor
open Go.RowKit Go.KP Go.KI Go.Shelf
attribute [local go_sem] Oper.semAt_some

set_option maxRecDepth 100000 in
set_option maxHeartbeats 4000000 in
theorem products_any (a b : ByteArray) (B : Nat) (w : World) (hB : B ≤ w.heap.size) (hT : P10 B w) :
    Calls Tryz.prog 3 #[.string a, .string b] w (Ret w (.bool true)) := by
  have HT := hide hT
  have HAW := hide (fun w2 (hb : Below w.heap.size w w2) => awake_any B w2 (Nat.le_trans hB hb.size) (hT.on hb hB))
  clear hT
  have HF := hide (fun t => great_any w.heap.size [a, b] (w.alloc (.cells #[.string a, .string b] t)) (by simp) (heap_two w a b t))
  obtain ⟨F, hF⟩ : ∃ F, F = decide (∃ s ∈ [a, b], greatS s) := ⟨_, rfl⟩
  rw [← hF] at HF
  have G0 := hide (fun o => (heap1 w o).2.2)
  cases F
  · have hf := of_decide_eq_false hF.symm
    have la := great_len (a := a) (fun h => hf ⟨a, by simp, h⟩)
    have lb := great_len (a := b) (fun h => hf ⟨b, by simp, h⟩)
    clear hF hf
    have A1 := hide (fun B w => Mul_any a b B w (by omega) (by omega))
    have A2 := hide (fun B w => rMul_any a b B w (by omega) (by omega))
    obtain ⟨dq, dr, de, hd⟩ := Divide_same a b (by omega) (by omega)
    obtain ⟨gq, ge, hg⟩ := Gcd_same a b (by omega) (by omega)
    have D1 := hide hd.1; have D2 := hide hd.2; have E1 := hide hg.1; have E2 := hide hg.2
    obtain ⟨p, hp⟩ : ∃ p, p = strB (op2S (· * ·) a.data.toList b.data.toList) := ⟨_, rfl⟩
    obtain ⟨e1, he1⟩ : ∃ p, p = op2E (· * ·) a.data.toList b.data.toList := ⟨_, rfl⟩
    unfold pairV at A1 A2
    rw [← hp, ← he1] at A1 A2
    clear la lb hp he1 hd hg
    go_enter Tryz.func3, Tryz.ntmps3
    go_wp2_with fail
    refine (HF.out _).mono ?_
    rintro e w1 ⟨rfl, hb1⟩
    have HB := hide ((G0.out _).trans (hb1.mono (G0.out _).size))
    clear hb1 HF G0
    go_wp2_with fail
    refine (A1.out B _ (Nat.le_trans hB HB.out.size) (HT.out.on HB.out hB)).mono ?_
    rintro e w2 ⟨rfl, hb2⟩
    have HB2 := hide (HB.out.trans (hb2.mono HB.out.size))
    clear hb2 HB
    have HB := HB2
    clear HB2
    go_wp2_with fail
    refine (A2.out B _ (Nat.le_trans hB HB.out.size) (HT.out.on HB.out hB)).mono ?_
    rintro e w2 ⟨rfl, hb2⟩
    have HB2 := hide (HB.out.trans (hb2.mono HB.out.size))
    clear hb2 HB
    have HB := HB2
    clear HB2
    go_wp2_with fail
    refine (D1.out B _ (Nat.le_trans hB HB.out.size) (HT.out.on HB.out hB)).mono ?_
    rintro e w2 ⟨rfl, hb2⟩
    have HB2 := hide (HB.out.trans (hb2.mono HB.out.size))
    clear hb2 HB
    have HB := HB2
    clear HB2
    go_wp2_with fail
    refine (D2.out B _ (Nat.le_trans hB HB.out.size) (HT.out.on HB.out hB)).mono ?_
    rintro e w2 ⟨rfl, hb2⟩
    have HB2 := hide (HB.out.trans (hb2.mono HB.out.size))
    clear hb2 HB
    have HB := HB2
    clear HB2
    go_wp2_with fail
    refine (E1.out B _ (Nat.le_trans hB HB.out.size) (HT.out.on HB.out hB)).mono ?_
    rintro e w2 ⟨rfl, hb2⟩
    have HB2 := hide (HB.out.trans (hb2.mono HB.out.size))
    clear hb2 HB
    have HB := HB2
    clear HB2
    go_wp2_with fail
    refine (E2.out B _ (Nat.le_trans hB HB.out.size) (HT.out.on HB.out hB)).mono ?_
    rintro e w2 ⟨rfl, hb2⟩
    have HB2 := hide (HB.out.trans (hb2.mono HB.out.size))
    clear hb2 HB
    have HB := HB2
    clear HB2
    go_wp2_with fail
    refine (HAW.out _ HB.out).mono ?_
    rintro e w2 ⟨rfl, hb2⟩
    have HB2 := hide (HB.out.trans (hb2.mono HB.out.size))
    clear hb2 HB
    have HB := HB2
    clear HB2
    go_wp2_with fail
    go_ret
    exact ⟨rfl, HB.out⟩
  · clear hF
    go_enter Tryz.func3, Tryz.ntmps3
    go_wp2_with fail
    refine (HF.out _).mono ?_
    rintro e w1 ⟨rfl, hb1⟩
    have HB1 := hide ((G0.out _).trans (hb1.mono (G0.out _).size))
    clear hb1 HF G0
    go_wp2_with fail
    refine (HAW.out _ HB1.out).mono ?_
    rintro e w2 ⟨rfl, hb2⟩
    have HB2 := hide (HB1.out.trans (hb2.mono HB1.out.size))
    clear hb2 HAW HB1
    go_wp2_with fail
    go_ret
    exact ⟨rfl, HB2.out⟩
end Go.Proofs.YthkioajalhglfaaGreatDoor
