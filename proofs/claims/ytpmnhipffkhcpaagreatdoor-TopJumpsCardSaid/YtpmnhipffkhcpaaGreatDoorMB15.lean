/-
  Texts laid together.
-/
import Derived.Test.YtpmnhipffkhcpaaGreatDoorMB9
import Derived.Test.YtpmnhipffkhcpaaGreatDoorMB14
set_option maxRecDepth 100000
set_option maxHeartbeats 8000000
namespace Go.Proofs.YtpmnhipffkhcpaaGreatDoor
open Go.RowKit Go.KP Go.KI Go.Shelf
attribute [local go_sem] Oper.semAt_some

structure RShortAt (x : List Nat) (d k : Nat) (Q : List Nat) (R : Nat) : Prop where
  len : Q.length = x.length
  lt : Lt 1000000 Q
  rest : R < d
  val : lv 1000000 (x.drop (x.length - k)) = lv 1000000 (Q.drop (x.length - k)) * d + R
theorem RShortAt.start (x : List Nat) {d : Nat} (hd : 1 ≤ d) : RShortAt x d 0 (zeros x.length) 0 :=
  ⟨zeros_len _, zeros_lt _ _ (by omega), hd, by rw [Nat.sub_zero, List.drop_length, List.drop_of_length_le (by rw [zeros_len]; exact Nat.le_refl _)]; simp [lv]⟩
theorem RShortAt.step {x : List Nat} {d k R : Nat} {Q : List Nat} (h : RShortAt x d k Q R) (hx : Lt 1000000 x) (hd2 : d < 1000000) (hk : k < x.length) {i : Nat} (hi : i = x.length - 1 - k) :
    lat x i + R * 1000000 < d * 1000000 ∧ (lat x i + R * 1000000) / d < 1000000 ∧ RShortAt x d (k + 1) (Q.set i ((lat x i + R * 1000000) / d)) ((lat x i + R * 1000000) % d) := by
  have hr := h.rest
  have hxi := lat_lt (by omega) hx i
  have h1 : (R + 1) * 1000000 ≤ d * 1000000 := Nat.mul_le_mul_right _ hr
  have h2 : lat x i + R * 1000000 < d * 1000000 := by omega
  have hdp : 0 < d := by omega
  have h3 : (lat x i + R * 1000000) / d < 1000000 := by
    rw [Nat.div_lt_iff_lt_mul hdp]
    omega
  refine ⟨h2, h3, by rw [List.length_set]; exact h.len, lt_set h.lt h3, Nat.mod_lt _ hdp, ?_⟩
  have e1 : x.length - (k + 1) = i := by omega
  have e2 : x.length - k = i + 1 := by omega
  have hv := h.val
  rw [e2] at hv
  rw [e1]
  have hl : i < x.length := by omega
  have hlq : i < Q.length := by rw [h.len]; exact hl
  have f1 : lv 1000000 (x.drop i) = lat x i + 1000000 * lv 1000000 (x.drop (i + 1)) := by
    rw [List.drop_eq_getElem_cons hl, lat_at hl]
    rfl
  have f2 : (Q.set i ((lat x i + R * 1000000) / d)).drop i = ((lat x i + R * 1000000) / d) :: Q.drop (i + 1) := by
    rw [List.drop_eq_getElem_cons (by rw [List.length_set]; exact hlq), List.getElem_set_self, List.drop_set_of_lt (by omega)]
  rw [f1, f2, hv]
  show lat x i + 1000000 * (lv 1000000 (Q.drop (i + 1)) * d + R) = ((lat x i + R * 1000000) / d + 1000000 * lv 1000000 (Q.drop (i + 1))) * d + (lat x i + R * 1000000) % d
  have h4 := Nat.div_add_mod (lat x i + R * 1000000) d
  rw [Nat.add_mul, Nat.mul_comm (_ / d) d]
  have e5 : 1000000 * lv 1000000 (Q.drop (i + 1)) * d = 1000000 * (lv 1000000 (Q.drop (i + 1)) * d) := by rw [Nat.mul_assoc]
  rw [e5]
  omega
theorem RShortAt.done {x : List Nat} {d R : Nat} {Q : List Nat} (h : RShortAt x d x.length Q R) : lv 1000000 Q = lv 1000000 x / d ∧ R = lv 1000000 x % d := by
  have hv := h.val
  rw [Nat.sub_self, List.drop_zero, List.drop_zero] at hv
  have hr := h.rest
  rw [hv]
  constructor
  · rw [Nat.add_comm, Nat.add_mul_div_right _ _ (by omega), Nat.div_eq_of_lt hr, Nat.zero_add]
  · rw [Nat.add_comm, Nat.add_mul_mod_self_right, Nat.mod_eq_of_lt hr]
theorem rshort_nums {X R d : Nat} (hX : X < 1000000) (hR : R < d) (hd : d < 1000000) :
    ∃ T q r : Nat, T = X + R * 1000000 ∧ q = T / d ∧ r = T % d ∧ IntKind.i64.wrap ((R : Int) * 1000000) = (R : Int) * 1000000 ∧ IntKind.i64.wrap ((R : Int) * 1000000 + (X : Int)) = (T : Int) ∧ (T : Int) / (d : Int) = (q : Int) ∧ (T : Int) % (d : Int) = (r : Int) ∧ (T : Int) < 1000000000000 ∧ ((d : Int) == 0) = false ∧ r < d := by
  have h1 : X + R * 1000000 < 1000000000000 := by omega
  have h2 : (d : Int) ≠ 0 := by omega
  obtain ⟨T, hT⟩ : ∃ T, T = X + R * 1000000 := ⟨_, rfl⟩
  have h3 : (R : Int) * 1000000 + (X : Int) = (T : Int) := by omega
  exact ⟨T, T / d, T % d, hT, rfl, rfl, IntWalk.i64_in _ (by omega), by rw [h3]; exact IntWalk.i64_in _ (by omega), Int.natCast_ediv .., Int.natCast_emod .., by omega, by simpa using h2, Nat.mod_lt _ (by omega)⟩
def RDivRes (x y : List Nat) (w : World) (e : Ending) (w' : World) : Prop := ∃ (vq vr : Value) (q r : List Nat), e = .returned (.tuple #[vq, vr]) ∧ Below w.heap.size w w' ∧ OwnL w.heap.size w' vq q ∧ OwnL w.heap.size w' vr r ∧
  Norm 1000000 q ∧ Norm 1000000 r ∧ lv 1000000 q = lv 1000000 x / lv 1000000 y ∧ lv 1000000 r = lv 1000000 x % lv 1000000 y ∧ q.length ≤ x.length
theorem rshort_any (va : Value) (x : List Nat) (d : Nat) (B : Nat) (w : World) (ha : LimbAt B w va x) (hB : B ≤ w.heap.size) (hx : Lt 1000000 x) (lx : x.length ≤ 200000) (hd : 1 ≤ d) (hd2 : d < 1000000) :
    Calls Tryz.prog 394 #[va, .int .i64 d] w (RDivRes x [d] w) := by
  obtain ⟨a0, c0, hva⟩ := ha.form
  subst hva
  have HA := hide ha; have HX := hide hx
  clear ha hx
  obtain ⟨n, hn⟩ : ∃ n, n = x.length := ⟨_, rfl⟩
  have HN := hide hn
  have hmk := make_ints n (by omega)
  rw [← hn] at lx ⊢
  clear hn
  have H0 := hide (heap_alloc_new w (rowO (zeros n))); have HB0 := hide ((Below.refl w.heap.size w).alloc (Nat.le_refl _) (rowO (zeros n)))
  go_enter Tryz.func394, Tryz.ntmps394
  go_wp2_with fail
  clear hmk
  go_loopw [7, 8] (fun rr i wr => ∃ (k R : Nat), k ≤ n ∧ i = .int .i64 ((n : Int) - 1 - k) ∧ rr = .int .i64 R ∧ Hid (∃ Q : List Nat, RShortAt x d k Q R ∧ wr.heap[w.heap.size]? = some (rowO Q) ∧ Below w.heap.size w wr)) (fun _ i _ => (intOf i + 1).toNat)
  case atStart => exact ⟨0, 0, Nat.zero_le _, by simp, rfl, zeros n, by have := RShortAt.start x hd; rw [← HN.out] at this; exact this, H0.out, HB0.out⟩
  case round =>
    obtain ⟨k, R, hk, rfl, rfl, hin⟩ := hrel
    obtain ⟨Q, h1, hQ, hW⟩ := hin.out
    have hsz := lt_blk hQ
    by_cases hlt : k < n
    · obtain ⟨m, hm⟩ : ∃ m : Nat, (n : Int) - 1 - (k : Int) = m := ⟨n - 1 - k, by omega⟩
      have hm2 : m = x.length - 1 - k := by have := HN.out; omega
      have hst := h1.step HX.out hd2 (by have := HN.out; omega) hm2
      obtain ⟨t1, t2, t3⟩ := hst
      have hxm := lat_lt (by omega) HX.out m
      rw [hm]
      rcases (HA.out.below hW hB).cases with ⟨_, _, _, hnil⟩ | ⟨g, o, cap, hv, hg, hc⟩
      · have := HN.out
        rw [hnil] at this
        simp at this
        omega
      injection hv with hv1 hv2 hv3
      subst hv1
      have q1 := hc m (by have := HN.out; omega)
      obtain ⟨X, hX⟩ : ∃ X, X = lat x m := ⟨_, rfl⟩
      rw [← hX] at hxm t1 t2 t3 q1
      obtain ⟨T, q, r, hT, hq, hr, hw1, hwt, hqi, hri, hTl, hd0, hrl⟩ := rshort_nums hxm h1.rest hd2
      rw [← hT] at t1 t2 t3
      rw [← hq, ← hr] at t3
      rw [← hq] at t2
      have hmi : (m : Int) < (n : Int) := by omega
      have hmq : m < Q.length := by rw [h1.len, ← HN.out]; omega
      have c3 := row_cell hQ hmq
      have f3 := row_froz hQ m
      have hkn : k + 1 ≤ n := hlt
      have T3 := hide t3; have HQ := hide hQ; have HW := hide hW; have HM := hide hm; have HRI := hide hri
      clear hm hm2 t3 hQ hW h1 hX hT hq hr t1 hc hv2 hv3 hg hin hlt
      go_wp2_with fail
      go_roundw
      case rel => exact ⟨k + 1, r, by omega, by have := HM.out; congr 1; omega, by first | rfl | rw [HRI.out], Q.set m q, T3.out, row_set HQ.out m q, HW.out.setCell (p := ⟨w.heap.size, m, none⟩) (Nat.le_refl _) _⟩
      case measure => simp [intOf]
    · obtain rfl : k = n := by omega
      have hm : (k : Int) - 1 - (k : Int) = -1 := by omega
      rw [hm]
      have hQn : Q.length = k := h1.len.trans HN.out.symm
      have HTq := hide (rtrim_any (some ⟨w.heap.size, 0, none⟩) k Q wr.heap.size wr (by
        have := row_limbs hQ (by unfold maxLen; omega)
        rw [hQn] at this ⊢
        exact this) (by omega) (by omega))
      rw [hQn] at HTq
      have HTr := hide (show Calls Tryz.prog 376 #[.slice (some ⟨wr.heap.size, 0, none⟩) 1 1] (wr.alloc (.cells #[.int .i64 R] 3)) (fun e w'' => e = .returned (.slice (some ⟨wr.heap.size, 0, none⟩) (trimTo [R] 1) 1) ∧ wr.alloc (.cells #[.int .i64 R] 3) = w'') from
        rtrim_any (some ⟨wr.heap.size, 0, none⟩) 1 [R] _ (wr.alloc (rowO [R])) (row_limbs (heap_alloc_new wr (rowO [R])) (by unfold maxLen; simp)) (by simp) (by simp))
      have H1 := hide h1; have HQ := hide hQ; have HW := hide hW; have HQN := hide hQn
      clear h1 hQ hW hQn hin hlt hm
      go_wp2_with fail
      refine HTq.out.mono ?_
      rintro e w1 ⟨rfl, rfl⟩
      go_wp2_with fail
      refine HTr.out.mono ?_
      rintro e w1 ⟨rfl, rfl⟩
      go_wp2_with fail
      refine bodyPost_ret (results_tmp2 rfl _ _ _) rfl ?_
      obtain ⟨e1, e2⟩ := (show RShortAt x d x.length Q R by have := H1.out; rw [HN.out] at this; exact this).done
      have hR : Lt 1000000 [R] := fun z hz => by
        simp only [List.mem_singleton] at hz
        have := H1.out.rest
        omega
      have hE2 : (wr.alloc (rowO [R])).heap[w.heap.size]? = some (rowO Q) := (Below.heap_alloc _ _ _ hsz).trans HQ.out
      have o1 := (row_owns (base := w.heap.size) hE2 (Nat.le_refl _) (by rw [HQN.out]; unfold maxLen; omega)).cut (k := trimTo Q Q.length) (trimTo_le _ _)
      have o2 := (row_owns (base := w.heap.size) (heap_alloc_new wr (rowO [R])) HW.out.size (by unfold maxLen; simp)).cut (k := trimTo [R] 1) (trimTo_le _ _)
      have hv : lv 1000000 [d] = d := by simp [lv]
      have hr1 : lv 1000000 [R] = R := by simp [lv]
      refine ⟨_, _, trimL Q, trimL [R], rfl, HW.out.alloc HW.out.size _, ?_, ?_, trimL_norm H1.out.lt, trimL_norm hR, by rw [trimL_lv, e1, hv], by rw [trimL_lv, hr1, hv, e2], ?_⟩
      · unfold trimL
        rw [HQN.out] at o1 ⊢
        exact o1
      · exact o2
      · rw [trimL_len]
        have := trimTo_le Q Q.length
        have := HQN.out
        have := HN.out
        omega
open Go.RowKit Go.KP Go.KI Go.Shelf

structure RDivAt (x : List Nat) (d k : Nat) (Q : List Nat) (R : Nat) : Prop where
  len : Q.length = x.length
  lt : Lt 1000000 Q
  rest : R < d
  val : lv 1000000 (x.drop (x.length - k)) = lv 1000000 (Q.drop (x.length - k)) * d + R
theorem RDivAt.start (x : List Nat) {d : Nat} (hd : 1 ≤ d) : RDivAt x d 0 (zeros x.length) 0 :=
  ⟨zeros_len _, zeros_lt _ _ (by omega), hd, by rw [Nat.sub_zero, List.drop_length, List.drop_of_length_le (by rw [zeros_len]; exact Nat.le_refl _)]; simp [lv]⟩
theorem RDivAt.step {x : List Nat} {d k R g r : Nat} {Q : List Nat} (h : RDivAt x d k Q R) (hk : k < x.length) {i : Nat} (hi : i = x.length - 1 - k) (hg : g < 1000000) (hr : r < d) (hv : lat x i + 1000000 * R = g * d + r) :
    RDivAt x d (k + 1) (Q.set i g) r := by
  refine ⟨by rw [List.length_set]; exact h.len, lt_set h.lt hg, hr, ?_⟩
  have e1 : x.length - (k + 1) = i := by omega
  have e2 : x.length - k = i + 1 := by omega
  have hw := h.val
  rw [e2] at hw
  rw [e1]
  have hl : i < x.length := by omega
  have hlq : i < Q.length := by rw [h.len]; exact hl
  have f1 : lv 1000000 (x.drop i) = lat x i + 1000000 * lv 1000000 (x.drop (i + 1)) := by
    rw [List.drop_eq_getElem_cons hl, lat_at hl]
    rfl
  have f2 : (Q.set i g).drop i = g :: Q.drop (i + 1) := by
    rw [List.drop_eq_getElem_cons (by rw [List.length_set]; exact hlq), List.getElem_set_self, List.drop_set_of_lt (by omega)]
  rw [f1, f2, hw]
  show lat x i + 1000000 * (lv 1000000 (Q.drop (i + 1)) * d + R) = (g + 1000000 * lv 1000000 (Q.drop (i + 1))) * d + r
  rw [Nat.add_mul, Nat.mul_add, Nat.mul_assoc]
  omega
theorem RDivAt.done {x : List Nat} {d R : Nat} {Q : List Nat} (h : RDivAt x d x.length Q R) : lv 1000000 Q = lv 1000000 x / d ∧ R = lv 1000000 x % d := by
  have hv := h.val
  rw [Nat.sub_self, List.drop_zero, List.drop_zero] at hv
  have hr := h.rest
  rw [hv]
  constructor
  · rw [Nat.add_comm, Nat.add_mul_div_right _ _ (by omega), Nat.div_eq_of_lt hr, Nat.zero_add]
  · rw [Nat.add_comm, Nat.add_mul_mod_self_right, Nat.mod_eq_of_lt hr]
theorem up3 {l : List Nat} (hl : Lt 1000000 l) {m : Nat} (h : l.length ≤ m + 3) : (lat l (m + 2) * 1000000 + lat l (m + 1)) * 1000000 + lat l m = lv 1000000 l / 1000000 ^ m := by
  have h1 := lvT_all (b := 1000000) h
  rw [lvT_succ, lvT_succ, lvT_succ] at h1
  have h2 := lvT_lt (b := 1000000) (by omega) hl m
  have e1 : (1000000 : Nat) ^ (m + 1) = 1000000 ^ m * 1000000 := Nat.pow_succ ..
  have e2 : (1000000 : Nat) ^ (m + 2) = 1000000 ^ m * 1000000 * 1000000 := by rw [Nat.pow_succ, Nat.pow_succ]
  rw [← h1, e1, e2]
  have e3 : lvT 1000000 l m + 1000000 ^ m * lat l m + 1000000 ^ m * 1000000 * lat l (m + 1) + 1000000 ^ m * 1000000 * 1000000 * lat l (m + 2) = lvT 1000000 l m + 1000000 ^ m * ((lat l (m + 2) * 1000000 + lat l (m + 1)) * 1000000 + lat l m) := by grind
  rw [e3, Nat.add_mul_div_left _ _ (Nat.pow_pos (by omega)), Nat.div_eq_of_lt h2, Nat.zero_add]
theorem up2 {l : List Nat} (hl : Lt 1000000 l) {m : Nat} (h : l.length ≤ m + 2) : lat l (m + 1) * 1000000 + lat l m = lv 1000000 l / 1000000 ^ m := by
  have h1 := up3 hl (m := m) (by omega)
  rw [lat_past (i := m + 2) h, Nat.zero_mul, Nat.zero_add] at h1
  exact h1
theorem guess_le {r y P g : Nat} (hP : 0 < P) (hg : g = r / P / (y / P + 1)) : g * y ≤ r := by
  have h1 : g * (y / P + 1) ≤ r / P := by rw [hg]; exact Nat.div_mul_le_self _ _
  have h2 : y ≤ P * (y / P + 1) := by
    have := Nat.div_add_mod y P
    have := Nat.mod_lt y hP
    rw [Nat.mul_add]
    omega
  calc g * y ≤ g * (P * (y / P + 1)) := Nat.mul_le_mul_left _ h2
    _ = P * (g * (y / P + 1)) := by grind
    _ ≤ P * (r / P) := Nat.mul_le_mul_left _ h1
    _ ≤ r := Nat.mul_div_le _ _
theorem guess_lt {r y g : Nat} (h : g * y ≤ r) (hr : r < 1000000 * y) : g < 1000000 := by
  rcases Nat.lt_or_ge g 1000000 with h1 | h1
  · exact h1
  · have := Nat.mul_le_mul_right y h1
    omega
theorem rdiv_nums (L2 L1 L0 T : Nat) :
    ∃ G : Nat, (((L2 : Int) * 1000000 + (L1 : Int)) * 1000000 + (L0 : Int)) / ((T : Int) + 1) = (G : Int) ∧ G = ((L2 * 1000000 + L1) * 1000000 + L0) / (T + 1) := by
  refine ⟨((L2 * 1000000 + L1) * 1000000 + L0) / (T + 1), ?_, rfl⟩
  rw [Int.natCast_ediv]
  congr 1
open Go.RowKit Go.KP Go.KI Go.Shelf
attribute [local go_sem] Oper.semAt_some

theorem rtimes_nums {X Y Q C : Nat} (hX : X < 1000000) (hY : Y < 1000000) (hQ : Q < 1000000) (hC : C < 1000000) :
    ∃ p T D R : Nat, p = X * Y ∧ (X : Int) * (Y : Int) = (p : Int) ∧ IntKind.i64.wrap (p : Int) = (p : Int) ∧ IntKind.i64.wrap ((Q : Int) + (p : Int)) = (Q : Int) + (p : Int) ∧ IntKind.i64.wrap ((Q : Int) + (p : Int) + (C : Int)) = (T : Int) ∧
      (T : Int) / 1000000 = (D : Int) ∧ (T : Int) % 1000000 = (R : Int) ∧ T ≤ 1000000000000 ∧ D < 1000000 ∧ R < 1000000 ∧ Q + X * Y + C = R + 1000000 * D := by
  have hm : X * Y ≤ 999999 * 999999 := Nat.mul_le_mul (by omega) (by omega)
  obtain ⟨p, hp⟩ : ∃ p, p = X * Y := ⟨_, rfl⟩
  rw [← hp] at hm
  have hpi : (X : Int) * (Y : Int) = (p : Int) := by rw [hp, Int.natCast_mul]
  refine ⟨p, Q + p + C, (Q + p + C) / 1000000, (Q + p + C) % 1000000, hp, hpi, IntWalk.i64_in _ (by omega), IntWalk.i64_in _ (by omega), ?_, by omega, by omega, by omega, by omega, by omega, by rw [← hp]; omega⟩
  rw [IntWalk.i64_in _ (by omega)]
  omega
theorem rtimes_any (va vb : Value) (x y : List Nat) (B : Nat) (w : World) (ha : LimbAt B w va x) (hb : LimbAt B w vb y) (hB : B ≤ w.heap.size) (hx : Lt 1000000 x) (hy : Lt 1000000 y) (lx : x.length ≤ 100000) (ly : y.length ≤ 100000) :
    Calls Tryz.prog 377 #[va, vb] w (RowRes (lv 1000000 x * lv 1000000 y) (x.length + y.length + 1) w) := by
  obtain ⟨a0, c0, hva⟩ := ha.form
  obtain ⟨a1, c1, hvb⟩ := hb.form
  subst hva; subst hvb
  obtain ⟨n, hn⟩ : ∃ n, n = x.length + y.length + 1 := ⟨_, rfl⟩
  have hn2 : (x.length : Int) + (y.length : Int) + 1 = (n : Int) := by omega
  have hmk := make_ints n (by omega)
  have HA := hide ha; have HBB := hide hb; have HX := hide hx; have HY := hide hy; have HN := hide hn
  have hnb : n ≤ 200001 := by omega
  clear ha hb hx hy hn
  go_enter Tryz.func377, Tryz.ntmps377
  go_wp2_with fail
  clear hmk hn2
  have H0 := hide (heap_alloc_new w (rowO (zeros n))); have HB0 := hide ((Below.refl w.heap.size w).alloc (Nat.le_refl _) (rowO (zeros n)))
  go_loopw [6] (fun i wr => ∃ k : Nat, k ≤ x.length ∧ i = .int .i64 k ∧ Hid (∃ L : List Nat, L.length = n ∧ Lt 1000000 L ∧ lv 1000000 L = lvT 1000000 x k * lv 1000000 y ∧ wr.heap[w.heap.size]? = some (rowO L) ∧ Below w.heap.size w wr)) (fun i _ => x.length - (intOf i).toNat)
  case atStart =>
    refine ⟨0, Nat.zero_le _, rfl, zeros n, zeros_len n, zeros_lt _ _ (by omega), ?_, H0.out, HB0.out⟩
    rw [lvT_zero, zeros, lv_zeros]
    simp
  case round =>
    obtain ⟨i, hi, rfl, hin⟩ := hrel
    obtain ⟨L0, hL0n, hL0t, hL0v, hL0b, hL0w⟩ := hin.out
    have hsz := lt_blk hL0b
    by_cases hlt : i < x.length
    · have e3 : (i : Int) < (x.length : Int) := by omega
      rcases (HA.out.below hL0w hB).cases with ⟨_, _, _, hnil⟩ | ⟨b, o, cap, hv, hbb, hcl⟩
      · rw [hnil] at hlt
        simp at hlt
      injection hv with hv1 hv2 hv3
      subst hv1; subst hv3
      have hcell := hide (fun W (h : Below w.heap.size w W) => (h.cell (p := ⟨b, o + i, none⟩) (by simp; omega)).trans ((hL0w.cell (p := ⟨b, o + i, none⟩) (by simp; omega)).symm.trans (hcl i hlt)))
      have hxi := lat_lt (by omega) HX.out i
      obtain ⟨X, hX⟩ : ∃ X, X = lat x i := ⟨_, rfl⟩
      rw [← hX] at hcell hxi
      have HXE := hide hX; have HL0 := hide hL0b; have HW0 := hide hL0w; have HV0 := hide hL0v; have HN0 := hide hL0n; have HT0 := hide hL0t
      clear hcl hv2 hX hL0n hL0t hL0v hL0b hL0w hin hbb
      obtain ⟨wo, hwo⟩ : ∃ wo, wo = wr := ⟨_, rfl⟩
      subst hwo
      go_wp2_with fail
      go_loopw [7, 8] (fun c j wr => ∃ (k C : Nat), k ≤ y.length + 1 ∧ j = .int .i64 k ∧ c = .int .i64 C ∧ C < 1000000 ∧ Hid (∃ L : List Nat, L.length = n ∧ Lt 1000000 L ∧ lv 1000000 L + 1000000 ^ (i + k) * C = lv 1000000 L0 + X * lvT 1000000 y k * 1000000 ^ i ∧ wr.heap[w.heap.size]? = some (rowO L) ∧ Below w.heap.size w wr)) (fun _ j _ => y.length + 1 - (intOf j).toNat)
      case atStart =>
        refine ⟨0, 0, Nat.zero_le _, rfl, rfl, by omega, L0, HN0.out, HT0.out, ?_, HL0.out, HW0.out⟩
        rw [lvT_zero]
        simp
      case round =>
        obtain ⟨k, C, hk, rfl, rfl, hC, hin⟩ := hrel
        obtain ⟨L, hLn, hLt, hLv, hLb, hLw⟩ := hin.out
        have hsz2 := lt_blk hLb
        have hzero : y.length + 1 ≤ k → C = 0 := fun h => by
          have hk1 : k = y.length + 1 := by omega
          exact times_zero (by omega) HX.out HY.out hk1 (hLv.trans (times_total HV0.out (X := X) HXE.out (k := k) (by omega)))
        have hdone : ¬ k < y.length → C = 0 → lv 1000000 L = lvT 1000000 x (i + 1) * lv 1000000 y := fun h h2 => by
          have htot := hLv.trans (times_total HV0.out (X := X) HXE.out (k := k) (by omega))
          rw [h2] at htot
          simpa using htot
        rcases (show (k < y.length) ∨ (¬ k < y.length ∧ 0 < C) ∨ (¬ k < y.length ∧ C = 0) by omega) with h1 | ⟨h1, h2⟩ | ⟨h1, h2⟩
        case' inl =>
          have e4 : (k : Int) < (y.length : Int) := by omega
          have hkl : k < y.length + 1 := by omega
        case' inr.inl =>
          have e4 : ((k : Int) < (y.length : Int)) = False := eq_false (by omega)
          have e5 : 0 < C := h2
          have hkl : k < y.length + 1 := by
            rcases Nat.lt_or_ge k (y.length + 1) with h | h
            · exact h
            · have := hzero h
              omega
        rotate_right
        · have e4 : ((k : Int) < (y.length : Int)) = False := eq_false (by omega)
          have HLE := hide (hdone h1 h2)
          subst h2
          have HLt := hide hLt; have HLn := hide hLn; have HLb := hide hLb; have HLw := hide hLw
          clear hLv hLt hLn hLb hLw hzero hdone hin h1
          go_wp2_with fail
          go_roundw
          case rel => exact ⟨i + 1, by omega, by go_num, L, HLn.out, HLt.out, HLE.out, HLb.out, HLw.out⟩
          case measure => simp [intOf]; omega
        all_goals
          have hik : i + k < L.length := by rw [hLn, HN.out]; omega
          have q1 := row_cell hLb hik
          have q2 := row_froz hLb (i + k)
          have q3 := hcell.out wr hLw
          have hyk := lat_lt (by omega) HY.out k
          have hlk := lat_lt (by omega) hLt (i + k)
          have hlim := hide (fun m : Nat => rlimb_any (.slice a1 y.length c1) y k B (wr.drewN m) (HBB.out.below (below_drewN hLw m) hB) (by omega))
          obtain ⟨Y, hY⟩ : ∃ Y, Y = lat y k := ⟨_, rfl⟩
          obtain ⟨Q, hQ⟩ : ∃ Q, Q = lat L (i + k) := ⟨_, rfl⟩
          rw [← hY] at hyk hlim
          rw [← hQ] at hlk q1
          obtain ⟨p, T, Dv, R, -, hpi, w2, w3, w4, hD, hR, hTl, hDl, hRl, hs⟩ := rtimes_nums hxi hyk hlk hC
          have w1 : IntKind.i64.wrap ((i : Int) + (k : Int)) = (i : Int) + (k : Int) := IntWalk.i64_in _ (by omega)
          have j0 : (0 : Int) ≤ (i : Int) + (k : Int) := by omega
          have j1 : (i : Int) + (k : Int) < (n : Int) := by have := HN.out; omega
          have j2 : ((i : Int) + (k : Int)).toNat = i + k := by omega
          have HLv := hide hLv; have HLt := hide hLt; have HLn := hide hLn; have HLb := hide hLb; have HLw := hide hLw; have HYE := hide hY; have HQE := hide hQ; have HIK := hide hik; have HS := hide hs; have HDE := hide hD
          clear hLv hLt hLn hLb hLw hY hQ hik hin hs hzero hdone h1
          go_wp2_with fail
          go_quiet ((go_at_call 395; exact Calls.quiet_of_same (hlim.out _)))
          clear w2 w3 w4 hpi hlim
          go_wp2_with fail
          go_roundw
          case rel =>
            refine ⟨k + 1, Dv, by omega, by go_num, by first | rfl | rw [HDE.out], hDl, L.set (i + k) R, by rw [List.length_set]; exact HLn.out, lt_set HLt.out hRl, ?_, ?_, ?_⟩
            · rw [lvT_succ, ← HYE.out]
              have h1 := lv_set (b := 1000000) R HIK.out
              rw [← HQE.out] at h1
              exact times_step HLv.out h1 HS.out
            · exact row_set (w := wr.drewN nq) HLb.out (i + k) _
            · exact (below_drewN HLw.out nq).setCell (p := ⟨w.heap.size, i + k, none⟩) (Nat.le_refl _) _
          case measure => simp [intOf]; omega
    · have e3 : ¬ (i : Int) < (x.length : Int) := by omega
      have HE := hide (show lv 1000000 L0 = lv 1000000 x * lv 1000000 y by rw [hL0v, lvT_all (l := x) (i := i) (by omega)])
      have HT := hide (rtrim_any (some ⟨w.heap.size, 0, none⟩) n L0 wr.heap.size wr (by
        have := row_limbs hL0b (by unfold maxLen; omega)
        rw [hL0n] at this ⊢
        exact this) (by omega) (by omega))
      rw [hL0n] at HT
      have HO := hide (row_owns hL0b (Nat.le_refl _) (by unfold maxLen; omega))
      have HLn := hide hL0n; have HLw := hide hL0w; have HLt := hide hL0t
      clear hL0n hL0t hL0v hL0b hL0w hin
      go_wp2_with fail
      refine HT.out.mono ?_
      rintro e w1 ⟨rfl, rfl⟩
      go_wp2_with fail
      go_ret
      refine ⟨trimL L0, ⟨_, rfl, HLw.out, ?_⟩, trimL_norm HLt.out, by rw [trimL_lv, HE.out], ?_⟩
      · have hc := HO.out.cut (k := trimTo L0 n) (by rw [HLn.out]; exact trimTo_le _ _)
        rw [HLn.out] at hc
        unfold trimL
        rw [HLn.out]
        exact hc
      · rw [trimL_len]
        have := trimTo_le L0 L0.length
        have := HLn.out
        have := HN.out
        omega
open Go.RowKit Go.KP Go.KI Go.Shelf
attribute [local go_sem] Oper.semAt_some

theorem exit_rmul {R : Ending → World → Prop} {a : Act} {W : World} {b : Nat} {m : Bool} {v : Value} (hb : W.heap[b]? = some (.cells #[.bool m, v] 308 (0, 0)))
    (h2 : a.tmps[4]? = some (.pointer (some ⟨b, 0, none⟩))) (hd : a.defers = []) (hR : R (.returned (numV m v)) W) : bodyPost Tryz.prog Tryz.f304 R .ret a W := by
  have hcell := fun o => cell_blk hb o
  refine bodyPost_ret ?_ hd hR
  simp [results, go_sem, hcell, h2]
theorem cell_set2 {w : World} {b b2 o : Nat} {u0 u1 : Value} (h : b ≠ b2) : ((w.setCell ⟨b, 0, none⟩ u0).setCell ⟨b, 1, none⟩ u1).cell? ⟨b2, o, none⟩ = w.cell? ⟨b2, o, none⟩ := by
  have h1 : ((w.setCell ⟨b, 0, none⟩ u0).setCell ⟨b, 1, none⟩ u1).heap[b2]? = w.heap[b2]? := (setCell_other h).trans (setCell_other h)
  simp only [World.cell?, h1]
theorem cell_alloc {w : World} {b2 o : Nat} {ob : Obj} (h : b2 < w.heap.size) : (w.alloc ob).cell? ⟨b2, o, none⟩ = w.cell? ⟨b2, o, none⟩ := by
  have h1 : (w.alloc ob).heap[b2]? = w.heap[b2]? := Below.heap_alloc _ _ _ h
  simp only [World.cell?, h1]
abbrev bigO (m : Bool) (v : Value) : Obj := .cells #[.bool m, v] 308
theorem own_ne_big {base nb : Nat} {W : World} {v u : Value} {m : Bool} {l : List Nat} (h : OwnL base W v l) (hb : W.heap[nb]? = some (bigO m u)) : ∀ r, v.ownBlock = some r → r ≠ nb := by
  intro r hr he
  subst he
  rcases h.2 with ⟨hv, _⟩ | ⟨g, cap, cur, hv, _, hh, _⟩
  · rw [hv] at hr
    cases hr
  · rw [hv] at hr
    injection hr with hr
    subst hr
    rw [hb] at hh
    injection hh with hh
    injection hh with _ ht _
    exact absurd ht (by decide)
theorem mul_zero_z {m1 m2 : Bool} {x y : List Nat} {l : List Nat} (h : lv 1000000 l = lv 1000000 x * lv 1000000 y) (hl : l = []) : valS false (lv 1000000 l) = valS m1 (lv 1000000 x) * valS m2 (lv 1000000 y) := by
  rw [← valS_mul, ← h, hl]
  cases m1 <;> cases m2 <;> rfl
theorem rmul_any (m1 m2 : Bool) (a1 a2 : Option Addr) (c1 c2 : Nat) (x y : List Nat) (w : World) (ha : LimbAt w.heap.size w (.slice a1 x.length c1) x) (hb : LimbAt w.heap.size w (.slice a2 y.length c2) y) (hx : Lt 1000000 x) (hy : Lt 1000000 y) (lx : x.length ≤ 90000) (ly : y.length ≤ 90000) :
    Calls Tryz.prog 304 #[numV m1 (.slice a1 x.length c1), numV m2 (.slice a2 y.length c2)] w (RNum (valS m1 (lv 1000000 x) * valS m2 (lv 1000000 y)) (x.length + y.length + 1) w) := by
  obtain ⟨b0, b1, b2, hs0, hB0⟩ := heap3 w (bigO m1 (.slice a1 x.length c1)) (bigO m2 (.slice a2 y.length c2)) (bigO false (.slice none 0 0))
  obtain ⟨w0, hw0⟩ : ∃ w0, ((w.alloc (bigO m1 (.slice a1 x.length c1))).alloc (bigO m2 (.slice a2 y.length c2))).alloc (bigO false (.slice none 0 0)) = w0 := ⟨_, rfl⟩
  rw [hw0] at b0 b1 b2 hs0 hB0
  have P0 := hide b0; have P1 := hide b1; have P2 := hide b2; have PB := hide hB0
  have k0 := cell_blk b0 0
  have k1 := cell_blk b0 1
  have k2 := cell_blk b1 0
  have k3 := cell_blk b1 1
  have hsz : w.heap.size + 2 < w0.heap.size := by omega
  have HT := hide (fun W (h : Below w.heap.size w W) => rtimes_any (.slice a1 x.length c1) (.slice a2 y.length c2) x y w.heap.size W (ha.below h (Nat.le_refl _)) (hb.below h (Nat.le_refl _)) h.size hx hy (by omega) (by omega))
  clear ha hb hs0 b0 b1 b2 hB0
  go_enter Tryz.func304, Tryz.ntmps304
  go_wp2_with fail
  have HB1 := hide (show Below w0.heap.size w0 w0.drew from (Below.refl _ _).drew)
  have HB2 := hide (show Below w0.heap.size w0 (w0.drew.alloc (bigO false (.slice none 0 0))) from (Below.refl _ _).drew.alloc (Nat.le_refl _) _)
  have HP2 := hide (show (w0.drew.alloc (bigO false (.slice none 0 0))).heap[w0.heap.size]? = some (bigO false (.slice none 0 0)) from heap_alloc_new w0.drew _)
  go_region_held3 (fun w' => w'.cell? ⟨w.heap.size, 0, none⟩ = some (.bool m1) ∧ w'.cell? ⟨w.heap.size, 1, none⟩ = some (.slice a1 x.length c1) ∧ w'.cell? ⟨w.heap.size + 1, 0, none⟩ = some (.bool m2) ∧ w'.cell? ⟨w.heap.size + 1, 1, none⟩ = some (.slice a2 y.length c2)) (first | exact ⟨k0, k1, k2, k3⟩ | exact ⟨d0, d1, d2, d3⟩ | exact ⟨(cell_set2 (by omega)).trans d0, (cell_set2 (by omega)).trans d1, (cell_set2 (by omega)).trans d2, (cell_set2 (by omega)).trans d3⟩ | exact ⟨(cell_alloc (by omega)).trans d0, (cell_alloc (by omega)).trans d1, (cell_alloc (by omega)).trans d2, (cell_alloc (by omega)).trans d3⟩ | exact ⟨(cell_set2 (by simp; omega)).trans ((cell_alloc (by omega)).trans d0), (cell_set2 (by simp; omega)).trans ((cell_alloc (by omega)).trans d1), (cell_set2 (by simp; omega)).trans ((cell_alloc (by omega)).trans d2), (cell_set2 (by simp; omega)).trans ((cell_alloc (by omega)).trans d3)⟩ | go_keep)
    (first
      | (go_at_call 377
         refine (HT.out (w0.drew.alloc (bigO false (.slice none 0 0))) (PB.out.trans (HB2.out.mono PB.out.size))).mono ?_
         rintro e w1 ⟨l3, ⟨v3, rfl, hb1, o3⟩, n3, q3, k3'⟩
         obtain ⟨av3, cv3, hvf, _, _⟩ := o3.form
         subst hvf
         have E1 := hide (show Below w0.heap.size w0 w1 from HB2.out.trans (hb1.mono HB2.out.size))
         have T1 := hide (below_blk hb1 HP2.out (lt_blk HP2.out))
         have r0 := cell_blk T1.out 0
         have r1 := cell_blk T1.out 1
         have g0 := froz_blk T1.out 0
         have g1 := froz_blk T1.out 1
         have hsl := lt_blk T1.out
         have D0 := hide (below_blk E1.out P0.out (by omega)); have D1 := hide (below_blk E1.out P1.out (by omega)); have D2 := hide (below_blk E1.out P2.out (by omega))
         obtain ⟨d0, d1, d2, d3⟩ : w1.cell? ⟨w.heap.size, 0, none⟩ = some (.bool m1) ∧ w1.cell? ⟨w.heap.size, 1, none⟩ = some (.slice a1 x.length c1) ∧ w1.cell? ⟨w.heap.size + 1, 0, none⟩ = some (.bool m2) ∧ w1.cell? ⟨w.heap.size + 1, 1, none⟩ = some (.slice a2 y.length c2) := ⟨cell_blk D0.out 0, cell_blk D0.out 1, cell_blk D1.out 0, cell_blk D1.out 1⟩
         have hs1 : w0.heap.size ≤ w1.heap.size := E1.out.size
         have O3 := hide o3; have N3 := hide n3; have Q3 := hide q3; have K3 := hide k3'
         clear hb1 o3 n3 q3 k3')
      | (go_at_call 377
         refine (HT.out w0.drew (PB.out.trans (HB1.out.mono PB.out.size))).mono ?_
         rintro e w1 ⟨l3, ⟨v3, rfl, hb1, o3⟩, n3, q3, k3'⟩
         obtain ⟨av3, cv3, hvf, _, _⟩ := o3.form
         subst hvf
         have E1 := hide (show Below w0.heap.size w0 w1 from HB1.out.trans (hb1.mono HB1.out.size))
         have D0 := hide (below_blk E1.out P0.out (by omega)); have D1 := hide (below_blk E1.out P1.out (by omega)); have D2 := hide (below_blk E1.out P2.out (by omega))
         obtain ⟨d0, d1, d2, d3⟩ : w1.cell? ⟨w.heap.size, 0, none⟩ = some (.bool m1) ∧ w1.cell? ⟨w.heap.size, 1, none⟩ = some (.slice a1 x.length c1) ∧ w1.cell? ⟨w.heap.size + 1, 0, none⟩ = some (.bool m2) ∧ w1.cell? ⟨w.heap.size + 1, 1, none⟩ = some (.slice a2 y.length c2) := ⟨cell_blk D0.out 0, cell_blk D0.out 1, cell_blk D1.out 0, cell_blk D1.out 1⟩
         have hs1 : w0.heap.size ≤ w1.heap.size := E1.out.size
         have O3 := hide o3; have N3 := hide n3; have Q3 := hide q3; have K3 := hide k3'
         clear hb1 o3 n3 q3 k3')
      | fail)
  case' _ =>
    have TT := hide (heap_alloc_new w1 (bigO (!(m1 == m2)) (.slice av3 l3.length cv3)))
    have EE := hide (E1.out.alloc hs1 (bigO (!(m1 == m2)) (.slice av3 l3.length cv3)))
    have OO := hide ((O3.out.mono PB.out.size).keep ((Below.refl _ _).alloc (Nat.le_refl _) (bigO (!(m1 == m2)) (.slice av3 l3.length cv3))))
    obtain ⟨W, hW⟩ : ∃ W, w1.alloc (bigO (!(m1 == m2)) (.slice av3 l3.length cv3)) = W := ⟨_, rfl⟩
    rw [hW] at TT EE OO ⊢
    obtain ⟨nb, hnb⟩ : ∃ nb, w1.heap.size = nb := ⟨_, rfl⟩
    rw [hnb] at TT hs1 ⊢
    have hnb0 : w0.heap.size ≤ nb := hs1
  rotate_left
  case' _ =>
    obtain ⟨s1, s2⟩ := set2 T1.out (.bool (!(m1 == m2))) (.slice av3 l3.length cv3)
    have TT := hide s1
    have EE := hide (E1.out.trans s2)
    have OO := hide (((O3.out.other (p := ⟨w0.heap.size, 0, none⟩) (by simp) (.bool (!(m1 == m2)))).other (p := ⟨w0.heap.size, 1, none⟩) (by simp) (.slice av3 l3.length cv3)).mono (show w.heap.size ≤ _ by have := PB.out.size; simp; omega))
    clear r0 r1 g0 g1 T1 s1 s2
    obtain ⟨W, hW⟩ : ∃ W, (w1.setCell ⟨w0.heap.size, 0, none⟩ (.bool (!(m1 == m2)))).setCell ⟨w0.heap.size, 1, none⟩ (.slice av3 l3.length cv3) = W := ⟨_, rfl⟩
    rw [hW] at TT EE OO ⊢
    obtain ⟨nb, hnb⟩ : ∃ nb, w0.heap.size = nb := ⟨_, rfl⟩
    rw [hnb] at TT ⊢
    have hnb0 : w0.heap.size ≤ nb := by omega
  all_goals
    have r0 := cell_blk TT.out 0
    have r1 := cell_blk TT.out 1
    have g0 := froz_blk TT.out 0
    have hsl := lt_blk TT.out
    have RR := hide (below_blk EE.out P2.out (by omega))
    have s0 := cell_blk RR.out 0
    have s1 := cell_blk RR.out 1
    have z0 := froz_blk RR.out 0
    have z1 := froz_blk RR.out 1
    have hsr := lt_blk RR.out
    clear O3 E1 D0 D1 D2 d0 d1 d2 d3 k0 k1 k2 k3 HB1 HB2 HP2 HT hW hnb P0 P1 P2 hw0
    have hne : ¬ w.heap.size + 2 = nb := by omega
    by_cases h0 : l3 = []
    · have hl0 : ((l3.length : Int) == 0) = true := by rw [h0]; rfl
      have HL0 := hide h0
      clear h0
      go_wp2_with fail
      obtain ⟨y1, y2⟩ := set1 TT.out (.bool false)
      have RR2 := (setCell_other (w := W) (k := 0) (v := .bool false) (show nb ≠ w.heap.size + 2 by omega)).trans RR.out
      obtain ⟨y3, y4⟩ := set2 RR2 (.bool false) (.slice av3 l3.length cv3)
      refine exit_rmul y3 rfl rfl ⟨false, _, l3, rfl, ?_, ?_, N3.out, mul_zero_z Q3.out HL0.out, K3.out⟩
      · exact PB.out.trans ((EE.out.trans (y2.mono hnb0)).mono PB.out.size |>.trans (y4.mono (by omega)))
      · exact owns_stay OO.out (fun r hr => by
          have := own_ne_big OO.out TT.out r hr
          have := own_ne_big OO.out RR.out r hr
          rw [setCell_other (by omega), setCell_other (by omega), setCell_other (by omega)])
    · have hl0 : ((l3.length : Int) == 0) = false := by
        have : l3.length ≠ 0 := fun h => h0 (List.eq_nil_of_length_eq_zero h)
        simp only [beq_eq_false_iff_ne, ne_eq]
        omega
      have HL0 := hide h0
      clear h0
      go_wp2_with fail
      obtain ⟨y3, y4⟩ := set2 RR.out (.bool (!(m1 == m2))) (.slice av3 l3.length cv3)
      refine exit_rmul y3 rfl rfl ⟨_, _, l3, rfl, ?_, ?_, N3.out, by rw [Q3.out, valS_mul], K3.out⟩
      · exact PB.out.trans (EE.out.mono PB.out.size |>.trans (y4.mono (by omega)))
      · exact owns_stay OO.out (fun r hr => by
          have := own_ne_big OO.out RR.out r hr
          rw [setCell_other (by omega), setCell_other (by omega)])
open Go.RowKit Go.KP Go.KI Go.Shelf
attribute [local go_sem] Oper.semAt_some

theorem exit_radd {R : Ending → World → Prop} {a : Act} {W : World} {b : Nat} {m : Bool} {v : Value} (hb : W.heap[b]? = some (.cells #[.bool m, v] 308 (0, 0)))
    (h2 : a.tmps[4]? = some (.pointer (some ⟨b, 0, none⟩))) (hd : a.defers = []) (hR : R (.returned (numV m v)) W) : bodyPost Tryz.prog Tryz.f347 R .ret a W := by
  have hcell := fun o => cell_blk hb o
  refine bodyPost_ret ?_ hd hR
  simp [results, go_sem, hcell, h2]
theorem radd_any (m1 m2 : Bool) (a1 a2 : Option Addr) (c1 c2 : Nat) (x y : List Nat) (w : World) (ha : LimbAt w.heap.size w (.slice a1 x.length c1) x) (hb : LimbAt w.heap.size w (.slice a2 y.length c2) y) (hx : Norm 1000000 x) (hy : Norm 1000000 y) (lx : x.length ≤ 90000) (ly : y.length ≤ 90000) :
    Calls Tryz.prog 347 #[numV m1 (.slice a1 x.length c1), numV m2 (.slice a2 y.length c2)] w (RNum (valS m1 (lv 1000000 x) + valS m2 (lv 1000000 y)) (max x.length y.length + 1) w) := by
  obtain ⟨b0, b1, b2, hs0, hB0⟩ := heap3 w (bigO m1 (.slice a1 x.length c1)) (bigO m2 (.slice a2 y.length c2)) (bigO false (.slice none 0 0))
  obtain ⟨w0, hw0⟩ : ∃ w0, ((w.alloc (bigO m1 (.slice a1 x.length c1))).alloc (bigO m2 (.slice a2 y.length c2))).alloc (bigO false (.slice none 0 0)) = w0 := ⟨_, rfl⟩
  rw [hw0] at b0 b1 b2 hs0 hB0
  have P0 := hide b0; have P1 := hide b1; have P2 := hide b2; have PB := hide hB0
  have k0 := cell_blk b0 0
  have k1 := cell_blk b0 1
  have k2 := cell_blk b1 0
  have k3 := cell_blk b1 1
  have hsz : w.heap.size + 2 < w0.heap.size := by omega
  have HA := hide ha; have HB := hide hb; have HX := hide hx; have HY := hide hy
  clear ha hb hx hy hs0 b0 b1 b2 hB0
  by_cases hm : m1 = m2
  · subst hm
    have HT := hide (fun W (h : Below w.heap.size w W) => rplus_any (.slice a1 x.length c1) (.slice a2 y.length c2) x y w.heap.size W (HA.out.below h (Nat.le_refl _)) (HB.out.below h (Nat.le_refl _)) h.size HX.out.lt HY.out.lt (by omega) (by omega))
    have HB1 := hide (show Below w0.heap.size w0 w0.drew from (Below.refl _ _).drew)
    go_enter Tryz.func347, Tryz.ntmps347
    go_wp2_with fail
    go_region_held3 (fun w' => w'.cell? ⟨w.heap.size, 0, none⟩ = some (.bool m1) ∧ w'.cell? ⟨w.heap.size, 1, none⟩ = some (.slice a1 x.length c1) ∧ w'.cell? ⟨w.heap.size + 1, 1, none⟩ = some (.slice a2 y.length c2)) (first | exact ⟨k0, k1, k3⟩ | exact ⟨d0, d1, d3⟩ | exact ⟨(cell_set2 (by omega)).trans d0, (cell_set2 (by omega)).trans d1, (cell_set2 (by omega)).trans d3⟩ | go_keep)
      (first
        | (go_at_call 379
           refine (HT.out w0.drew (PB.out.trans (HB1.out.mono PB.out.size))).mono ?_
           rintro e w1 ⟨l3, ⟨v3, rfl, hb1, o3⟩, n3, q3, k3'⟩
           obtain ⟨av3, cv3, hvf, _, _⟩ := o3.form
           subst hvf
           have E1 := hide (show Below w0.heap.size w0 w1 from HB1.out.trans (hb1.mono HB1.out.size))
           have D0 := hide (below_blk E1.out P0.out (by omega)); have D1 := hide (below_blk E1.out P1.out (by omega)); have D2 := hide (below_blk E1.out P2.out (by omega))
           obtain ⟨d0, d1, d3⟩ : w1.cell? ⟨w.heap.size, 0, none⟩ = some (.bool m1) ∧ w1.cell? ⟨w.heap.size, 1, none⟩ = some (.slice a1 x.length c1) ∧ w1.cell? ⟨w.heap.size + 1, 1, none⟩ = some (.slice a2 y.length c2) := ⟨cell_blk D0.out 0, cell_blk D0.out 1, cell_blk D1.out 1⟩
           have s0 := cell_blk D2.out 0
           have s1 := cell_blk D2.out 1
           have z0 := froz_blk D2.out 0
           have z1 := froz_blk D2.out 1
           have hsr := lt_blk D2.out
           have hs1 : w0.heap.size ≤ w1.heap.size := E1.out.size
           have O3 := hide o3; have N3 := hide n3; have Q3 := hide q3; have K3 := hide k3'
           clear hb1 o3 n3 q3 k3')
        | fail)
    clear k0 k1 k2 k3 d0 d1 d3 s0 s1 z0 z1
    go_wp2_with fail
    obtain ⟨y3, y4⟩ := set2 D2.out (.bool m1) (.slice av3 l3.length cv3)
    refine exit_radd y3 rfl rfl ⟨_, _, l3, rfl, ?_, ?_, N3.out, by rw [Q3.out, valS_add], K3.out⟩
    · exact PB.out.trans (E1.out.mono PB.out.size |>.trans (y4.mono (by omega)))
    · exact owns_stay (O3.out.mono (show w.heap.size ≤ w0.drew.heap.size from PB.out.size)) (fun r hr => by
        have := own_ne_big O3.out D2.out r hr
        rw [setCell_other (by omega), setCell_other (by omega)])
  · obtain rfl : m2 = !m1 := by cases m1 <;> cases m2 <;> simp_all
    have hq : (m1 == !m1) = false := by cases m1 <;> rfl
    have HS := hide (rsize_any (.slice a1 x.length c1) (.slice a2 y.length c2) x y w.heap.size w0 (HA.out.below PB.out (Nat.le_refl _)) (HB.out.below PB.out (Nat.le_refl _)) PB.out.size HX.out HY.out (by omega))
    clear hm
    go_enter Tryz.func347, Tryz.ntmps347
    go_wp2_with fail
    refine HS.out.mono ?_
    rintro e w1 ⟨r, rfl, hr, hb1⟩
    have D0 := hide (below_blk hb1 P0.out (by omega)); have D1 := hide (below_blk hb1 P1.out (by omega)); have D2 := hide (below_blk hb1 P2.out (by omega))
    have E1 := hide (PB.out.trans (hb1.mono PB.out.size))
    have hs1 := hb1.size
    obtain ⟨d0, d1, d2, d3⟩ : w1.cell? ⟨w.heap.size, 0, none⟩ = some (.bool m1) ∧ w1.cell? ⟨w.heap.size, 1, none⟩ = some (.slice a1 x.length c1) ∧ w1.cell? ⟨w.heap.size + 1, 0, none⟩ = some (.bool !m1) ∧ w1.cell? ⟨w.heap.size + 1, 1, none⟩ = some (.slice a2 y.length c2) := ⟨cell_blk D0.out 0, cell_blk D0.out 1, cell_blk D1.out 0, cell_blk D1.out 1⟩
    have f0 := froz_blk D0.out 0
    have f1 := froz_blk D0.out 1
    have f2 := froz_blk D1.out 0
    have f3 := froz_blk D1.out 1
    have hsr := lt_blk D2.out
    clear hb1 HS k0 k1 k2 k3 P0 P1 P2 hw0
    by_cases h0 : 0 ≤ r
    · have hle : lv 1000000 y ≤ lv 1000000 x := by
        have h1 := hr.1
        have h2 : ¬ lv 1000000 x < lv 1000000 y := fun h => by have := h1.2 h; omega
        omega
      have h0' : (r < 0) = False := eq_false (by omega)
      have HLE := hide hle
      clear hr hle hq h0
      go_wp2_with fail
      have HZ := hide (valS_sub m1 HLE.out).symm
      have HT := hide (fun W2 (h : Below w.heap.size w W2) => rminus_any (.slice a1 x.length c1) (.slice a2 y.length c2) x y w.heap.size W2 (HA.out.below h (Nat.le_refl _)) (HB.out.below h (Nat.le_refl _)) h.size HX.out.lt HY.out (by omega) HLE.out)
      have HB1 := hide (show Below w1.heap.size w1 w1.drew from (Below.refl _ _).drew)
      have HB2 := hide (show Below w1.heap.size w1 (w1.drew.alloc (bigO false (.slice none 0 0))) from (Below.refl _ _).drew.alloc (Nat.le_refl _) _)
      have HP2 := hide (show (w1.drew.alloc (bigO false (.slice none 0 0))).heap[w1.heap.size]? = some (bigO false (.slice none 0 0)) from heap_alloc_new w1.drew _)
      go_region_held3 (fun w' => w'.cell? ⟨w.heap.size, 0, none⟩ = some (.bool m1) ∧ w'.cell? ⟨w.heap.size, 1, none⟩ = some (.slice a1 x.length c1) ∧ w'.cell? ⟨w.heap.size + 1, 1, none⟩ = some (.slice a2 y.length c2)) (first | exact ⟨d0, d1, d3⟩ | exact ⟨e0, e1, e3⟩ | exact ⟨(cell_set2 (by omega)).trans e0, (cell_set2 (by omega)).trans e1, (cell_set2 (by omega)).trans e3⟩ | exact ⟨(cell_alloc (by omega)).trans e0, (cell_alloc (by omega)).trans e1, (cell_alloc (by omega)).trans e3⟩ | go_keep)
        (first
          | (go_at_call 396
             refine (HT.out (w1.drew.alloc (bigO false (.slice none 0 0))) (E1.out.trans (HB2.out.mono E1.out.size))).mono ?_
             rintro e w2 ⟨l3, ⟨v3, rfl, hb1, o3⟩, n3, q3, k3'⟩
             obtain ⟨av3, cv3, hvf, _, _⟩ := o3.form
             subst hvf
             have E2 := hide (show Below w1.heap.size w1 w2 from HB2.out.trans (hb1.mono HB2.out.size))
             have T1 := hide (below_blk hb1 HP2.out (lt_blk HP2.out))
             have r0 := cell_blk T1.out 0
             have r1 := cell_blk T1.out 1
             have g0 := froz_blk T1.out 0
             have g1 := froz_blk T1.out 1
             have hsl := lt_blk T1.out
             obtain ⟨e0, e1, e3⟩ : w2.cell? ⟨w.heap.size, 0, none⟩ = some (.bool m1) ∧ w2.cell? ⟨w.heap.size, 1, none⟩ = some (.slice a1 x.length c1) ∧ w2.cell? ⟨w.heap.size + 1, 1, none⟩ = some (.slice a2 y.length c2) := ⟨cell_blk (below_blk E2.out D0.out (by omega)) 0, cell_blk (below_blk E2.out D0.out (by omega)) 1, cell_blk (below_blk E2.out D1.out (by omega)) 1⟩
             have hs2 : w1.heap.size ≤ w2.heap.size := E2.out.size
             have O3 := hide o3; have N3 := hide n3; have Q3 := hide q3; have K3 := hide k3'
             clear hb1 o3 n3 q3 k3')
          | (go_at_call 396
             refine (HT.out w1.drew (E1.out.trans (HB1.out.mono E1.out.size))).mono ?_
             rintro e w2 ⟨l3, ⟨v3, rfl, hb1, o3⟩, n3, q3, k3'⟩
             obtain ⟨av3, cv3, hvf, _, _⟩ := o3.form
             subst hvf
             have E2 := hide (show Below w1.heap.size w1 w2 from HB1.out.trans (hb1.mono HB1.out.size))
             obtain ⟨e0, e1, e3⟩ : w2.cell? ⟨w.heap.size, 0, none⟩ = some (.bool m1) ∧ w2.cell? ⟨w.heap.size, 1, none⟩ = some (.slice a1 x.length c1) ∧ w2.cell? ⟨w.heap.size + 1, 1, none⟩ = some (.slice a2 y.length c2) := ⟨cell_blk (below_blk E2.out D0.out (by omega)) 0, cell_blk (below_blk E2.out D0.out (by omega)) 1, cell_blk (below_blk E2.out D1.out (by omega)) 1⟩
             have hs2 : w1.heap.size ≤ w2.heap.size := E2.out.size
             have O3 := hide o3; have N3 := hide n3; have Q3 := hide q3; have K3 := hide k3'
             clear hb1 o3 n3 q3 k3')
          | fail)
      case' _ =>
        have TT := hide (heap_alloc_new w2 (bigO m1 (.slice av3 l3.length cv3)))
        have EE := hide (E2.out.alloc hs2 (bigO m1 (.slice av3 l3.length cv3)))
        have OO := hide ((O3.out.mono E1.out.size).keep ((Below.refl _ _).alloc (Nat.le_refl _) (bigO m1 (.slice av3 l3.length cv3))))
        obtain ⟨W, hW⟩ : ∃ W, w2.alloc (bigO m1 (.slice av3 l3.length cv3)) = W := ⟨_, rfl⟩
        rw [hW] at TT EE OO ⊢
        obtain ⟨nb, hnb⟩ : ∃ nb, w2.heap.size = nb := ⟨_, rfl⟩
        rw [hnb] at TT hs2 ⊢
        have hnb0 : w1.heap.size ≤ nb := hs2
      rotate_left
      case' _ =>
        obtain ⟨s1, s2⟩ := set2 T1.out (.bool m1) (.slice av3 l3.length cv3)
        have TT := hide s1
        have EE := hide (E2.out.trans s2)
        have OO := hide (((O3.out.other (p := ⟨w1.heap.size, 0, none⟩) (by simp) (.bool m1)).other (p := ⟨w1.heap.size, 1, none⟩) (by simp) (.slice av3 l3.length cv3)).mono (show w.heap.size ≤ _ by have := E1.out.size; simp; omega))
        clear r0 r1 g0 g1 T1 s1 s2
        obtain ⟨W, hW⟩ : ∃ W, (w2.setCell ⟨w1.heap.size, 0, none⟩ (.bool m1)).setCell ⟨w1.heap.size, 1, none⟩ (.slice av3 l3.length cv3) = W := ⟨_, rfl⟩
        rw [hW] at TT EE OO ⊢
        obtain ⟨nb, hnb⟩ : ∃ nb, w1.heap.size = nb := ⟨_, rfl⟩
        rw [hnb] at TT ⊢
        have hnb0 : w1.heap.size ≤ nb := by omega
      all_goals
        have RR := hide (below_blk EE.out D2.out hsr)
        have r0 := cell_blk TT.out 0
        have r1 := cell_blk TT.out 1
        have g0 := froz_blk TT.out 0
        have hsl := lt_blk TT.out
        have s0 := cell_blk RR.out 0
        have s1 := cell_blk RR.out 1
        have z0 := froz_blk RR.out 0
        have z1 := froz_blk RR.out 1
        have hsr2 := lt_blk RR.out
        clear O3 E2 D0 D1 D2 d0 d1 d2 d3 e0 e1 e3 HB1 HB2 HP2 HT hW hnb
        have hne : ¬ w.heap.size + 2 = nb := by omega
        have hz0 : valS m1 (lv 1000000 l3) = valS m1 (lv 1000000 x) + valS (!m1) (lv 1000000 y) := by rw [Q3.out]; exact HZ.out
        have HZ2 := hide hz0
        clear hz0
        by_cases h0 : l3 = []
        · have hl0 : ((l3.length : Int) == 0) = true := by rw [h0]; rfl
          have HL0 := hide (show valS false (lv 1000000 l3) = valS (m1) (lv 1000000 l3) by rw [h0]; cases m1 <;> rfl)
          clear h0
          go_wp2_with fail
          obtain ⟨y1, y2⟩ := set1 TT.out (.bool false)
          have RR2 := (setCell_other (w := W) (k := 0) (v := .bool false) (show nb ≠ w.heap.size + 2 by omega)).trans RR.out
          obtain ⟨y3, y4⟩ := set2 RR2 (.bool false) (.slice av3 l3.length cv3)
          refine exit_radd y3 rfl rfl ⟨false, _, l3, rfl, ?_, ?_, N3.out, HL0.out.trans HZ2.out, by have := K3.out; omega⟩
          · exact E1.out.trans ((EE.out.trans (y2.mono hnb0)).mono E1.out.size |>.trans (y4.mono (by omega)))
          · exact owns_stay OO.out (fun r hr => by
              have := own_ne_big OO.out TT.out r hr
              have := own_ne_big OO.out RR.out r hr
              rw [setCell_other (by omega), setCell_other (by omega), setCell_other (by omega)])
        · have hl0 : ((l3.length : Int) == 0) = false := by
            have : l3.length ≠ 0 := fun h => h0 (List.eq_nil_of_length_eq_zero h)
            simp only [beq_eq_false_iff_ne, ne_eq]
            omega
          clear h0
          go_wp2_with fail
          obtain ⟨y3, y4⟩ := set2 RR.out (.bool m1) (.slice av3 l3.length cv3)
          refine exit_radd y3 rfl rfl ⟨_, _, l3, rfl, ?_, ?_, N3.out, HZ2.out, by have := K3.out; omega⟩
          · exact E1.out.trans (EE.out.mono E1.out.size |>.trans (y4.mono (by omega)))
          · exact owns_stay OO.out (fun r hr => by
              have := own_ne_big OO.out RR.out r hr
              rw [setCell_other (by omega), setCell_other (by omega)])
    · have hle : lv 1000000 x ≤ lv 1000000 y := by
        have h1 := hr.1.1 (by omega)
        omega
      have HLE := hide hle
      have h0' : r < 0 := by omega
      clear hr hle hq h0
      go_wp2_with fail
      have HZ := hide (valS_sub2 m1 HLE.out).symm
      obtain ⟨s1, s2⟩ := set2 D0.out (.bool (!m1)) (.slice a2 y.length c2)
      have D1' := hide ((setCell_other (w := w1.setCell ⟨w.heap.size, 0, none⟩ (.bool (!m1))) (k := 1) (v := .slice a2 y.length c2) (show w.heap.size ≠ w.heap.size + 1 by omega)).trans ((setCell_other (w := w1) (k := 0) (v := .bool (!m1)) (show w.heap.size ≠ w.heap.size + 1 by omega)).trans D1.out))
      have D2' := hide ((setCell_other (w := w1.setCell ⟨w.heap.size, 0, none⟩ (.bool (!m1))) (k := 1) (v := .slice a2 y.length c2) (show w.heap.size ≠ w.heap.size + 2 by omega)).trans ((setCell_other (w := w1) (k := 0) (v := .bool (!m1)) (show w.heap.size ≠ w.heap.size + 2 by omega)).trans D2.out))
      obtain ⟨t1, t2⟩ := set2 D1'.out (.bool m1) (.slice a1 x.length c1)
      have D0 := hide ((setCell_other (k := 1) (v := .slice a1 x.length c1) (show w.heap.size + 1 ≠ w.heap.size by omega)).trans ((setCell_other (k := 0) (v := .bool m1) (show w.heap.size + 1 ≠ w.heap.size by omega)).trans s1))
      have D2 := hide ((setCell_other (k := 1) (v := .slice a1 x.length c1) (show w.heap.size + 1 ≠ w.heap.size + 2 by omega)).trans ((setCell_other (k := 0) (v := .bool m1) (show w.heap.size + 1 ≠ w.heap.size + 2 by omega)).trans D2'.out))
      have D1 := hide t1
      have E1 := hide (E1.out.trans (s2.trans (t2.mono (by omega))))
      clear s1 s2 t1 t2 D1' D2' d0 d1 d2 d3 f0 f1 f2 f3
      obtain ⟨W1, hW1⟩ : ∃ W1, (((w1.setCell ⟨w.heap.size, 0, none⟩ (.bool (!m1))).setCell ⟨w.heap.size, 1, none⟩ (.slice a2 y.length c2)).setCell ⟨w.heap.size + 1, 0, none⟩ (.bool m1)).setCell ⟨w.heap.size + 1, 1, none⟩ (.slice a1 x.length c1) = W1 := ⟨_, rfl⟩
      rw [hW1] at D0 D1 D2 E1 ⊢
      obtain ⟨d0, d1, d2, d3⟩ : W1.cell? ⟨w.heap.size, 0, none⟩ = some (.bool !m1) ∧ W1.cell? ⟨w.heap.size, 1, none⟩ = some (.slice a2 y.length c2) ∧ W1.cell? ⟨w.heap.size + 1, 0, none⟩ = some (.bool m1) ∧ W1.cell? ⟨w.heap.size + 1, 1, none⟩ = some (.slice a1 x.length c1) := ⟨cell_blk D0.out 0, cell_blk D0.out 1, cell_blk D1.out 0, cell_blk D1.out 1⟩
      have hsr := lt_blk D2.out
      clear hW1
      have HT := hide (fun W2 (h : Below w.heap.size w W2) => rminus_any (.slice a2 y.length c2) (.slice a1 x.length c1) y x w.heap.size W2 (HB.out.below h (Nat.le_refl _)) (HA.out.below h (Nat.le_refl _)) h.size HY.out.lt HX.out (by omega) HLE.out)
      have HB1 := hide (show Below W1.heap.size W1 W1.drew from (Below.refl _ _).drew)
      have HB2 := hide (show Below W1.heap.size W1 (W1.drew.alloc (bigO false (.slice none 0 0))) from (Below.refl _ _).drew.alloc (Nat.le_refl _) _)
      have HP2 := hide (show (W1.drew.alloc (bigO false (.slice none 0 0))).heap[W1.heap.size]? = some (bigO false (.slice none 0 0)) from heap_alloc_new W1.drew _)
      go_region_held3 (fun w' => w'.cell? ⟨w.heap.size, 0, none⟩ = some (.bool (!m1)) ∧ w'.cell? ⟨w.heap.size, 1, none⟩ = some (.slice a2 y.length c2) ∧ w'.cell? ⟨w.heap.size + 1, 1, none⟩ = some (.slice a1 x.length c1)) (first | exact ⟨d0, d1, d3⟩ | exact ⟨e0, e1, e3⟩ | exact ⟨(cell_set2 (by omega)).trans e0, (cell_set2 (by omega)).trans e1, (cell_set2 (by omega)).trans e3⟩ | exact ⟨(cell_alloc (by omega)).trans e0, (cell_alloc (by omega)).trans e1, (cell_alloc (by omega)).trans e3⟩ | go_keep)
        (first
          | (go_at_call 396
             refine (HT.out (W1.drew.alloc (bigO false (.slice none 0 0))) (E1.out.trans (HB2.out.mono E1.out.size))).mono ?_
             rintro e w2 ⟨l3, ⟨v3, rfl, hb1, o3⟩, n3, q3, k3'⟩
             obtain ⟨av3, cv3, hvf, _, _⟩ := o3.form
             subst hvf
             have E2 := hide (show Below W1.heap.size W1 w2 from HB2.out.trans (hb1.mono HB2.out.size))
             have T1 := hide (below_blk hb1 HP2.out (lt_blk HP2.out))
             have r0 := cell_blk T1.out 0
             have r1 := cell_blk T1.out 1
             have g0 := froz_blk T1.out 0
             have g1 := froz_blk T1.out 1
             have hsl := lt_blk T1.out
             obtain ⟨e0, e1, e3⟩ : w2.cell? ⟨w.heap.size, 0, none⟩ = some (.bool (!m1)) ∧ w2.cell? ⟨w.heap.size, 1, none⟩ = some (.slice a2 y.length c2) ∧ w2.cell? ⟨w.heap.size + 1, 1, none⟩ = some (.slice a1 x.length c1) := ⟨cell_blk (below_blk E2.out D0.out (by omega)) 0, cell_blk (below_blk E2.out D0.out (by omega)) 1, cell_blk (below_blk E2.out D1.out (by omega)) 1⟩
             have hs2 : W1.heap.size ≤ w2.heap.size := E2.out.size
             have O3 := hide o3; have N3 := hide n3; have Q3 := hide q3; have K3 := hide k3'
             clear hb1 o3 n3 q3 k3')
          | (go_at_call 396
             refine (HT.out W1.drew (E1.out.trans (HB1.out.mono E1.out.size))).mono ?_
             rintro e w2 ⟨l3, ⟨v3, rfl, hb1, o3⟩, n3, q3, k3'⟩
             obtain ⟨av3, cv3, hvf, _, _⟩ := o3.form
             subst hvf
             have E2 := hide (show Below W1.heap.size W1 w2 from HB1.out.trans (hb1.mono HB1.out.size))
             obtain ⟨e0, e1, e3⟩ : w2.cell? ⟨w.heap.size, 0, none⟩ = some (.bool (!m1)) ∧ w2.cell? ⟨w.heap.size, 1, none⟩ = some (.slice a2 y.length c2) ∧ w2.cell? ⟨w.heap.size + 1, 1, none⟩ = some (.slice a1 x.length c1) := ⟨cell_blk (below_blk E2.out D0.out (by omega)) 0, cell_blk (below_blk E2.out D0.out (by omega)) 1, cell_blk (below_blk E2.out D1.out (by omega)) 1⟩
             have hs2 : W1.heap.size ≤ w2.heap.size := E2.out.size
             have O3 := hide o3; have N3 := hide n3; have Q3 := hide q3; have K3 := hide k3'
             clear hb1 o3 n3 q3 k3')
          | fail)
      case' _ =>
        have TT := hide (heap_alloc_new w2 (bigO (!m1) (.slice av3 l3.length cv3)))
        have EE := hide (E2.out.alloc hs2 (bigO (!m1) (.slice av3 l3.length cv3)))
        have OO := hide ((O3.out.mono E1.out.size).keep ((Below.refl _ _).alloc (Nat.le_refl _) (bigO (!m1) (.slice av3 l3.length cv3))))
        obtain ⟨W, hW⟩ : ∃ W, w2.alloc (bigO (!m1) (.slice av3 l3.length cv3)) = W := ⟨_, rfl⟩
        rw [hW] at TT EE OO ⊢
        obtain ⟨nb, hnb⟩ : ∃ nb, w2.heap.size = nb := ⟨_, rfl⟩
        rw [hnb] at TT hs2 ⊢
        have hnb0 : W1.heap.size ≤ nb := hs2
      rotate_left
      case' _ =>
        obtain ⟨s1, s2⟩ := set2 T1.out (.bool (!m1)) (.slice av3 l3.length cv3)
        have TT := hide s1
        have EE := hide (E2.out.trans s2)
        have OO := hide (((O3.out.other (p := ⟨W1.heap.size, 0, none⟩) (by simp) (.bool (!m1))).other (p := ⟨W1.heap.size, 1, none⟩) (by simp) (.slice av3 l3.length cv3)).mono (show w.heap.size ≤ _ by have := E1.out.size; simp; omega))
        clear r0 r1 g0 g1 T1 s1 s2
        obtain ⟨W, hW⟩ : ∃ W, (w2.setCell ⟨W1.heap.size, 0, none⟩ (.bool (!m1))).setCell ⟨W1.heap.size, 1, none⟩ (.slice av3 l3.length cv3) = W := ⟨_, rfl⟩
        rw [hW] at TT EE OO ⊢
        obtain ⟨nb, hnb⟩ : ∃ nb, W1.heap.size = nb := ⟨_, rfl⟩
        rw [hnb] at TT ⊢
        have hnb0 : W1.heap.size ≤ nb := by omega
      all_goals
        have RR := hide (below_blk EE.out D2.out hsr)
        have r0 := cell_blk TT.out 0
        have r1 := cell_blk TT.out 1
        have g0 := froz_blk TT.out 0
        have hsl := lt_blk TT.out
        have s0 := cell_blk RR.out 0
        have s1 := cell_blk RR.out 1
        have z0 := froz_blk RR.out 0
        have z1 := froz_blk RR.out 1
        have hsr2 := lt_blk RR.out
        clear O3 E2 D0 D1 D2 d0 d1 d2 d3 e0 e1 e3 HB1 HB2 HP2 HT hW hnb
        have hne : ¬ w.heap.size + 2 = nb := by omega
        have hz0 : valS (!m1) (lv 1000000 l3) = valS m1 (lv 1000000 x) + valS (!m1) (lv 1000000 y) := by rw [Q3.out]; exact HZ.out
        have HZ2 := hide hz0
        clear hz0
        by_cases h0 : l3 = []
        · have hl0 : ((l3.length : Int) == 0) = true := by rw [h0]; rfl
          have HL0 := hide (show valS false (lv 1000000 l3) = valS ((!m1)) (lv 1000000 l3) by rw [h0]; cases (!m1) <;> rfl)
          clear h0
          go_wp2_with fail
          obtain ⟨y1, y2⟩ := set1 TT.out (.bool false)
          have RR2 := (setCell_other (w := W) (k := 0) (v := .bool false) (show nb ≠ w.heap.size + 2 by omega)).trans RR.out
          obtain ⟨y3, y4⟩ := set2 RR2 (.bool false) (.slice av3 l3.length cv3)
          refine exit_radd y3 rfl rfl ⟨false, _, l3, rfl, ?_, ?_, N3.out, HL0.out.trans HZ2.out, by have := K3.out; omega⟩
          · exact E1.out.trans ((EE.out.trans (y2.mono hnb0)).mono E1.out.size |>.trans (y4.mono (by omega)))
          · exact owns_stay OO.out (fun r hr => by
              have := own_ne_big OO.out TT.out r hr
              have := own_ne_big OO.out RR.out r hr
              rw [setCell_other (by omega), setCell_other (by omega), setCell_other (by omega)])
        · have hl0 : ((l3.length : Int) == 0) = false := by
            have : l3.length ≠ 0 := fun h => h0 (List.eq_nil_of_length_eq_zero h)
            simp only [beq_eq_false_iff_ne, ne_eq]
            omega
          clear h0
          go_wp2_with fail
          obtain ⟨y3, y4⟩ := set2 RR.out (.bool (!m1)) (.slice av3 l3.length cv3)
          refine exit_radd y3 rfl rfl ⟨_, _, l3, rfl, ?_, ?_, N3.out, HZ2.out, by have := K3.out; omega⟩
          · exact E1.out.trans (EE.out.mono E1.out.size |>.trans (y4.mono (by omega)))
          · exact owns_stay OO.out (fun r hr => by
              have := own_ne_big OO.out RR.out r hr
              rw [setCell_other (by omega), setCell_other (by omega)])
open Go.RowKit Go.KP Go.KI Go.Shelf
attribute [local go_sem] Oper.semAt_some

theorem itoa_size {m : Bool} {l : List Nat} (h : Lt 1000000 l) (hl : l.length ≤ 100000) : (strB (Lib.itoa (valS m (lv 1000000 l)))).size ≤ 700000 := by
  rw [strB_size]
  have h1 := lv_lt h
  have h2 : (Lib.decDigits (lv 1000000 l)).length ≤ 6 * l.length + 1 := (dec_len_le (by omega)).2 (Nat.lt_of_lt_of_le h1 (by
    rw [show (1000000 : Nat) = 10 ^ 6 by decide, ← Nat.pow_mul]
    exact Nat.pow_le_pow_right (by omega) (by omega)))
  have h3 : (valS m (lv 1000000 l)).natAbs = lv 1000000 l := by cases m <;> simp [valS]
  rcases itoa_cases (valS m (lv 1000000 l)) with ⟨_, h4⟩ | ⟨_, h4⟩
  · rw [h4, List.length_cons, h3]
    omega
  · rw [h4, h3]
    omega
theorem rresult_any (m : Bool) (v : Value) (l : List Nat) (B : Nat) (w : World) (h : LimbAt B w v l) (hB : B ≤ w.heap.size) (hn : Norm 1000000 l) (hl : l.length ≤ 100000) :
    Calls Tryz.prog 305 #[numV m v] w (Ret w (pairV (resS (valS m (lv 1000000 l))) (resE (valS m (lv 1000000 l))))) := by
  obtain ⟨a0, c0, hv⟩ := h.form
  subst hv
  have HW := hide (fun w2 (hb : Below w.heap.size w w2) => rwrite_any m _ l B w2 (h.below hb hB) (by have := hb.size; omega) hn hl)
  have hsz := itoa_size (m := m) hn.lt hl
  clear h hn
  obtain ⟨n, hnn⟩ : ∃ n, n = l.length := ⟨_, rfl⟩
  rw [← hnn] at hl HW ⊢
  clear hnn
  obtain ⟨z, hz⟩ : ∃ z, z = valS m (lv 1000000 l) := ⟨_, rfl⟩
  rw [← hz] at HW hsz ⊢
  clear hz
  obtain ⟨b0, bs0, bb0⟩ := heap1 w (.cells #[.bool m, .slice a0 n c0] 308)
  have BB := hide bb0
  have c0' := cell_blk b0 0
  have c1' := cell_blk b0 1
  clear b0 bs0 bb0
  have hck := chk_itoa z
  obtain ⟨t, ht⟩ : ∃ t, t = strB (Lib.itoa z) := ⟨_, rfl⟩
  have HC := hide (fun w => rcheck_any t (by rw [ht]; omega) w)
  rw [show t.data.toList = Lib.itoa z by rw [ht, strB_list], hck] at HC
  rw [← ht] at HW
  clear hck hsz
  by_cases hf : fits z
  · have HE := hide (show pairV (resS z) (resE z) = .tuple #[.string t, .int .i64 0] by
      unfold resS resE
      rw [if_pos hf, if_pos hf, ht])
    rw [if_pos hf] at HC
    clear hf ht
    go_enter Tryz.func305, Tryz.ntmps305
    go_wp2_with fail
    refine (HW.out _ BB.out).mono ?_
    rintro e w1 ⟨rfl, hb1⟩
    have HB1 := hide (BB.out.trans (hb1.mono (by have := BB.out.size; omega)))
    clear hb1 HW c0' c1' BB
    go_wp2_with fail
    refine (HC.out _).mono ?_
    rintro e w2 ⟨rfl, hb2⟩
    have HB2 := hide (HB1.out.trans (hb2.mono HB1.out.size))
    clear hb2 HC HB1
    go_wp2_with fail
    refine bodyPost_ret (results_tmp2 rfl _ _ _) rfl ?_
    rw [HE.out]
    exact ⟨rfl, HB2.out⟩
  · have HE := hide (show pairV (resS z) (resE z) = .tuple #[.string ⟨#[]⟩, .int .i64 4] by
      unfold resS resE
      rw [if_neg hf, if_neg hf]
      rfl)
    rw [if_neg hf] at HC
    clear hf ht
    go_enter Tryz.func305, Tryz.ntmps305
    go_wp2_with fail
    refine (HW.out _ BB.out).mono ?_
    rintro e w1 ⟨rfl, hb1⟩
    have HB1 := hide (BB.out.trans (hb1.mono (by have := BB.out.size; omega)))
    clear hb1 HW c0' c1' BB
    go_wp2_with fail
    refine (HC.out _).mono ?_
    rintro e w2 ⟨rfl, hb2⟩
    have HB2 := hide (HB1.out.trans (hb2.mono HB1.out.size))
    clear hb2 HC HB1
    go_wp2_with fail
    refine bodyPost_ret (results_tmp2 rfl _ _ _) rfl ?_
    rw [HE.out]
    exact ⟨rfl, HB2.out⟩
open Go.RowKit Go.KP Go.KI Go.Shelf
attribute [local go_sem] Oper.semAt_some

theorem pow17 : (10 : Nat) ^ 17 = 100000000000000000 := by decide
def TwoRes (s t : ByteArray) (w : World) (e : Ending) (w2 : World) : Prop := ∃ (x y : Int) (i : Bool), Ret w (.tuple #[.int .i64 x, .int .i64 y, .bool i]) e w2 ∧ (i = true → s.size ≤ 17 ∧ t.size ≤ 17)
theorem two_res (s t : ByteArray) (c1 : chkI s.data.toList = 0) (c2 : chkI t.data.toList = 0) (w : World) :
    Calls Tryz.prog 345 #[.string s, .string t] w (TwoRes s t w) := by
  by_cases h : s.size ≤ 17 ∧ t.size ≤ 17
  · exact (rtwo_yes s t c1 c2 h.1 h.2 w).mono (fun e w2 hr => ⟨_, _, true, hr, fun _ => h⟩)
  · exact (rtwo_no s t c1 h w).mono (fun e w2 ⟨x, y, hr⟩ => ⟨x, y, false, hr, fun h => by cases h⟩)
theorem rMul_any (s t : ByteArray) (B : Nat) (w : World) (hs : s.size ≤ 1000000) (ht : t.size ≤ 1000000) (hB : B ≤ w.heap.size) (hT : P10 B w) :
    Calls Tryz.prog 388 #[.string s, .string t] w (Ret w (pairV (op2S (· * ·) s.data.toList t.data.toList) (op2E (· * ·) s.data.toList t.data.toList))) := by
  have H1 := hide (rboth_any s t hs ht w)
  have HT := hide hT
  by_cases hE : bothI s.data.toList t.data.toList = 0
  · obtain ⟨c1, c2, e1, e2⟩ := op2_good (f := (· * ·)) hE
    rw [e1, e2]
    have C1 := hide c1; have C2 := hide c2
    rw [hE] at H1
    clear e1 e2 hE hT hs ht
    by_cases hsm : s.size ≤ 17 ∧ t.size ≤ 17 ∧ s.size + t.size ≤ 18
    · have H2 := hide (fun w => rtwo_yes s t c1 c2 (by omega) (by omega) w)
      have z1 := chk_pos c1
      have z2 := chk_pos c2
      rw [bytes_len] at z1 z2
      have v1 := short_val (n := s.size) c1 (by rw [bytes_len]; exact Nat.le_refl _) z1
      have v2 := short_val (n := t.size) c2 (by rw [bytes_len]; exact Nat.le_refl _) z2
      obtain ⟨x, hx⟩ : ∃ x, x = valI s.data.toList := ⟨_, rfl⟩
      obtain ⟨y, hy⟩ : ∃ y, y = valI t.data.toList := ⟨_, rfl⟩
      rw [← hx, ← hy] at H2 ⊢
      rw [← hx] at v1
      rw [← hy] at v2
      obtain ⟨z, hz⟩ : ∃ z, z = x * y := ⟨_, rfl⟩
      have hzz : z.natAbs < 1000000000000000000 := by
        rw [hz, Int.natAbs_mul, ← pow18]
        refine Nat.lt_of_lt_of_le (Nat.mul_lt_mul'' v1 v2) ?_
        rw [← Nat.pow_add]
        exact Nat.pow_le_pow_right (by omega) (by omega)
      have hw : IntKind.i64.wrap (x * y) = z := by rw [← hz]; exact IntWalk.i64_in _ (by omega)
      obtain ⟨e3, e4⟩ := resS_small (z := z) (Nat.lt_of_lt_of_le (m := 10 ^ 19) (by omega) (Nat.pow_le_pow_right (by omega) (by omega)))
      have hz1 : -9223372036854775808 ≤ z := by omega
      have hz2 : z ≤ 9223372036854775807 := by omega
      have hle : (s.size : Int) + (t.size : Int) ≤ 18 := by omega
      clear v1 v2 z1 z2 hzz
      show Calls _ _ _ _ (Ret w (pairV (resS (x * y)) (resE (x * y))))
      rw [← hz, e3, e4]
      clear c1 c2 hsm hx hy hz e3 e4
      go_enter Tryz.func388, Tryz.ntmps388
      go_wp2_with fail
      refine H1.out.mono ?_
      rintro e w1 ⟨rfl, hb1⟩
      have HB1 := hide hb1
      clear hb1 H1
      go_wp2_with fail
      refine (H2.out _).mono ?_
      rintro e w2 ⟨rfl, hb2⟩
      have HB2 := hide (HB1.out.trans (hb2.mono HB1.out.size))
      clear hb2 H2 HB1
      go_wp2_with fail
      refine (itoa_any z hz1 hz2 B w2 (HT.out.on HB2.out hB)).mono ?_
      rintro e w3 ⟨rfl, hb3⟩
      have HB3 := hide (HB2.out.trans (hb3.mono HB2.out.size))
      clear hb3 HB2
      go_wp2_with fail
      refine bodyPost_ret (results_tmp2 rfl _ _ _) rfl ?_
      exact ⟨rfl, HB3.out⟩
    · have H2 := hide (fun w => two_res s t c1 c2 w)
      have R1 := hide (fun w => rread_good s c1 w)
      have R2 := hide (fun w => rread_good t c2 w)
      clear c1 c2
      go_enter Tryz.func388, Tryz.ntmps388
      go_wp2_with fail
      refine H1.out.mono ?_
      rintro e w1 ⟨rfl, hb1⟩
      have HB1 := hide hb1
      clear hb1 H1
      go_wp2_with fail
      refine (H2.out _).mono ?_
      rintro e w2 ⟨x0, y0, I0, ⟨rfl, hb2⟩, hI0⟩
      have HB2 := hide (HB1.out.trans (hb2.mono HB1.out.size))
      clear hb2 H2 HB1
      have hcl : I0 = false ∨ (I0 = true ∧ s.size ≤ 17 ∧ t.size ≤ 17 ∧ ((s.size : Int) + (t.size : Int) ≤ 18) = False) := by
        cases hI : I0
        · exact .inl rfl
        · have := hI0 hI
          exact .inr ⟨rfl, this.1, this.2, eq_false (by omega)⟩
      clear hsm hI0
      rcases hcl with rfl | ⟨rfl, hs17, ht17, hgt⟩
      all_goals
        go_wp2_with fail
        refine (R1.out _).mono ?_
        rintro e w3 ⟨m1, v1, l1, rfl, hb3, o1, n1, q1, k1⟩
        obtain ⟨a1, g1, hvf, _, _⟩ := o1.form
        subst hvf
        have HB3 := hide (HB2.out.trans (hb3.mono HB2.out.size))
        have O1 := hide o1; have N1 := hide n1; have Q1 := hide q1
        clear hb3 HB2 R1 o1 n1 q1
        go_wp2_with fail
        refine (R2.out _).mono ?_
        rintro e w4 ⟨m2, v2, l2, rfl, hb4, o2, n2, q2, k2⟩
        obtain ⟨a2, g2, hvf, _, _⟩ := o2.form
        subst hvf
        have HB4 := hide (HB3.out.trans (hb4.mono HB3.out.size))
        have O1' := hide (O1.out.keep hb4)
        have O2 := hide o2; have N2 := hide n2; have Q2 := hide q2
        clear hb4 HB3 R2 o2 n2 q2 O1
        go_wp2_with fail
        refine (rmul_any m1 m2 a1 a2 g1 g2 l1 l2 w4 (.of_own O1'.out) (.of_own O2.out) N1.out.lt N2.out.lt (by omega) (by omega)).mono ?_
        rintro e w5 ⟨m3, v3, l3, rfl, hb5, o3, n3, q3, k3⟩
        obtain ⟨a3, g3, hvf, _, _⟩ := o3.form
        subst hvf
        have HB5 := hide (HB4.out.trans (hb5.mono HB4.out.size))
        have O3 := hide o3; have N3 := hide n3
        rw [Q1.out, Q2.out] at q3
        have Q3 := hide q3
        clear hb5 HB4 O1' O2 N1 N2 Q1 Q2 o3 n3 q3
        go_wp2_with fail
        refine (rresult_any m3 _ l3 w5.heap.size w5 (.of_own O3.out) (Nat.le_refl _) N3.out (by omega)).mono ?_
        rintro e w6 ⟨rfl, hb6⟩
        rw [Q3.out]
        have HB6 := hide (HB5.out.trans (hb6.mono HB5.out.size))
        clear hb6 HB5
        go_wp2_with fail
        refine bodyPost_ret (results_tmp2 rfl _ _ _) rfl ?_
        exact ⟨rfl, HB6.out⟩
  · obtain ⟨e1, e2⟩ := op2_bad (f := (· * ·)) hE
    rw [e1, e2]
    have hne : (bothI s.data.toList t.data.toList != 0) = true := by simpa using hE
    obtain ⟨E, hEE⟩ : ∃ E, E = bothI s.data.toList t.data.toList := ⟨_, rfl⟩
    rw [← hEE] at H1 hne ⊢
    clear e1 e2 hE hEE hT
    go_enter Tryz.func388, Tryz.ntmps388
    go_wp2_with fail
    refine H1.out.mono ?_
    rintro e w1 ⟨rfl, hb1⟩
    have HB1 := hide hb1
    clear hb1 H1
    go_wp2_with fail
    refine bodyPost_ret (results_tmp2 rfl _ _ _) rfl ?_
    exact ⟨rfl, HB1.out⟩
end Go.Proofs.YtpmnhipffkhcpaaGreatDoor
