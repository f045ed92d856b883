/-
  Integers: divideShort walked.
-/
import Derived.Test.YthkioajalhglfaaGreatDoorQa
import Derived.Test.YthkioajalhglfaaGreatDoorPe
import Derived.Test.YthkioajalhglfaaGreatDoorHeld
import Derived.BigRegionIn
import Derived.Deep.RegionHeld3
namespace Go.Proofs.YthkioajalhglfaaGreatDoor
open Go.RowKit Go.KP Go.KI Go.Shelf
attribute [local go_sem] Oper.semAt_some

/-- What a division returns: quotient and remainder, with their limbs. -/
def DivRes (x y : List Nat) (w : World) (e : Ending) (w' : World) : Prop := ∃ (vq vr : Value) (q r : List Nat), e = .returned (.tuple #[vq, vr]) ∧ Below w.heap.size w w' ∧ LimbAt w'.heap.size w' vq q ∧ LimbAt w'.heap.size w' vr r ∧
  Norm 1000000000 q ∧ Norm 1000000000 r ∧ lv 1000000000 q = lv 1000000000 x / lv 1000000000 y ∧ lv 1000000000 r = lv 1000000000 x % lv 1000000000 y ∧ q.length ≤ x.length ∧ r.length ≤ x.length
/-- The same, both rows of the call's own. -/
def ShortRes (x y : List Nat) (w : World) (e : Ending) (w' : World) : Prop := ∃ (vq vr : Value) (q r : List Nat), e = .returned (.tuple #[vq, vr]) ∧ Below w.heap.size w w' ∧ OwnL w.heap.size w' vq q ∧ OwnL w.heap.size w' vr r ∧
  Norm 1000000000 q ∧ Norm 1000000000 r ∧ lv 1000000000 q = lv 1000000000 x / lv 1000000000 y ∧ lv 1000000000 r = lv 1000000000 x % lv 1000000000 y ∧ q.length ≤ x.length ∧ r.length ≤ x.length
theorem OwnL.other {base : Nat} {w : World} {v : Value} {l : List Nat} (h : OwnL base w v l) {p : Addr} (hp : p.block < base) (u : Value) : OwnL base (w.setCell p u) v l :=
  owns_stay h (fun r hr => Below.heap_setCell _ _ _ _ (by have := owns_ge h (Nat.le_refl _) r hr; omega))
/-- The short division, k limbs over. -/
structure ShortAt (x : List Nat) (d k : Nat) (Q : List Nat) (R : Nat) : Prop where
  len : Q.length = x.length
  lt : Lt 1000000000 Q
  rest : R < d
  val : lv 1000000000 (x.drop (x.length - k)) = lv 1000000000 (Q.drop (x.length - k)) * d + R
theorem ShortAt.start (x : List Nat) {d : Nat} (hd : 1 ≤ d) : ShortAt x d 0 (zeros x.length) 0 :=
  ⟨zeros_len _, zeros_lt _ _ (by omega), hd, by rw [Nat.sub_zero, List.drop_length, List.drop_of_length_le (by rw [zeros_len]; exact Nat.le_refl _)]; simp [lv]⟩
theorem ShortAt.step {x : List Nat} {d k R : Nat} {Q : List Nat} (h : ShortAt x d k Q R) (hx : Lt 1000000000 x) (hd2 : d < 1000000000) (hk : k < x.length) {i : Nat} (hi : i = x.length - 1 - k) :
    lat x i + R * 1000000000 < d * 1000000000 ∧ (lat x i + R * 1000000000) / d < 1000000000 ∧ ShortAt x d (k + 1) (Q.set i ((lat x i + R * 1000000000) / d)) ((lat x i + R * 1000000000) % d) := by
  have hr := h.rest
  have hxi := lat_lt (by omega) hx i
  have h1 : (R + 1) * 1000000000 ≤ d * 1000000000 := Nat.mul_le_mul_right _ hr
  have h2 : lat x i + R * 1000000000 < d * 1000000000 := by omega
  have hdp : 0 < d := by omega
  have h3 : (lat x i + R * 1000000000) / d < 1000000000 := by
    rw [Nat.div_lt_iff_lt_mul hdp]
    omega
  refine ⟨h2, h3, by rw [List.length_set]; exact h.len, lt_set h.lt h3, Nat.mod_lt _ hdp, ?_⟩
  have e1 : x.length - (k + 1) = i := by omega
  have e2 : x.length - k = i + 1 := by omega
  have hv := h.val
  rw [e2] at hv
  rw [e1]
  have hl : i < x.length := by omega
  have hlq : i < Q.length := by rw [h.len]; exact hl
  have f1 : lv 1000000000 (x.drop i) = lat x i + 1000000000 * lv 1000000000 (x.drop (i + 1)) := by
    rw [List.drop_eq_getElem_cons hl, lat_at hl]
    rfl
  have f2 : (Q.set i ((lat x i + R * 1000000000) / d)).drop i = ((lat x i + R * 1000000000) / d) :: Q.drop (i + 1) := by
    rw [List.drop_eq_getElem_cons (by rw [List.length_set]; exact hlq), List.getElem_set_self, List.drop_set_of_lt (by omega)]
  rw [f1, f2, hv]
  show lat x i + 1000000000 * (lv 1000000000 (Q.drop (i + 1)) * d + R) = ((lat x i + R * 1000000000) / d + 1000000000 * lv 1000000000 (Q.drop (i + 1))) * d + (lat x i + R * 1000000000) % d
  have h4 := Nat.div_add_mod (lat x i + R * 1000000000) d
  rw [Nat.add_mul, Nat.mul_comm (_ / d) d]
  have e5 : 1000000000 * lv 1000000000 (Q.drop (i + 1)) * d = 1000000000 * (lv 1000000000 (Q.drop (i + 1)) * d) := by rw [Nat.mul_assoc]
  rw [e5]
  omega
theorem ShortAt.done {x : List Nat} {d R : Nat} {Q : List Nat} (h : ShortAt x d x.length Q R) : lv 1000000000 Q = lv 1000000000 x / d ∧ R = lv 1000000000 x % d := by
  have hv := h.val
  rw [Nat.sub_self, List.drop_zero, List.drop_zero] at hv
  have hr := h.rest
  rw [hv]
  constructor
  · rw [Nat.add_comm, Nat.add_mul_div_right _ _ (by omega), Nat.div_eq_of_lt hr, Nat.zero_add]
  · rw [Nat.add_comm, Nat.add_mul_mod_self_right, Nat.mod_eq_of_lt hr]
theorem short_nums {X R d : Nat} (hX : X < 1000000000) (hR : R < d) (hd : d < 1000000000) :
    ∃ T q r : Nat, T = X + R * 1000000000 ∧ q = T / d ∧ r = T % d ∧ IntKind.i64.wrap ((R : Int) * 1000000000) = (R : Int) * 1000000000 ∧ IntKind.i64.wrap ((X : Int) + (R : Int) * 1000000000) = (T : Int) ∧ (T : Int) / (d : Int) = (q : Int) ∧ (T : Int) % (d : Int) = (r : Int) ∧ (T : Int) < 1000000000000000000 ∧ ((d : Int) == 0) = false ∧ r < d := by
  have h1 : X + R * 1000000000 < 1000000000000000000 := by omega
  have h2 : (d : Int) ≠ 0 := by omega
  obtain ⟨T, hT⟩ : ∃ T, T = X + R * 1000000000 := ⟨_, rfl⟩
  have h3 : (X : Int) + (R : Int) * 1000000000 = (T : Int) := by omega
  exact ⟨T, T / d, T % d, hT, rfl, rfl, IntWalk.i64_in _ (by omega), by rw [h3]; exact IntWalk.i64_in _ (by omega), Int.natCast_ediv .., Int.natCast_emod .., by omega, by simpa using h2, Nat.mod_lt _ (by omega)⟩
theorem LimbAt.of_own' {base : Nat} {w : World} {v : Value} {l : List Nat} (h : OwnL base w v l) : LimbAt w.heap.size w v l := SlAt.of_owns h
/-- The blocks of divideShort. -/
structure ShSt (w : World) (d : Nat) (a0 : Option Addr) (n c0 : Nat) (Q : List Nat) (R : Nat) (W : World) : Prop where
  dv : W.heap[w.heap.size]? = some (.cells #[.int .i64 d] 3 (0, 0))
  qv : W.heap[w.heap.size + 1]? = some (.cells #[.slice (some ⟨w.heap.size + 2, 0, none⟩) n n] 46 (0, 0))
  row : W.heap[w.heap.size + 2]? = some (rowO Q)
  rv : W.heap[w.heap.size + 3]? = some (.cells #[.int .i64 R] 3 (0, 0))
  sv : W.heap[w.heap.size + 4]? = some (.cells #[.slice a0 n c0] 46 (0, 0))
  below : Below w.heap.size w W
theorem short_end {x Q : List Nat} {d n R g g2 : Nat} {w W : World} (h : ShortAt x d n Q R) (hQ : Q.length = n) (hd : d < 1000000000) (h1 : W.heap[g]? = some (rowO Q)) (h2 : W.heap[g2]? = some (rowO [R])) (hb : Below w.heap.size w W) (hn : n = x.length) (hl : n ≤ 200000) (hg1 : w.heap.size ≤ g) (hg2 : w.heap.size ≤ g2) :
    ShortRes x [d] w (.returned (.tuple #[.slice (some ⟨g, 0, none⟩) (trimTo Q n) n, .slice (some ⟨g2, 0, none⟩) (trimTo [R] 1) 1])) W := by
  subst hn
  obtain ⟨e1, e2⟩ := h.done
  have hR : Lt 1000000000 [R] := fun z hz => by
    simp only [List.mem_singleton] at hz
    have := h.rest
    omega
  have o1 := (row_owns (base := w.heap.size) h1 hg1 (by unfold maxLen; omega)).cut (k := trimTo Q Q.length) (trimTo_le _ _)
  have o2 := (row_owns (base := w.heap.size) h2 hg2 (by unfold maxLen; simp)).cut (k := trimTo [R] 1) (trimTo_le _ _)
  rw [hQ] at o1
  have hv : lv 1000000000 [d] = d := by simp [lv]
  have hr1 : lv 1000000000 [R] = R := by simp [lv]
  refine ⟨_, _, trimL Q, trimL [R], rfl, hb, ?_, ?_, trimL_norm h.lt, trimL_norm hR, by rw [trimL_lv, e1, hv], by rw [trimL_lv, hr1, hv, e2], ?_, ?_⟩
  · unfold trimL
    rw [hQ]
    exact o1
  · exact o2
  · rw [trimL_len]
    have := trimTo_le Q Q.length
    omega
  · rw [trimL_len]
    have h3 := trimTo_le [R] 1
    show trimTo [R] 1 ≤ x.length
    rcases Nat.eq_zero_or_pos x.length with h0 | h0
    · have hx : x = [] := List.eq_nil_of_length_eq_zero h0
      rw [hx] at e2
      have hR0 : R = 0 := by rw [e2]; simp [lv]
      rw [hR0]
      have : trimTo [0] 1 = 0 := rfl
      omega
    · omega
/-- What the operations of a round read. -/
def ShC (h d n : Nat) (w' : World) : Prop := w'.cell? ⟨h, 0, none⟩ = some (.int .i64 d) ∧ w'.cell? ⟨h + 1, 0, none⟩ = some (.slice (some ⟨h + 1 + 1, 0, none⟩) n n)
set_option maxRecDepth 100000 in
set_option maxHeartbeats 4000000 in
theorem divideShort_any (va : Value) (x : List Nat) (d : Nat) (B : Nat) (w : World) (ha : LimbAt B w va x) (hB : B ≤ w.heap.size) (hx : Lt 1000000000 x) (lx : x.length ≤ 200000) (hd : 1 ≤ d) (hd2 : d < 1000000000) :
    Calls Tryz.prog 73 #[va, .int .i64 d] w (ShortRes x [d] w) := by
  obtain ⟨a0, c0, hva⟩ := ha.form
  subst hva
  have HA := hide ha; have HX := hide hx
  clear ha hx
  obtain ⟨n, hn⟩ : ∃ n, n = x.length := ⟨_, rfl⟩
  have HN := hide hn
  have hmk := make_ints n (by omega)
  rw [← hn] at lx ⊢
  clear hn
  obtain ⟨b0, b1, b2, hs0, hB0⟩ := heap3 w (.cells #[.int .i64 d] 3) (.cells #[.slice none 0 0] 46) (rowO (zeros n))
  refine (callsIn_wide (n := 0)).1 ?_
  refine callsIn_of_wp_marks Tryz.func73 rfl trivial ?_ rfl
  simp only [Tryz.ntmps73, List.size_toArray, List.length_cons, List.length_nil, Nat.reduceAdd, Nat.reduceSub, Array.replicate_succ, Array.replicate_zero, List.push_toArray, List.append_toArray, List.nil_append, List.cons_append]
  gi_wp2_with fail
  clear hmk b0 b1 b2 hs0 hB0
  obtain ⟨r0, rs0, rb0⟩ := heap1 w (.cells #[.int .i64 d] 3)
  obtain ⟨a1, as1, ab1⟩ := heap1 (w.alloc (.cells #[.int .i64 d] 3)) (.cells #[.slice (some ⟨w.heap.size + 1 + 1, 0, none⟩) n n] 46)
  obtain ⟨a2, as2, ab2⟩ := heap1 ((w.alloc (.cells #[.int .i64 d] 3)).alloc (.cells #[.slice (some ⟨w.heap.size + 1 + 1, 0, none⟩) n n] 46)) (rowO (zeros n))
  obtain ⟨a3, as3, ab3⟩ := heap1 (((w.alloc (.cells #[.int .i64 d] 3)).alloc (.cells #[.slice (some ⟨w.heap.size + 1 + 1, 0, none⟩) n n] 46)).alloc (rowO (zeros n))) (.cells #[.int .i64 0] 3)
  obtain ⟨a4, as4, ab4⟩ := heap1 ((((w.alloc (.cells #[.int .i64 d] 3)).alloc (.cells #[.slice (some ⟨w.heap.size + 1 + 1, 0, none⟩) n n] 46)).alloc (rowO (zeros n))).alloc (.cells #[.int .i64 0] 3)) (.cells #[.slice a0 n c0] 46)
  rw [rs0] at a1 as1 ab1
  rw [as1] at a2 as2 ab2
  rw [as2] at a3 as3 ab3
  rw [as3] at a4 as4 ab4
  have e0 := below_blk ab4 (below_blk ab3 (below_blk ab2 (below_blk ab1 r0 (by omega)) (by omega)) (by omega)) (by omega)
  have e1 := below_blk ab4 (below_blk ab3 (below_blk ab2 a1 (by omega)) (by omega)) (by omega)
  have e2 := below_blk ab4 (below_blk ab3 a2 (by omega)) (by omega)
  have e3 := below_blk ab4 a3 (by omega)
  have hbw := rb0.trans ((ab1.trans ((ab2.trans ((ab3.trans (ab4.mono (by omega))).mono (by omega))).mono (by omega))).mono (by omega))
  refine ⟨trivial, rfl, (callsIn_wide.2 (backward_any a0 n c0 _)).mono ?_⟩
  rintro e w1 ⟨rfl, hw1⟩
  rw [hw1] at e0 e1 e2 e3 a4 as4 hbw
  have HS := hide (show ShSt w d a0 n c0 (zeros n) 0 w1 from ⟨e0, e1, e2, e3, a4, hbw⟩)
  have hs1 : w.heap.size + 5 = w1.heap.size := by omega
  clear r0 rs0 rb0 a1 as1 ab1 a2 as2 ab2 a3 as3 ab3 a4 as4 ab4 e0 e1 e2 e3 hbw
  gi_wp2_with fail
  clear hw1
  refine wp_iter_on (gf := 102) (lb := #[.pointer (some ⟨w.heap.size + 1 + 1 + 1 + 1, 0, none⟩)]) rfl (enters_of Tryz.func102 (by kernel_rfl) rfl) (backSeq_any (w.heap.size + 4) n c0 a0 (fun k => ((lat x (n - 1 - k) : Nat) : Int)) (by omega)) (fun _ => rfl)
    (fun k S W => S = (fun _ => False) ∧ ∃ Q R, ShortAt x d k Q R ∧ ShSt w d a0 n c0 Q R W)
    (fun _ _ _ => False) ?hI (fun _ _ _ _ h _ => h) ?h0 ?hke
    (fun k S a1' W => a1' = { tmps := #[.slice a0 n c0, .int .i64 d, undef, .pointer (some ⟨w.heap.size, 0, none⟩), .pointer (some ⟨w.heap.size + 1, 0, none⟩), .slice none 0 0, .pointer (some ⟨w.heap.size + 1 + 1 + 1, 0, none⟩), .int .i64 ((n : Int) - 1 - k), .int .i64 ((lat x (n - 1 - k) : Nat) : Int), .slice a0 n c0, .int .i64 n, .slice (some ⟨w.heap.size + 1 + 1, 0, none⟩) n n, .slice a0 n c0, .func (.func 102) #[] #[.pointer (some ⟨w.heap.size + 1 + 1 + 1 + 1, 0, none⟩)], .int .i64 ((n : Int) - 1 - k), .int .i64 ((lat x (n - 1 - k) : Nat) : Int), undef, undef, undef, undef, undef, undef, undef, undef, undef, undef, undef, undef, undef, undef, undef, undef, undef, undef], defers := [] })
    ?hAx ?hassign ?hS ?hbody ?hdone ?hstop
  case hI =>
    rintro k S W W2 ⟨rfl, Q, R, h1, ⟨g0, g1, g2, g3, g4, gb⟩⟩ hq
    exact ⟨rfl, Q, R, h1, hq.at_ g0 (.inl (by omega)), hq.at_ g1 (.inl (by omega)), hq.at_ g2 (.inl (by omega)), hq.at_ g3 (.inl (by omega)), hq.at_ g4 (.inl (by omega)), Quiet.below gb hq (by omega) gb.size⟩
  case h0 => exact ⟨rfl, zeros n, 0, by have := ShortAt.start x hd; rw [← HN.out] at this; exact this, HS.out⟩
  case hke =>
    rintro k S W hk ⟨rfl, Q, R, h1, ⟨g0, g1, g2, g3, g4, gb⟩⟩
    refine ⟨g4, fun hlt => ?_⟩
    rcases (HA.out.below gb hB).cases with ⟨_, _, _, hnil⟩ | ⟨g, o, cap, hv, hg, hc⟩
    · rw [HN.out, hnil] at hlt
      simp at hlt
    · injection hv with hv1 hv2 hv3
      exact ⟨g, o, hv1, hc _ (by have := HN.out; omega)⟩
  case hAx =>
    rintro k S a1' W l r r2 h _
    exact h
  case hassign =>
    intro l k S W K hsz hSlt hK
    gi_wp2
    exact hK _ _ (Quiet.refl _ _ _) (Upd.refl _ _ _) rfl
  case hS =>
    rintro k S W ⟨rfl, _⟩ b hb
    exact hb.elim
  case hstop =>
    intro D c S W _ h
    exact h.elim
  case hbody =>
    rintro l k S a1' W hk ⟨rfl, Q, R, h1, ⟨g0, g1, g2, g3, g4, gb⟩⟩ rfl hsz
    obtain ⟨m, hm⟩ : ∃ m : Nat, (n : Int) - 1 - (k : Int) = m := ⟨n - 1 - k, by omega⟩
    have hm2 : n - 1 - k = m := by omega
    have hst := h1.step HX.out hd2 (by have := HN.out; omega) (show m = x.length - 1 - k by have := HN.out; omega)
    obtain ⟨t1, t2, t3⟩ := hst
    have hxm := lat_lt (by omega) HX.out m
    rw [hm, hm2]
    obtain ⟨X, hX⟩ : ∃ X, X = lat x m := ⟨_, rfl⟩
    rw [← hX] at hxm t1 t2 t3 ⊢
    obtain ⟨T, q, r, hT, hq, hr, hw1, hwt, hqi, hri, hTl, hd0, hrl⟩ := short_nums hxm h1.rest hd2
    rw [← hT] at t1 t2 t3
    rw [← hq, ← hr] at t3
    rw [← hq] at t2
    have hml : m < n := by omega
    have hmq : m < Q.length := by rw [h1.len, ← HN.out]; exact hml
    have c1 := cell_blk g0 0
    have c2 := cell_blk g1 0
    have c3 := row_cell g2 hmq
    have f3 := row_froz g2 m
    have c4 := cell_blk g3 0
    have f4 := froz_blk g3 0
    have hmi : (m : Int) < (n : Int) := by omega
    have T3 := hide t3; have G0 := hide g0; have G1 := hide g1; have G2 := hide g2; have G3 := hide g3; have G4 := hide g4; have GB := hide gb
    have HQI := hide hqi; have HRI := hide hri
    have hl3 := lt_blk g3
    clear hm hm2 t3 g0 g1 g2 g3 g4 gb h1 hX hT hq hr t1 HS
    gi_wp2_with fail
    have C1 := hide c1; have C2 := hide c2
    have k1 : ∀ y : Of (ShC w.heap.size d n), y.w.cell? ⟨w.heap.size, 0, none⟩ = some (.int .i64 d) := fun y => y.h.1
    have k2 : ∀ y : Of (ShC w.heap.size d n), y.w.cell? ⟨w.heap.size + 1, 0, none⟩ = some (.slice (some ⟨w.heap.size + 1 + 1, 0, none⟩) n n) := fun y => y.h.2
    have kn : Nonempty (Of (ShC w.heap.size d n)) := ⟨⟨_, C1.out, C2.out⟩⟩
    refine round_two (S := Cls (ShC w.heap.size d n)) 9 _ _ (by kernel_rfl) rfl rfl rfl (by kernel_rfl) (by kernel_rfl) (by kernel_rfl) (by kernel_rfl) (by kernel_rfl) (by kernel_rfl) (by kernel_rfl) (Cls.mk ⟨C1.out, C2.out⟩) ?_
    simp only [List.take_succ_cons, List.take_zero]
    repeat (go_big_quiet_step (fail))
    refine wpQuiet_nil ?_
    go_wp2_with fail
    obtain ⟨Wy, hWy⟩ : ∃ Wy, Wy = (W.setCell ⟨w.heap.size + 1 + 1, m, none⟩ (.int .i64 q)).drew := ⟨_, rfl⟩
    rw [← hWy]
    have Y0 := hide (show Wy.heap[w.heap.size]? = some (.cells #[.int .i64 d] 3 (0, 0)) by rw [hWy]; exact (setCell_other (by omega)).trans G0.out)
    have Y1 := hide (show Wy.heap[w.heap.size + 1]? = some (.cells #[.slice (some ⟨w.heap.size + 1 + 1, 0, none⟩) n n] 46 (0, 0)) by rw [hWy]; exact (setCell_other (by omega)).trans G1.out)
    have Y2 := hide (show Wy.heap[w.heap.size + 1 + 1]? = some (rowO (Q.set m q)) by rw [hWy]; exact row_set G2.out m q)
    have Y3 := hide (show Wy.heap[w.heap.size + 1 + 1 + 1]? = some (.cells #[.int .i64 R] 3 (0, 0)) by rw [hWy]; exact (setCell_other (by omega)).trans G3.out)
    have Y4 := hide (show Wy.heap[w.heap.size + 1 + 1 + 1 + 1]? = some (.cells #[.slice a0 n c0] 46 (0, 0)) by rw [hWy]; exact (setCell_other (by omega)).trans G4.out)
    have YB := hide (show Below w.heap.size w Wy by rw [hWy]; exact (GB.out.setCell (p := ⟨w.heap.size + 1 + 1, m, none⟩) (by simp; omega) _).drew)
    have YU := hide (show Upd w1.heap.size (fun _ => False) (fun _ => False) W Wy by rw [hWy]; exact ((Upd.refl _ _ W).setBox (p := ⟨w.heap.size + 1 + 1, m, none⟩) (by simp; omega) _).drew)
    refine ⟨Cls.mk ⟨cell_blk Y0.out 0, cell_blk Y1.out 0⟩, ?_⟩
    clear hWy c1 c2 c3 f3 c4 f4 k1 k2 kn hw1 hwt hqi hri hTl hd0 t2 hxm
    have c4 := cell_blk Y3.out 0
    have f4 := froz_blk Y3.out 0
    have l4 := lt_blk Y3.out
    go_wp2_with fail
    refine ⟨Cls.mk ⟨cell_blk ((setCell_other (by omega)).trans Y0.out) 0, cell_blk ((setCell_other (by omega)).trans Y1.out) 0⟩, fun _ => False, YU.out.setBox (by simp; omega) _, rfl, Q.set m q, r, T3.out, (setCell_other (by omega)).trans Y0.out, (setCell_other (by omega)).trans Y1.out, (setCell_other (by omega)).trans Y2.out, ?_, (setCell_other (by omega)).trans Y4.out, YB.out.setCell (p := ⟨w.heap.size + 1 + 1 + 1, 0, none⟩) (by simp; omega) _⟩
    exact Boxed.set (.int .i64 (r : Int)) Y3.out
  case hdone =>
    rintro D S W hD ⟨rfl, Q, R, h1, ⟨g0, g1, g2, g3, g4, gb⟩⟩ hK
    have hQn : Q.length = n := h1.len.trans HN.out.symm
    have HTq := hide (fun (w' : World) (h : w'.heap[w.heap.size + 1 + 1]? = some (rowO Q)) => trim_any (some ⟨w.heap.size + 1 + 1, 0, none⟩) n Q w'.heap.size w' (by
      have := row_limbs h (by unfold maxLen; omega)
      rw [hQn] at this ⊢
      exact this) (by omega) (by omega))
    rw [hQn] at HTq
    have HTr := hide (fun (w' : World) (h : w'.heap[W.heap.size]? = some (rowO [R])) => show Calls Tryz.prog 68 #[.slice (some ⟨W.heap.size, 0, none⟩) 1 1] w' (fun e w'' => e = .returned (.slice (some ⟨W.heap.size, 0, none⟩) (trimTo [R] 1) 1) ∧ w' = w'') from trim_any (some ⟨W.heap.size, 0, none⟩) 1 [R] w'.heap.size w' (row_limbs h (by unfold maxLen; simp)) (by simp) (by simp))
    have c2 := cell_blk g1 0
    have f2 := froz_blk g1 0
    have c4 := cell_blk g3 0
    have hl1 := lt_blk g1
    have hl3 := lt_blk g3
    have G0 := hide g0; have G1 := hide g1; have G2 := hide g2; have G3 := hide g3; have GB := hide gb; have HK := hide hK; have H1 := hide h1
    clear g0 g1 g2 g3 g4 gb hK h1 HS
    have HTs := hide (fun m : Nat => (HTq.out (W.drewN m) G2.out).mono (fun _ _ h => And.intro h.1 h.2.symm))
    gi_wp2_with fail
    refine region_calm ?_
    have C2 := hide c2; have C4 := hide c4
    have D2 := hide (show W.drew.heap[w.heap.size + 1 + 1]? = some (rowO Q) from G2.out)
    have A2 := hide (fun o => show (W.alloc o).drew.heap[w.heap.size + 1 + 1]? = some (rowO Q) from (Below.heap_alloc _ _ _ (lt_blk G2.out)).trans G2.out)
    have TQ1 := hide (HTq.out W.drew D2.out)
    have TQ2 := hide (fun o => HTq.out (W.alloc o).drew (A2.out o))
    have TR := hide (HTr.out (W.alloc (.cells #[.int .i64 R] 3)).drew (World.alloc_heap_new _ _))
    have CD := hide (show W.drew.cell? ⟨w.heap.size + 1 + 1 + 1, 0, none⟩ = some (.int .i64 R) from C4.out)
    have CA := hide (fun o => show (W.alloc o).drew.cell? ⟨w.heap.size + 1 + 1 + 1, 0, none⟩ = some (.int .i64 R) from cell_blk (w := W.alloc o) ((Below.heap_alloc _ _ _ hl3).trans G3.out) 0)
    have CS := hide (fun o u => show ((W.alloc o).setCell ⟨w.heap.size + 1, 0, none⟩ u).drew.cell? ⟨w.heap.size + 1 + 1 + 1, 0, none⟩ = some (.int .i64 R) from cell_blk (w := (W.alloc o).setCell ⟨w.heap.size + 1, 0, none⟩ u) ((setCell_other (by omega)).trans ((Below.heap_alloc _ _ _ hl3).trans G3.out)) 0)
    clear HTq HTr HTs C2 C4
    go_region_with
      (first
        | (go_at_call 68
           with_reducible refine TQ1.out.mono ?_
           rintro e w2 ⟨rfl, rfl⟩)
        | (go_at_call 68
           with_reducible refine (TQ2.out _).mono ?_
           rintro e w2 ⟨rfl, rfl⟩)
        | (go_at_call 68
           with_reducible refine TR.out.mono ?_
           rintro e w2 ⟨rfl, rfl⟩)
        | fail)
    all_goals
      refine calm_normal ?_
      gi_wp2_with fail
      obtain ⟨Wf, hWf⟩ : ∃ Wf, Wf = ((W.setCell ⟨w.heap.size + 1, 0, none⟩ (.slice (some ⟨w.heap.size + 1 + 1, 0, none⟩) (trimTo Q n) n)).alloc (.cells #[.int .i64 R] 3)).drew := ⟨_, rfl⟩
      rw [← hWf]
      have hz : (W.setCell ⟨w.heap.size + 1, 0, none⟩ (.slice (some ⟨w.heap.size + 1 + 1, 0, none⟩) (trimTo Q n) n)).heap.size = W.heap.size := setCell_size _ _ _
      have E1 : Wf.heap[w.heap.size + 1]? = some (.cells #[.slice (some ⟨w.heap.size + 1 + 1, 0, none⟩) (trimTo Q n) n] 46 (0, 0)) := by
        rw [hWf]; exact (Below.heap_alloc _ _ _ (by rw [hz]; omega)).trans (Boxed.set _ G1.out)
      have E2 : Wf.heap[w.heap.size + 1 + 1]? = some (rowO Q) := by
        rw [hWf]; exact (Below.heap_alloc _ _ _ (by rw [hz]; exact lt_blk G2.out)).trans ((setCell_other (by omega)).trans G2.out)
      have ED : Wf.heap[D]? = some (.deferred (some [])) := by
        rw [hWf]; exact (Below.heap_alloc _ _ _ (by rw [hz]; exact lt_blk HK.out)).trans ((setCell_other (by omega)).trans HK.out)
      have ER : Wf.heap[W.heap.size]? = some (rowO [R]) := by
        rw [hWf, ← hz]; exact World.alloc_heap_new _ _
      have EB : Below w.heap.size w Wf := by
        rw [hWf]; exact ((GB.out.setCell (p := ⟨w.heap.size + 1, 0, none⟩) (by simp) _).alloc (by rw [hz]; omega) _).drew
      have hDW : D < W.heap.size := lt_blk HK.out
      clear hWf
      refine ⟨by simp, .inl ⟨_, _, rfl, run_takeDeferred ED, ?_⟩⟩
      have F1 : (Wf.putObj D (.deferred none)).heap[w.heap.size + 1]? = some (.cells #[.slice (some ⟨w.heap.size + 1 + 1, 0, none⟩) (trimTo Q n) n] 46 (0, 0)) := (World.putObj_heap_other (by omega)).trans E1
      have hc := cell_blk F1 0
      refine ⟨.tuple #[.slice (some ⟨w.heap.size + 1 + 1, 0, none⟩) (trimTo Q n) n, .slice (some ⟨W.heap.size, 0, none⟩) (trimTo [R] 1) 1], by simp [results, go_sem, hc, Act.put], ?_⟩
      exact short_end H1.out hQn hd2 ((World.putObj_heap_other (by omega)).trans E2) ((World.putObj_heap_other (by omega)).trans ER) (EB.trans (belowK_b (w := w) (Nat.le_refl _) _ D _ _ (by omega) ED rfl rfl)) HN.out (by omega) (by omega) (by have := GB.out.size; omega)
end Go.Proofs.YthkioajalhglfaaGreatDoor
