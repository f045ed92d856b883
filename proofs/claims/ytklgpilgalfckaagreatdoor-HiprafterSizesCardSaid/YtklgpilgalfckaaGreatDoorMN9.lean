/-
  Texts laid together.
-/
import Derived.Test.YtklgpilgalfckaaGreatDoorMN8
import Derived.Test.YtklgpilgalfckaaGreatDoorMN4
import Derived.Test.YtklgpilgalfckaaGreatDoorMN5
set_option maxRecDepth 100000
set_option maxHeartbeats 8000000
namespace Go.Proofs.YtklgpilgalfckaaGreatDoor
open Go.RowKit Go.KP Go.KI Go.Shelf
attribute [local go_sem] Oper.semAt_some

structure DvIx (h gu gv h7 : Nat) : Prop where
  a : h < gu
  b : gu < gv
  c : gv < h7
structure DvSt (w : World) (gu cu gv cv h7 N n M : Nat) (L V Q : List Nat) (W : World) : Prop where
  qv : W.heap[w.heap.size]? = some (.cells #[.slice (some ⟨h7 + 1 + 1, 0, none⟩) M M] 199 (0, 0))
  uv : W.heap[h7]? = some (.cells #[.slice (some ⟨gu, 0, none⟩) N cu] 199 (0, 0))
  vv : W.heap[h7 + 1]? = some (.cells #[.slice (some ⟨gv, 0, none⟩) n cv] 199 (0, 0))
  bx : W.heap[h7 + 1 + 1 + 1]? = some (.cells #[.slice (some ⟨h7 + 1 + 1, 0, none⟩) M M] 199 (0, 0))
  u : RowAt W gu cu L
  v : RowAt W gv cv V
  q : W.heap[h7 + 1 + 1]? = some (rowO Q)
  below : Below w.heap.size w W
theorem RowAt.of_eq {W W2 : World} {g c : Nat} {L : List Nat} (h : RowAt W g c L) (e : W2.heap[g]? = W.heap[g]?) : RowAt W2 g c L := by
  obtain ⟨cur, h1, h2⟩ := h
  exact ⟨cur, e.trans h1, h2⟩
section
variable {w : World} {gu cu gv cv h7 N n M : Nat} {L V Q : List Nat} {W W2 : World}
theorem DvSt.quiet (h : DvSt w gu cu gv cv h7 N n M L V Q W) (ix : DvIx w.heap.size gu gv h7) {B : Nat} {S : Nat → Prop} (hq : Quiet B S W W2) (hB : h7 + 4 ≤ B) : DvSt w gu cu gv cv h7 N n M L V Q W2 := by
  have a := ix.a; have b := ix.b; have c := ix.c
  exact ⟨hq.at_ h.qv (.inl (by omega)), hq.at_ h.uv (.inl (by omega)), hq.at_ h.vv (.inl (by omega)), hq.at_ h.bx (.inl (by omega)), h.u.of_eq (hq.block _ (.inl (by omega)) h.u.lt), h.v.of_eq (hq.block _ (.inl (by omega)) h.v.lt), hq.at_ h.q (.inl (by omega)), Quiet.below h.below hq (by omega) h.below.size⟩
theorem DvSt.keep (h : DvSt w gu cu gv cv h7 N n M L V Q W) (hb : Below W.heap.size W W2) : DvSt w gu cu gv cv h7 N n M L V Q W2 :=
  ⟨below_blk hb h.qv (lt_blk h.qv), below_blk hb h.uv (lt_blk h.uv), below_blk hb h.vv (lt_blk h.vv), below_blk hb h.bx (lt_blk h.bx), h.u.below hb h.u.lt, h.v.below hb h.v.lt, below_blk hb h.q (lt_blk h.q), h.below.trans (hb.mono h.below.size)⟩
theorem DvSt.row {L2 : List Nat} (h : DvSt w gu cu gv cv h7 N n M L V Q W) (ix : DvIx w.heap.size gu gv h7) (k : Only gu W W2) (hr : RowAt W2 gu cu L2) : DvSt w gu cu gv cv h7 N n M L2 V Q W2 := by
  have a := ix.a; have b := ix.b; have c := ix.c
  exact ⟨(k.block _ (by omega) (lt_blk h.qv)).trans h.qv, (k.block _ (by omega) (lt_blk h.uv)).trans h.uv, (k.block _ (by omega) (lt_blk h.vv)).trans h.vv, (k.block _ (by omega) (lt_blk h.bx)).trans h.bx, hr, h.v.only k (by omega), (k.block _ (by omega) (lt_blk h.q)).trans h.q, Only.below h.below k (by omega) h.below.size⟩
theorem DvSt.same (h : DvSt w gu cu gv cv h7 N n M L V Q W) (ix : DvIx w.heap.size gu gv h7) : DvSt w gu cu gv cv h7 N n M L V Q (W.setCell ⟨h7, 0, none⟩ (.slice (some ⟨gu, 0, none⟩) N cu)) := by
  have a := ix.a; have b := ix.b; have c := ix.c
  exact ⟨(setCell_other (by omega)).trans h.qv, Boxed.set _ h.uv, (setCell_other (by omega)).trans h.vv, (setCell_other (by omega)).trans h.bx, h.u.of_eq (setCell_other (by omega)), h.v.of_eq (setCell_other (by omega)), (setCell_other (by omega)).trans h.q, h.below.setCell (p := ⟨h7, 0, none⟩) (by simp; omega) _⟩
theorem DvSt.quot (h : DvSt w gu cu gv cv h7 N n M L V Q W) (ix : DvIx w.heap.size gu gv h7) (j q : Nat) : DvSt w gu cu gv cv h7 N n M L V (Q.set j q) (W.setCell ⟨h7 + 1 + 1, j, none⟩ (.int .i64 q)) := by
  have a := ix.a; have b := ix.b; have c := ix.c
  exact ⟨(setCell_other (by omega)).trans h.qv, (setCell_other (by omega)).trans h.uv, (setCell_other (by omega)).trans h.vv, (setCell_other (by omega)).trans h.bx, h.u.of_eq (setCell_other (by omega)), h.v.of_eq (setCell_other (by omega)), row_set h.q j q, h.below.setCell (p := ⟨h7 + 1 + 1, j, none⟩) (by simp; omega) _⟩
theorem DvSt.drewN (h : DvSt w gu cu gv cv h7 N n M L V Q W) (m : Nat) : DvSt w gu cu gv cv h7 N n M L V Q (W.drewN m) := ⟨h.qv, h.uv, h.vv, h.bx, h.u, h.v, h.q, ⟨h.below.os, h.below.tape, h.below.output, h.below.size, h.below.block⟩⟩
end
theorem Only.upd {g B : Nat} {S : Nat → Prop} {a w w2 : World} (h : Upd B S S a w) (k : Only g w w2) (hg : g < B) : Upd B S S a w2 :=
  h.trans ⟨k.size, fun b hB hl hs => ⟨k.block b (by omega) hl, hs⟩⟩

structure LongAt (U : Nat) (V : List Nat) (N M k : Nat) (L Q : List Nat) : Prop where
  ll : L.length = N
  lt : Lt 1000000000 L
  lq : Q.length = M
  qt : Lt 1000000000 Q
  zero : ∀ i, i < M - k → lat Q i = 0
  small : lv 1000000000 (L.drop (M - k)) < lv 1000000000 V
  val : lvT 1000000000 L (M - k) + 1000000000 ^ (M - k) * (lv 1000000000 (L.drop (M - k)) + lv 1000000000 V * lv 1000000000 (Q.drop (M - k))) = U
theorem LongAt.step {U : Nat} {V L Q L2 : List Nat} {N M k j q m : Nat} (h : LongAt U V N M k L Q) (hV : Norm 1000000000 V) (hm : V.length = m + 2) (hN : N = M + (m + 2)) (hk : k < M) (hj : j = M - 1 - k) (hq : q < 1000000000) (hw : WinEq j (m + 3) L L2) (hL2 : Lt 1000000000 L2)
    (he : lvT 1000000000 (L2.drop j) (m + 3) + q * lv 1000000000 V = lvT 1000000000 (L.drop j) (m + 3)) (hs : lvT 1000000000 (L.drop j) (m + 3) < (q + 1) * lv 1000000000 V) : LongAt U V N M (k + 1) L2 (Q.set j q) := by
  have e1 : M - (k + 1) = j := by omega
  have e2 : M - k = j + 1 := by omega
  have hsm := h.small; have hval := h.val
  rw [e2] at hsm hval
  have hjL : j < L.length := by rw [h.ll]; omega
  have hjQ : j < Q.length := by rw [h.lq]; omega
  obtain ⟨hin, hcut⟩ := EstIn.of (b := 1000000000) (by omega) h.lt hV hm (j := j) (by rw [h.ll]; omega) hsm
  have hVl : lv 1000000000 V < 1000000000 ^ (m + 2) := by rw [← hm]; exact lv_lt hV.lt
  have hz := high_zero (b := 1000000000) (l := L.drop (j + 1)) (n := m + 2) (by rw [List.length_drop, h.ll]; omega) hsm (Nat.le_of_lt hVl)
  have hcut2 := lv_cut 1000000000 (L2.drop j) (m + 3) (by rw [List.length_drop, hw.len, h.ll]; omega)
  have hd : (L2.drop j).drop (m + 3) = (L.drop (j + 1)).drop (m + 2) := by
    rw [List.drop_drop, hw.high, List.drop_drop]
    congr 1
    omega
  rw [hd, hz.1, Nat.mul_zero, Nat.add_zero] at hcut2
  have hdrop : lv 1000000000 (L.drop j) = lat L j + 1000000000 * lv 1000000000 (L.drop (j + 1)) := by
    rw [List.drop_eq_getElem_cons hjL, lat_at hjL]
    rfl
  have hQd : (Q.set j q).drop j = q :: Q.drop (j + 1) := by
    rw [List.drop_eq_getElem_cons (by rw [List.length_set]; exact hjQ), List.getElem_set_self, List.drop_set_of_lt (by omega)]
  refine ⟨hw.len.trans h.ll, hL2, by rw [List.length_set]; exact h.lq, lt_set h.qt hq, ?_, ?_, ?_⟩
  · intro i hi
    rw [e1] at hi
    rw [lat_set hjQ, if_neg (by omega)]
    exact h.zero i (by omega)
  · rw [e1, hcut2]
    have : (q + 1) * lv 1000000000 V = q * lv 1000000000 V + lv 1000000000 V := by rw [Nat.add_mul, Nat.one_mul]
    omega
  · rw [e1, hQd, hcut2]
    have hlow : lvT 1000000000 L2 j = lvT 1000000000 L j := by unfold lvT; rw [hw.low]
    rw [hlow]
    have hr := round_div (b := 1000000000) (j := j) (V := lv 1000000000 V) (U := U) (S := lv 1000000000 (L.drop (j + 1))) (S2 := lvT 1000000000 (L2.drop j) (m + 3)) (q := q) (Q := lv 1000000000 (Q.drop (j + 1))) hval (lat L j) (by
      rw [← hdrop, hcut, ← he, Nat.mul_comm q]) (lvT 1000000000 L j) (by rw [lvT_succ])
    exact hr
theorem LongAt.done {U : Nat} {V L Q : List Nat} {N M : Nat} (h : LongAt U V N M M L Q) : lv 1000000000 L + lv 1000000000 V * lv 1000000000 Q = U ∧ lv 1000000000 L < lv 1000000000 V := by
  have h1 := h.val; have h2 := h.small
  rw [Nat.sub_self, List.drop_zero] at h2
  rw [Nat.sub_self, List.drop_zero, List.drop_zero, lvT_zero, Nat.pow_zero, Nat.one_mul, Nat.zero_add] at h1
  exact ⟨h1, h2⟩
theorem long_start {x y u v : List Nat} {f : Nat} (hx : Norm 1000000000 x) (hy : Norm 1000000000 y) (hu : Norm 1000000000 u) (hv : Norm 1000000000 v) (hf : 1 ≤ f) (eu : lv 1000000000 u = lv 1000000000 x * f) (ev : lv 1000000000 v = lv 1000000000 y * f) (hle : lv 1000000000 y ≤ lv 1000000000 x) (hy2 : 2 ≤ y.length) :
    2 ≤ v.length ∧ v.length ≤ u.length ∧ x.length ≤ u.length ∧ LongAt (lv 1000000000 u) v (u.length + 1) (u.length + 1 - v.length) 0 (u ++ [0]) (zeros (u.length + 1 - v.length)) := by
  have hxy : lv 1000000000 y * f ≤ lv 1000000000 x * f := Nat.mul_le_mul_right f hle
  have len_le : ∀ {p q : List Nat}, Norm 1000000000 p → Lt 1000000000 q → lv 1000000000 p ≤ lv 1000000000 q → p.length ≤ q.length := by
    intro p q hp hq h
    rcases Nat.lt_or_ge q.length p.length with h1 | h1
    · have := norm_len_lt (b := 1000000000) (by omega) hq hp h1
      omega
    · exact h1
  have h1 : lv 1000000000 y ≤ lv 1000000000 v := by
    rw [ev]
    have : lv 1000000000 y * 1 ≤ lv 1000000000 y * f := Nat.mul_le_mul_left _ hf
    omega
  have h2 : lv 1000000000 x ≤ lv 1000000000 u := by
    rw [eu]
    have : lv 1000000000 x * 1 ≤ lv 1000000000 x * f := Nat.mul_le_mul_left _ hf
    omega
  have l1 := len_le hy hv.lt h1
  have l2 := len_le hx hu.lt h2
  have l3 := len_le hv hu.lt (by rw [ev, eu]; exact hxy)
  refine ⟨by omega, l3, l2, ⟨by simp, ?_, zeros_len _, zeros_lt _ _ (by omega), ?_, ?_, ?_⟩⟩
  · intro z hz
    rcases List.mem_append.1 hz with h | h
    · exact hu.lt z h
    · simp at h
      omega
  · intro i _
    unfold lat zeros
    rw [List.getElem?_replicate]
    split <;> rfl
  · rw [Nat.sub_zero]
    have e : (u ++ [0]).drop (u.length + 1 - v.length) = u.drop (u.length + 1 - v.length) ++ [0] := by
      rw [List.drop_append_of_le_length (by omega)]
    rw [e, lv_snoc, Nat.mul_zero, Nat.add_zero]
    have h4 := lv_lt (b := 1000000000) (lt_drop hu.lt (u.length + 1 - v.length))
    rw [List.length_drop, show u.length - (u.length + 1 - v.length) = v.length - 1 by omega] at h4
    have hne : v ≠ [] := by
      intro e
      have : v.length = 0 := by rw [e]; rfl
      omega
    have h5 := hv.ge hne
    omega
  · rw [Nat.sub_zero, List.drop_of_length_le (l := zeros _) (by rw [zeros_len]; exact Nat.le_refl _)]
    show _ + _ * (_ + _ * 0) = _
    simp only [Nat.mul_zero, Nat.add_zero]
    have h6 := lv_cut 1000000000 (u ++ [0]) (u.length + 1 - v.length) (by simp)
    rw [← h6, lv_snoc, Nat.mul_zero, Nat.add_zero]
theorem norm_le {p q : List Nat} (hp : Norm 1000000000 p) (hq : Lt 1000000000 q) (h : lv 1000000000 p ≤ lv 1000000000 q) : p.length ≤ q.length := by
  rcases Nat.lt_or_ge q.length p.length with h1 | h1
  · have := norm_len_lt (b := 1000000000) (by omega) hq hp h1
    omega
  · exact h1
theorem factor_nums {t : Nat} (h1 : 1 ≤ t) (h2 : t < 1000000000) : ∃ f : Nat, (1000000000 : Int) / ((t : Int) + 1) = (f : Int) ∧ 1 ≤ f ∧ f < 1000000000 ∧ (((t : Int) + 1) == 0) = false ∧ f * (t + 1) ≤ 1000000000 := by
  have h3 : (t : Int) + 1 ≠ 0 := by omega
  refine ⟨1000000000 / (t + 1), ?_, ?_, ?_, by simpa using h3, Nat.div_mul_le_self _ _⟩
  · rw [Int.natCast_ediv]
    rfl
  · rw [Nat.le_div_iff_mul_le (by omega)]
    omega
  · rw [Nat.div_lt_iff_lt_mul (by omega)]
    omega
theorem rem_back {X Y R Q f : Nat} (hf : 1 ≤ f) (h : R + Y * f * Q = X * f) (hs : R < Y * f) : Q = X / Y ∧ R / f = X % Y := by
  have hY : 0 < Y := by
    rcases Nat.eq_zero_or_pos Y with h0 | h0
    · rw [h0, Nat.zero_mul] at hs
      omega
    · exact h0
  have h1 : Q * Y ≤ X := by
    have : Q * Y * f ≤ X * f := by
      have : Y * f * Q = Q * Y * f := by grind
      omega
    exact Nat.le_of_mul_le_mul_right this hf
  have h2 : X < (Q + 1) * Y := by
    have : X * f < (Q + 1) * Y * f := by
      have e : (Q + 1) * Y * f = Y * f * Q + Y * f := by grind
      omega
    exact Nat.lt_of_mul_lt_mul_right this
  have hq : X / Y = Q := by
    rw [Nat.div_eq_iff hY]
    have : (Q + 1) * Y = Q * Y + Y := by rw [Nat.add_mul, Nat.one_mul]
    omega
  have h3 := Nat.div_add_mod X Y
  rw [hq] at h3
  refine ⟨hq.symm, ?_⟩
  have h4 : R = X % Y * f := by
    have : X * f = (Y * Q + X % Y) * f := by rw [h3]
    have e : (Y * Q + X % Y) * f = Y * f * Q + X % Y * f := by grind
    omega
  rw [h4, Nat.mul_div_cancel _ hf]
open Go.RowKit Go.KP Go.KI Go.Shelf
attribute [local go_sem] Oper.semAt_some

theorem divide_any (va vb : Value) (x y : List Nat) (B : Nat) (w : World) (ha : LimbAt B w va x) (hb : LimbAt B w vb y) (hB : B ≤ w.heap.size) (hx : Norm 1000000000 x) (hy : Norm 1000000000 y) (hy0 : y ≠ []) (lx : x.length ≤ 90000) (ly : y.length ≤ 90000) :
    Calls Tryz.prog 196 #[va, vb] w (DivRes x y w) := by
  obtain ⟨a0, c0, hva⟩ := ha.form
  obtain ⟨a1, c1, hvb⟩ := hb.form
  subst hva; subst hvb
  have HA := hide ha; have HB := hide hb; have HX := hide hx; have HY := hide hy
  obtain ⟨g1, o1, hv1, hcy⟩ : ∃ g o, a1 = some ⟨g, o, none⟩ ∧ g < B ∧ ∀ i, i < y.length → w.cell? ⟨g, o + i, none⟩ = some (.int .i64 (lat y i)) := by
    rcases hb.cases with ⟨_, _, _, hnil⟩ | ⟨g, o, cap, hv, hg, hc⟩
    · exact absurd hnil hy0
    · injection hv with hv1 hv2 hv3
      exact ⟨g, o, hv1, hg, hc⟩
  subst hv1
  have hly : 1 ≤ y.length := List.length_pos_iff.2 hy0
  have hyp : 1 ≤ lv 1000000000 y := by
    have h1 := hy.ge hy0
    have h2 : 0 < 1000000000 ^ (y.length - 1) := Nat.pow_pos (by omega)
    omega
  have HCY := hide hcy
  obtain ⟨b0, hs0, hB0⟩ := heap1 w (.cells #[.slice none 0 0] 199)
  have HC := hide (compare_any (.slice a0 x.length c0) (.slice (some ⟨g1, o1, none⟩) y.length c1) x y B (w.alloc (.cells #[.slice none 0 0] 199)) (ha.below hB0 hB) (hb.below hB0 hB) (by omega) hx hy (by omega) (by omega))
  clear ha hb hx hy hcy
  refine (callsIn_wide (n := 0)).1 ?_
  refine callsIn_of_wp_marks Tryz.func196 rfl trivial ?_ rfl
  simp only [Tryz.ntmps196, List.size_toArray, List.length_cons, List.length_nil, Nat.reduceAdd, Nat.reduceSub, Array.replicate_succ, Array.replicate_zero, List.push_toArray, List.append_toArray, List.nil_append, List.cons_append]
  have H0 := hide b0; have HB0 := hide hB0
  clear b0 hB0
  gi_wp2_with fail
  refine ⟨trivial, rfl, (callsIn_wide.2 HC.out).mono ?_⟩
  rintro e w1 ⟨rc, rfl, hcr, hb1⟩
  have E0 := hide (below_blk hb1 H0.out (by omega))
  have B1 := hide (HB0.out.trans (hb1.mono (by omega)))
  have hs1 : w.heap.size + 1 ≤ w1.heap.size := by have := hb1.size; omega
  clear hb1 HC H0 HB0 hs0
  by_cases hlt : lv 1000000000 x < lv 1000000000 y
  · have hr : rc < 0 := hcr.1.2 hlt
    have HLT := hide hlt
    have c0' := cell_blk E0.out 0
    have f0' := froz_blk E0.out 0
    clear hcr hlt
    gi_wp2_with fail
    have hc := cell_blk (Boxed.set (.slice none 0 0) E0.out) 0
    refine ⟨.tuple #[.slice none 0 0, .slice a0 x.length c0], by simp [results, go_sem, hc], .slice none 0 0, .slice a0 x.length c0, [], x, rfl, B1.out.setCell (p := ⟨w.heap.size, 0, none⟩) (by simp) _, LimbAt.nil _ _, ?_, Norm.nil _, HX.out, ?_, ?_, Nat.zero_le _, Nat.le_refl _⟩
    · exact ((HA.out.below B1.out hB).below ((Below.refl w.heap.size w1).setCell (p := ⟨w.heap.size, 0, none⟩) (by simp) _) hB).mono (by rw [setCell_size]; have := B1.out.size; omega)
    · rw [Nat.div_eq_of_lt HLT.out]; rfl
    · rw [Nat.mod_eq_of_lt HLT.out]
  · have hr : (rc < 0) = False := eq_false (fun h => hlt (hcr.1.1 h))
    have HLE := hide (Nat.le_of_not_lt hlt)
    clear hcr hlt
    by_cases h1 : y.length = 1
    · have hq : ((y.length : Int) == 1) = true := by rw [h1]; rfl
      have hyd : y = [lat y 0] := by
        match y, h1 with
        | [z], _ => rfl
      have hd := lat_lt (b := 1000000000) (by omega) HY.out.lt 0
      have hd1 : 1 ≤ lat y 0 := by
        have := HY.out.top.resolve_left hy0
        rw [h1] at this
        have : lat y 0 ≠ 0 := this
        omega
      have qc : w1.cell? ⟨g1, o1, none⟩ = some (.int .i64 (lat y 0)) := by
        have := (HB.out.below B1.out hB).cases
        have h2 := HCY.out.2 0 (by omega)
        rw [Nat.add_zero] at h2
        exact (B1.out.cell (p := ⟨g1, o1, none⟩) (by have := HCY.out.1; simp; omega)).trans h2
      have HS := hide (divideShort_any (.slice a0 x.length c0) x (lat y 0) B w1 (HA.out.below B1.out hB) (by omega) HX.out.lt (by omega) hd1 hd)
      rw [← hyd] at HS
      have hl1 : (0 : Int) < (y.length : Int) := by omega
      obtain ⟨d, hd2⟩ : ∃ d, d = lat y 0 := ⟨_, rfl⟩
      rw [← hd2] at qc HS hd hd1
      clear hyd hd2 h1
      gi_wp2_with fail
      refine ⟨trivial, rfl, (callsIn_wide.2 HS.out).mono ?_⟩
      rintro e w2 ⟨vq, vr, q, r, rfl, hb2, o1', o2', n1, n2, v1, v2, l1, l2⟩
      obtain ⟨aq, cq, hvf, _, _⟩ := o1'.form
      subst hvf
      obtain ⟨ar, cr, hvf, _, _⟩ := o2'.form
      subst hvf
      have E2 := hide (below_blk hb2 E0.out (by omega))
      have B2 := hide (B1.out.trans (hb2.mono (by omega)))
      have O1 := hide o1'; have O2 := hide o2'; have N1 := hide n1; have N2 := hide n2; have V1 := hide v1; have V2 := hide v2
      have hs2 : w.heap.size < w2.heap.size := by have := hb2.size; omega
      clear hb2 o1' o2' n1 n2 v1 v2 E0 B1
      have c0' := cell_blk E2.out 0
      have f0' := froz_blk E2.out 0
      gi_wp2_with fail
      have hc := cell_blk (Boxed.set (.slice aq q.length cq) E2.out) 0
      refine ⟨.tuple #[.slice aq q.length cq, .slice ar r.length cr], by simp [results, go_sem, hc], _, _, q, r, rfl, B2.out.setCell (p := ⟨w.heap.size, 0, none⟩) (by simp) _, LimbAt.of_own (O1.out.other (p := ⟨w.heap.size, 0, none⟩) (by simp; omega) _), LimbAt.of_own (O2.out.other (p := ⟨w.heap.size, 0, none⟩) (by simp; omega) _), N1.out, N2.out, V1.out, V2.out, l1, l2⟩
    · obtain ⟨m, hm⟩ : ∃ m, y.length = m + 2 := ⟨y.length - 2, by omega⟩
      have hq : ((y.length : Int) == 1) = false := by
        have : (y.length : Int) ≠ 1 := by omega
        simpa using this
      obtain ⟨b, hbb⟩ : ∃ b, b = m + 1 := ⟨_, rfl⟩
      have e3 : (y.length : Int) - 1 = (b : Int) := by omega
      have hbl : (b : Int) < (y.length : Int) := by omega
      have ht := lat_lt (b := 1000000000) (by omega) HY.out.lt b
      have ht1 : 1 ≤ lat y b := by
        have := HY.out.top.resolve_left hy0
        rw [hm, show m + 2 - 1 = b by omega] at this
        omega
      have qc : w1.cell? ⟨g1, o1 + b, none⟩ = some (.int .i64 (lat y b)) :=
        (B1.out.cell (p := ⟨g1, o1 + b, none⟩) (by have := HCY.out.1; simp; omega)).trans (HCY.out.2 b (by omega))
      obtain ⟨t, ht2⟩ : ∃ t, t = lat y b := ⟨_, rfl⟩
      rw [← ht2] at ht ht1 qc
      obtain ⟨f, hf, hf1, hf2, hf0, -⟩ := factor_nums ht1 ht
      have hti : (t : Int) < 1000000000 := by omega
      have HM := hide hm; have HBB := hide hbb
      obtain ⟨i0, hi0, hz0, hz1, hz2⟩ := info_parts info3
      obtain ⟨n0, ns, nb⟩ := heap1 w1 (rowO [f])
      obtain ⟨w2, hw2⟩ : ∃ w2, w1.alloc (.cells #[.int .i64 f] 3) = w2 := ⟨_, rfl⟩
      rw [show w1.alloc (rowO [f]) = w2 from hw2] at n0 ns nb
      have B2 := hide (B1.out.trans (nb.mono (by omega)))
      have E2 := hide (below_blk nb E0.out (by omega))
      have hF : Lt 1000000000 [f] := fun z hz => by
        simp only [List.mem_singleton] at hz
        omega
      have HT1 := hide (times_any (.slice a0 x.length c0) (.slice (some ⟨w1.heap.size, 0, none⟩) 1 1) x [f] w2.heap.size w2 ((HA.out.below B2.out hB).mono (by omega)) (row_limbs n0 (by unfold maxLen; simp)) (Nat.le_refl _) HX.out.lt hF (by omega) (by simp))
      have hs2 : w1.heap.size < w2.heap.size := by omega
      clear ht2 hm hbb h1 n0 ns nb
      gi_wp2_with fail
      rw [hf]
      refine ⟨trivial, rfl, (callsIn_wide.2 HT1.out).mono ?_⟩
      rintro e w3 ⟨u0, ⟨vu, rfl, hb3, ou⟩, nu, lu, ku⟩
      obtain ⟨au, cu0, hvf, hcu, _⟩ := ou.form
      subst hvf
      have hs3 : w2.heap.size ≤ w3.heap.size := hb3.size
      have B3 := hide (B2.out.trans (hb3.mono B2.out.size))
      have E3 := hide (below_blk hb3 E2.out (by omega))
      have OU := hide ou; have NU := hide nu; have LU := hide lu
      have hku : u0.length ≤ 90002 := by simpa using Nat.le_trans ku (by simp; omega)
      clear hb3 ou nu lu ku HT1 hw2 B2 E2 qc
      have HOU := hide (show (w3.alloc (.cells #[.int .i64 0] 3)).ownsRow w2.heap.size 3 1 (.slice au u0.length cu0) u0.length (icells u0) from World.ownsRow.alloc OU.out _)
      have HNU := hide (show ∀ j u, ([.int .i64 0] : List Value)[j]? = some u → (w3.alloc (.cells #[.int .i64 0] 3)).cell? ((⟨w3.heap.size, 0, none⟩ : Addr).add j) = some u from World.news_of_block (cs := #[.int .i64 0]) (t := 3) (fr := (0, 0)) (heap_alloc_new w3 _))
      have hz3 : (w3.alloc (.cells #[.int .i64 0] 3)).heap.size = w3.heap.size + 1 := by simp
      gi_wp2_with (gi_at_builtin; go_must (refine wpListIn_append_own _ rfl (.tmp 37) (.tmp 38) 199 rfl w2.heap.size 3 i0 _ 1 8 Tryz.underlying199 hi0 hz0 hz1 hz2 rfl (by decide) (.slice au u0.length cu0) _ _ rfl HOU.out ⟨w3.heap.size, 0, none⟩ 1 1 [.int .i64 0] rfl rfl HNU.out (by simp [Value.oneCell']) (by simp only [maxLen]; omega) (by omega) (by simp; omega) ?_); intro v4 w4 hown hg4 hiff; clear hiff; have OV := hide hown; have HG4 := hide hg4; clear hown hg4)
      have hb4 : Below w2.heap.size w3 w4 := ((Below.refl w2.heap.size w3).alloc hs3 _).grown HG4.out (by rw [hz3]; omega) (owns_ge OU.out (Nat.le_refl _))
      have E4 := hide (below_blk hb4 E3.out (by omega))
      have B4 := hide (B3.out.trans (hb4.mono (show w.heap.size ≤ w2.heap.size by omega)))
      obtain ⟨N, hN⟩ : ∃ N, N = (u0 ++ [0]).length := ⟨_, rfl⟩
      obtain ⟨gu, cu, hv4, hgu, ru⟩ := OwnL.row (base := w2.heap.size) (w := w4) (v := v4) (L := u0 ++ [0]) (by
        have h := OV.out
        unfold OwnL
        rw [List.length_append, icells_append]
        exact h) (by simp)
      subst hv4
      rw [← hN]
      have hN2 : N = u0.length + 1 := by rw [hN]; simp
      have RU := hide ru
      have hgl := ru.lt
      have hs4 : w2.heap.size ≤ w4.heap.size := by have := hb4.size; omega
      clear hb4 ru HOU HNU HG4 E3 B3 OV OU hz3 hN hi0 hz0 hz1 hz2
      obtain ⟨n1, ns1, nb1⟩ := heap1 w4 (rowO [f])
      obtain ⟨w5, hw5⟩ : ∃ w5, w4.alloc (.cells #[.int .i64 f] 3) = w5 := ⟨_, rfl⟩
      rw [show w4.alloc (rowO [f]) = w5 from hw5] at n1 ns1 nb1
      rw [hw5]
      have B5 := hide (B4.out.trans (nb1.mono (by omega)))
      have E5 := hide (below_blk nb1 E4.out (by omega))
      have R5 := hide (RU.out.below nb1 hgl)
      have HT2 := hide (times_any (.slice (some ⟨g1, o1, none⟩) y.length c1) (.slice (some ⟨w4.heap.size, 0, none⟩) 1 1) y [f] w5.heap.size w5 ((HB.out.below B5.out hB).mono (by omega)) (row_limbs n1 (by unfold maxLen; simp)) (Nat.le_refl _) HY.out.lt hF (by omega) (by simp))
      clear n1 nb1 hw5 B4 E4 RU
      refine ⟨trivial, rfl, (callsIn_wide.2 HT2.out).mono ?_⟩
      rintro e w6 ⟨v0, ⟨vv, rfl, hb6, ov⟩, nv, lv', kv⟩
      have hfl : lv 1000000000 [f] = f := by simp [lv]
      have LU2 := LU.out
      rw [hfl] at LU2 lv'
      obtain ⟨k1, k2, k3, hst⟩ := long_start HX.out HY.out NU.out nv hf1 LU2 lv' HLE.out (by rw [HM.out]; omega)
      obtain ⟨n, hn⟩ : ∃ n, n = v0.length := ⟨_, rfl⟩
      obtain ⟨gv, cv, hvv, hgv, rv⟩ := OwnL.row ov (fun e => by rw [e] at k1; simp at k1)
      subst hvv
      rw [← hn] at k1 k2 hst ⊢
      rw [← hN2] at hst
      obtain ⟨M, hM⟩ : ∃ M, M = N - n := ⟨_, rfl⟩
      rw [← hM] at hst
      have hMi : (N : Int) - (n : Int) = (M : Int) := by omega
      have hmk := make_ints M (by omega)
      have ST := hide hst
      have B6 := hide (B5.out.trans (hb6.mono (by omega)))
      have E6 := hide (below_blk hb6 E5.out (by omega))
      have R6 := hide (R5.out.below hb6 (by omega)); have V6 := hide rv
      have hs6 : w5.heap.size ≤ w6.heap.size := hb6.size
      have hgvl := rv.lt
      have NV := hide nv; have LV := hide lv'; have HN := hide hn; have HMM := hide hM
      have hn0 : n ≤ 180000 := by omega
      clear hb6 ov nv lv' kv hst rv HT2 B5 E5 R5 hn hM LU2 hfl
      have hcl : ((N : Int) < (x.length : Int) + 1) = False := eq_false (by omega)
      have hMu : M + n = N := by omega
      have hMl : (M : Int) ≤ 200000 := by omega
      have HMU := hide hMu
      have hNl : N ≤ 90003 := by omega
      have HN2 := hide hN2
      clear hN2 k3 k2 hMu
      have k2 : n ≤ N := by have := HMM.out; have := HN2.out; have := hMi; omega
      obtain ⟨p0, p1, ps, pb⟩ := heap2 w6 (.cells #[.slice (some ⟨gu, 0, none⟩) N cu] 199) (.cells #[.slice (some ⟨gv, 0, none⟩) n cv] 199)
      obtain ⟨w7, hw7⟩ : ∃ w7, (w6.alloc (.cells #[.slice (some ⟨gu, 0, none⟩) N cu] 199)).alloc (.cells #[.slice (some ⟨gv, 0, none⟩) n cv] 199) = w7 := ⟨_, rfl⟩
      rw [hw7] at p0 p1 ps pb
      have B7 := hide (B6.out.trans (pb.mono (by omega)))
      have E7 := hide (below_blk pb E6.out (by omega))
      have R7 := hide (R6.out.below pb (by omega)); have V7 := hide (V6.out.below pb hgvl)
      have U7 := hide p0; have W7 := hide p1
      have c7 := cell_blk p0 0
      have c8 := cell_blk p1 0
      clear pb B6 E6 R6 V6 p0 p1
      gi_wp2_with fail
      clear hw7
      have e4 := cell_blk E7.out 0
      have q4 := froz_blk E7.out 0
      have HS7 := hide (show w7.heap.size = w6.heap.size + 2 by omega)
      have hs7 : w6.heap.size + 2 ≤ w7.heap.size := by omega
      have hz7 : w.heap.size < w7.heap.size := by omega
      have hz6 : w6.heap.size < w7.heap.size := by omega
      have hz61 : w6.heap.size + 1 < w7.heap.size := by omega
      clear ps
      gi_loopw [] (fun wr => wr = w7) (fun _ => 0)
      case atStart => rfl
      case round =>
        subst hrel
        gi_wp2_with fail
        clear c7 c8 e4 q4 hmk
        rw [HS7.out]
        obtain ⟨h7, hh7⟩ : ∃ h, h = w6.heap.size := ⟨_, rfl⟩
        have IX := hide (show DvIx w.heap.size gu gv w6.heap.size from ⟨by omega, by omega, hgvl⟩)
        have hzs : (wr.setCell ⟨w.heap.size, 0, none⟩ (.slice (some ⟨w6.heap.size + 2, 0, none⟩) M M)).heap.size = wr.heap.size := setCell_size _ _ _
        obtain ⟨y0, ys0, yb0⟩ := heap1 (wr.setCell ⟨w.heap.size, 0, none⟩ (.slice (some ⟨w6.heap.size + 2, 0, none⟩) M M)) (rowO (zeros M))
        obtain ⟨y1, ys1, yb1⟩ := heap1 ((wr.setCell ⟨w.heap.size, 0, none⟩ (.slice (some ⟨w6.heap.size + 2, 0, none⟩) M M)).alloc (rowO (zeros M))) (.cells #[.slice (some ⟨w6.heap.size + 2, 0, none⟩) M M] 199)
        rw [hzs] at y0 ys0 yb0
        rw [ys0] at y1 ys1 yb1
        rw [HS7.out] at y0 y1
        have yb := (yb0.trans (yb1.mono (by omega)))
        refine ⟨trivial, rfl, (callsIn_wide.2 (backward_any (some ⟨w6.heap.size + 2, 0, none⟩) M M _)).mono ?_⟩
        rintro e w9 ⟨rfl, hw9⟩
        rw [hw9] at y1 ys1 yb1 yb
        have hlt7 : ∀ {i : Nat}, i < wr.heap.size → i ≠ w.heap.size → w9.heap[i]? = wr.heap[i]? := fun {i} h1 h2 => (yb.block i h1).trans (setCell_other (Ne.symm h2))
        have DS := hide (show DvSt w gu cu gv cv w6.heap.size N n M (u0 ++ [0]) v0 (zeros M) w9 from
          ⟨(yb.block _ (by omega)).trans (Boxed.set _ E7.out), (hlt7 hz6 (by omega)).trans U7.out, (hlt7 hz61 (by omega)).trans W7.out, y1, R7.out.of_eq (hlt7 (by omega) (by omega)), V7.out.of_eq (hlt7 (by omega) (by omega)),
            (yb1.block _ (by omega)).trans y0, (B7.out.setCell (p := ⟨w.heap.size, 0, none⟩) (by simp) _).trans (yb.mono (by omega))⟩)
        have hs9 : w6.heap.size + 4 ≤ w9.heap.size := by have := HS7.out; omega
        have HS9 := hide (show w9.heap.size = w6.heap.size + 4 by have := HS7.out; omega)
        clear y0 ys0 yb0 y1 ys1 yb1 yb hlt7 hzs
        gi_wp2_with fail
        clear hw9
        rw [HS7.out]
        refine wp_iter_on (gf := 269) (lb := #[.pointer (some ⟨w6.heap.size + 2 + 1, 0, none⟩)]) rfl (enters_of Tryz.func269 (by kernel_rfl) rfl) (backSeq_any (w6.heap.size + 2 + 1) M M (some ⟨w6.heap.size + 2, 0, none⟩) (fun _ => 0) (by omega)) (fun _ => rfl)
          (fun k S W => S = (fun _ => False) ∧ ∃ L Q, LongAt (lv 1000000000 u0) v0 N M k L Q ∧ DvSt w gu cu gv cv w6.heap.size N n M L v0 Q W)
          (fun _ _ _ => False) ?hI (fun _ _ _ _ h _ => h) ?h0 ?hke
          (fun k S a1' W => a1' = { tmps := #[.slice a0 x.length c0, .slice (some ⟨g1, o1, none⟩) y.length c1, undef, undef, .pointer (some ⟨w.heap.size, 0, none⟩), .slice none 0 0, .int .i64 f, .pointer (some ⟨w6.heap.size, 0, none⟩), .pointer (some ⟨w6.heap.size + 1, 0, none⟩), .int .i64 ((M : Int) - 1 - k), undef, .slice a0 x.length c0, .slice (some ⟨g1, o1, none⟩) y.length c1, .int .i64 rc, .bool false, undef, .slice (some ⟨g1, o1, none⟩) y.length c1, .int .i64 y.length, .bool false, undef, undef, undef, undef, undef, undef, undef, .slice (some ⟨g1, o1, none⟩) y.length c1, .slice (some ⟨g1, o1, none⟩) y.length c1, .int .i64 y.length, .int .i64 b, .pointer (some ⟨g1, o1 + b, none⟩), .int .i64 t, .int .i64 ((t : Int) + 1), .int .i64 f, .slice a0 x.length c0, .int .i64 f, .slice (some ⟨w1.heap.size, 0, none⟩) 1 1, .slice au u0.length cu0, .slice (some ⟨w3.heap.size, 0, none⟩) 1 1, .slice (some ⟨gu, 0, none⟩) N cu, .slice (some ⟨g1, o1, none⟩) y.length c1, .int .i64 f, .slice (some ⟨w4.heap.size, 0, none⟩) 1 1, .slice (some ⟨gv, 0, none⟩) n cv, .slice (some ⟨gu, 0, none⟩) N cu, .int .i64 N, .slice a0 x.length c0, .int .i64 x.length, .int .i64 ((x.length : Int) + 1), .bool false, u50, u51, u52, .slice (some ⟨gu, 0, none⟩) N cu, .int .i64 N, .slice (some ⟨gv, 0, none⟩) n cv, .int .i64 n, .int .i64 M, .slice (some ⟨w6.heap.size + 2, 0, none⟩) M M, .slice (some ⟨w6.heap.size + 2, 0, none⟩) M M, .func (.func 269) #[] #[.pointer (some ⟨w6.heap.size + 2 + 1, 0, none⟩)], .int .i64 ((M : Int) - 1 - k), .int .i64 0, undef, undef, undef, undef, undef, undef, undef, undef, undef, undef, undef, undef, undef, undef, undef, undef, undef, undef, undef, undef, undef, undef, undef, undef, undef, undef, undef, undef, undef, undef], defers := [] })
          ?hAx ?hassign ?hS ?hbody ?hdone ?hstop
        case hI =>
          rintro k S W W2 ⟨rfl, L, Q, h1, h2⟩ hq
          exact ⟨rfl, L, Q, h1, h2.quiet IX.out hq hs9⟩
        case h0 => exact ⟨rfl, _, _, ST.out, DS.out⟩
        case hke =>
          rintro k S W hk ⟨rfl, L, Q, h1, h2⟩
          refine ⟨h2.bx, fun hlt => ⟨_, _, rfl, ?_⟩⟩
          have h3 := row_cell h2.q (i := M - 1 - k) (by rw [h1.lq]; omega)
          rw [h1.zero _ (by omega)] at h3
          rw [Nat.zero_add]
          exact h3
        case hAx =>
          rintro k S a1' W l r r2 h _
          exact h
        case hassign =>
          intro l k S W K hsz hSlt hK
          gi_wp2
          exact hK _ _ (Quiet.refl _ _ _) (Upd.refl _ _ _) rfl
        case hS =>
          rintro k S W ⟨rfl, _⟩ b hb
          exact hb.elim
        case hstop =>
          intro D c S W _ h
          exact h.elim
        case hbody =>
          rintro l k S a1' W hk ⟨rfl, L, Q, hl, st⟩ rfl hsz
          obtain ⟨j, hj⟩ : ∃ j : Nat, (M : Int) - 1 - (k : Int) = j := ⟨M - 1 - k, by omega⟩
          have hj2 : j = M - 1 - k := by omega
          rw [hj]
          have hnm : ∃ m2, n = m2 + 2 := ⟨n - 2, by omega⟩
          obtain ⟨m2, hnm⟩ := hnm
          have hvm : v0.length = m2 + 2 := by rw [← HN.out]; exact hnm
          have hsm := hl.small
          rw [show M - k = j + 1 by omega] at hsm
          have hMU := HMU.out
          have hjN : j + (m2 + 2) < N := by omega
          have HE := hide (estimate_any gu cu L gv cv v0 j m2 W st.u st.v hl.lt NV.out hvm (by rw [hl.ll]; exact hjN) (by rw [hl.ll]; omega) hsm)
          rw [hl.ll, ← HN.out] at HE
          have hgne : gv ≠ gu := by omega
          have HTk := hide (fun (q : Nat) (W2 : World) (h1 : RowAt W2 gu cu L) (h2 : RowAt W2 gv cv v0) (hq : q < 1000000000) => take_any gu cu L gv cv v0 j q W2 h1 h2 hgne hl.lt NV.out.lt (by rw [hl.ll, ← HN.out]; omega) hq (by rw [hl.ll]; omega))
          have HRs := hide (fun (q : Nat) (M2 : List Nat) (W2 : World) (h1 : RowAt W2 gu cu M2) (h2 : RowAt W2 gv cv v0) (hM2 : Lt 1000000000 M2) (hlen : M2.length = N) (hq : q < 1000000000) => restore_any gu cu M2 gv cv v0 j q W2 h1 h2 hgne hM2 NV.out.lt (by rw [hlen, ← HN.out]; omega) hq (by rw [hlen]; omega))
          rw [hl.ll, ← HN.out] at HTk
          have c7 := cell_blk st.uv 0
          have c8 := cell_blk st.vv 0
          have HL := hide hl; have SS := hide st; have HJ := hide hj2; have HNM := hide hnm; have HVM := hide hvm
          have hz6 : w6.heap.size < W.heap.size := lt_blk st.uv
          clear hl st hj2 hsm hj hvm hMU hnm hMi e3 hf hq hr hcl
          gi_wp2_with fail
          refine ⟨trivial, rfl, (CallsIn.inRound l (callsIn_wide.2 HE.out)).mono ?_⟩
          rintro e W1 ⟨q, rfl, hq, hqs, hbq⟩
          have S1 := hide (SS.out.keep hbq)
          have U1 := hide ((Upd.refl w9.heap.size (fun _ => False) W).of_below hbq (Nat.le_refl _))
          have HQ := hide hqs
          clear hbq hqs c7 c8 HE SS
          gi_wp2_with fail
          have hgw9 : gu < w9.heap.size := by omega
          have hjM : j < M := by have := HJ.out; omega
          have hjMi : (j : Int) < (M : Int) := by omega
          gi_loopw [10] (fun qq wr2 => ∃ q : Nat, qq = .int .i64 q ∧ q < 1000000000 ∧ Hid (lvT 1000000000 (L.drop j) (m2 + 3) < (q + 1) * lv 1000000000 v0 ∧ DvSt w gu cu gv cv w6.heap.size N n M L v0 Q wr2 ∧ Upd w9.heap.size (fun _ => False) (fun _ => False) W wr2)) (fun qq _ => (intOf qq).toNat)
          case atStart => exact ⟨q, rfl, hq, HQ.out, S1.out, U1.out⟩
          case round =>
            clear S1 U1 HQ hq
            obtain ⟨q, rfl, hq, hin⟩ := hrel
            have I1 := hide hin.out.1; have I2 := hide hin.out.2.1; have I3 := hide hin.out.2.2
            have HT := hide (HTk.out q wr I2.out.u I2.out.v hq)
            have c7 := cell_blk I2.out.uv 0
            have c8 := cell_blk I2.out.vv 0
            clear hin
            gi_wp2_with fail
            refine ⟨trivial, rfl, (CallsIn.inRound l (callsIn_wide.2 HT.out)).mono ?_⟩
            rintro e W2 ⟨C, M2, rfl, ho, hr, hM2, hw, he⟩
            have S2 := hide (I2.out.row IX.out ho hr)
            have U2 := hide (Only.upd I3.out ho hgw9)
            rw [HNM.out] at hw he
            have HM2 := hide hM2
            have HW := hide (show WinEq j (m2 + 3) L M2 from hw)
            have HE := hide (show lvT 1000000000 (M2.drop j) (m2 + 3) + q * lv 1000000000 v0 = lvT 1000000000 (L.drop j) (m2 + 3) + 1000000000 ^ (m2 + 3) * C from he)
            clear ho hr hM2 hw he HT c7 c8 I2 I3
            rcases Nat.eq_zero_or_pos C with hC | hC
            · subst hC
              have HSt := hide (HL.out.step NV.out HVM.out (by have := HMU.out; have := HNM.out; omega) hk HJ.out hq HW.out HM2.out (by have := HE.out; rw [Nat.mul_zero, Nat.add_zero] at this; exact this) I1.out)
              have c4 := cell_blk S2.out.qv 0
              have f4 := row_froz S2.out.q j
              have hz8 : w6.heap.size + 2 < W2.heap.size := lt_blk S2.out.q
              have hmq : j < Q.length := by rw [HL.out.lq]; exact hjM
              have c5 := row_cell S2.out.q hmq
              gi_wp2_with fail
              exact ⟨fun _ => False, U2.out.setBox (by simp; omega) _, rfl, M2, Q.set j q, HSt.out, S2.out.quot IX.out j q⟩
            · have hM2l : M2.length = N := HW.out.len.trans HL.out.ll
              have HR := hide (HRs.out q M2 W2 S2.out.u S2.out.v HM2.out hM2l hq)
              rw [hM2l, ← HN.out] at HR
              have hB := lvT_lt (b := 1000000000) (by omega) (lt_drop HM2.out j) (m2 + 3)
              have hge : 1000000000 ^ (m2 + 3) * 1 ≤ 1000000000 ^ (m2 + 3) * C := Nat.mul_le_mul_left _ hC
              have hqV : lvT 1000000000 (L.drop j) (m2 + 3) < q * lv 1000000000 v0 := by have := HE.out; omega
              have hq1 : 1 ≤ q := by
                rcases Nat.eq_zero_or_pos q with h0 | h0
                · rw [h0, Nat.zero_mul] at hqV
                  omega
                · exact h0
              obtain ⟨q2, hq2⟩ : ∃ q2, q = q2 + 1 := ⟨q - 1, by omega⟩
              have HQV := hide (show lvT 1000000000 (L.drop j) (m2 + 3) < (q2 + 1) * lv 1000000000 v0 by rw [← hq2]; exact hqV)
              have hqi : (1 : Int) ≤ (q : Int) := by omega
              have HQ2 := hide hq2
              have w9' : (q : Int) - 1 = (q2 : Int) := by omega
              have hq2l : q2 < q := by omega
              have c7 := cell_blk S2.out.uv 0
              have c8 := cell_blk S2.out.vv 0
              clear hB hge hqV hq1 hq2 hM2l
              gi_wp2_with fail
              refine ⟨trivial, rfl, (CallsIn.inRound l (callsIn_wide.2 HR.out)).mono ?_⟩
              rintro e W3 ⟨C3, R, rfl, ho, hr, hR, hw, he⟩
              rw [HNM.out] at hw he
              have hRL : R = L := win_back (by omega) HL.out.lt hR HW.out hw HE.out he
              subst hRL
              have S3 := hide (S2.out.row IX.out ho hr)
              have U3 := hide (Only.upd U2.out ho hgw9)
              clear ho hr hR hw he c7 c8 HR S2 U2
              have c7 := cell_blk S3.out.uv 0
              have f7 := froz_blk S3.out.uv 0
              have hz8 : w6.heap.size < W3.heap.size := lt_blk S3.out.uv
              gi_wp2_with fail
              go_roundw
              case rel => exact ⟨q2, by first | rfl | rw [w9'], by omega, HQV.out, S3.out.same IX.out, U3.out.setBox (by simp; omega) _⟩
              case measure => simp [intOf]; omega
        case hdone =>
          rintro D S W hD ⟨rfl, L, Q, hl, st⟩ hK
          have HTu := hide (trim_any (some ⟨gu, 0, none⟩) cu L W.heap.size W st.u.limbs (by obtain ⟨_, _, h, _⟩ := st.u; exact h) (by rw [hl.ll]; omega))
          rw [hl.ll] at HTu
          have hLL : LimbAt W.heap.size W (.slice (some ⟨gu, 0, none⟩) (trimTo L N) cu) (trimL L) := by
            have h1 := ((st.u.own (base := 0) (Nat.zero_le _)).cut (k := trimTo L L.length) (trimTo_le _ _)).at_
            unfold trimL
            rw [hl.ll] at h1 ⊢
            exact h1
          have HDS := hide (divideShort_any _ (trimL L) f W.heap.size W hLL (Nat.le_refl _) (trimL_norm hl.lt).lt (by rw [trimL_len]; have := trimTo_le L L.length; rw [hl.ll] at this; rw [hl.ll]; omega) hf1 hf2)
          have HTq := hide (fun (W2 : World) (h : W2.heap[w6.heap.size + 1 + 1]? = some (rowO Q)) => trim_any (some ⟨w6.heap.size + 1 + 1, 0, none⟩) M Q W2.heap.size W2 (by
            have := row_limbs h (by rw [hl.lq]; unfold maxLen; omega)
            rw [hl.lq] at this ⊢
            exact this) (by rw [hl.lq]; exact Nat.le_refl _) (by rw [hl.lq]; omega))
          rw [hl.lq] at HTq
          have hdn := hl.done
          have c7 := cell_blk st.uv 0
          have hKl : D < W.heap.size := lt_blk hK
          have HDN := hide hdn; have SS := hide st; have HK := hide hK; have HQL := hide hl.lq; have HQT := hide hl.qt
          have hsw : w6.heap.size + 2 < W.heap.size := lt_blk st.q
          have hw0 : w.heap.size < w6.heap.size := by omega
          clear hl st hK hLL hdn hMi e3 hf hq hr hcl
          gi_wp2_with fail
          refine ⟨trivial, rfl, (callsIn_wide.2 HTu.out).mono ?_⟩
          rintro e W1 ⟨rfl, rfl⟩
          gi_wp2_with fail
          refine ⟨trivial, rfl, (callsIn_wide.2 HDS.out).mono ?_⟩
          rintro e W2 ⟨vq, vr, q, r, rfl, hb2, oq, or_, nq, nr, eq, er, lq, lr⟩
          obtain ⟨aq, cq, hvf, _, _⟩ := oq.form
          subst hvf
          have S2 := hide (SS.out.keep hb2)
          have K2 := hide (below_blk hb2 HK.out hKl)
          have OQ := hide oq; have NQ := hide nq; have EQ := hide eq
          have hsw2 : W.heap.size ≤ W2.heap.size := hb2.size
          clear hb2 oq or_ nq nr eq er c7 HTu HDS SS HK lr
          have c4 := cell_blk S2.out.qv 0
          have f4 := froz_blk S2.out.qv 0
          have hz8 : w.heap.size < W2.heap.size := lt_blk S2.out.qv
          have HTq2 := hide (HTq.out W2 S2.out.q)
          gi_wp2_with fail
          refine ⟨trivial, rfl, (callsIn_wide.2 HTq2.out).mono ?_⟩
          rintro e W3 ⟨rfl, rfl⟩
          gi_wp2_with fail
          obtain ⟨Wf, hWf⟩ : ∃ Wf, Wf = W2.setCell ⟨w.heap.size, 0, none⟩ (.slice (some ⟨w6.heap.size + 1 + 1, 0, none⟩) (trimTo Q M) M) := ⟨_, rfl⟩
          rw [← hWf]
          have E1 : Wf.heap[w.heap.size]? = some (.cells #[.slice (some ⟨w6.heap.size + 1 + 1, 0, none⟩) (trimTo Q M) M] 199 (0, 0)) := by
            rw [hWf]; exact Boxed.set _ S2.out.qv
          have ED : Wf.heap[D]? = some (.deferred (some [])) := by
            rw [hWf]; exact (setCell_other (by omega)).trans K2.out
          have EQ2 : Wf.heap[w6.heap.size + 1 + 1]? = some (rowO Q) := by
            rw [hWf]; exact (setCell_other (by omega)).trans S2.out.q
          have EB : Below w.heap.size w Wf := by
            rw [hWf]; exact S2.out.below.setCell (p := ⟨w.heap.size, 0, none⟩) (by simp) _
          have EO : OwnL W.heap.size Wf (.slice aq q.length cq) q := by
            rw [hWf]; exact OQ.out.other (p := ⟨w.heap.size, 0, none⟩) (by simp; omega) _
          clear hWf
          refine ⟨by simp, .inl ⟨_, _, rfl, run_takeDeferred ED, ?_⟩⟩
          have F1 : (Wf.putObj D (.deferred none)).heap[w.heap.size]? = some (.cells #[.slice (some ⟨w6.heap.size + 1 + 1, 0, none⟩) (trimTo Q M) M] 199 (0, 0)) := (World.putObj_heap_other (by omega)).trans E1
          have F2 : (Wf.putObj D (.deferred none)).heap[w6.heap.size + 1 + 1]? = some (rowO Q) := (World.putObj_heap_other (by omega)).trans EQ2
          have hc := cell_blk F1 0
          have hfin : lv 1000000000 Q = lv 1000000000 x / lv 1000000000 y ∧ lv 1000000000 L / f = lv 1000000000 x % lv 1000000000 y := by
            have h1 := HDN.out; have h2 := LU.out; have h3 := LV.out
            rw [show lv 1000000000 [f] = f by simp [lv]] at h2
            rw [h2, h3] at h1
            exact rem_back hf1 h1.1 h1.2
          have hq1 : lv 1000000000 q = lv 1000000000 x % lv 1000000000 y := by
            rw [EQ.out, trimL_lv, show lv 1000000000 [f] = f by simp [lv]]
            exact hfin.2
          have hQ1 : lv 1000000000 (trimL Q) = lv 1000000000 x / lv 1000000000 y := by rw [trimL_lv]; exact hfin.1
          refine ⟨.tuple #[.slice (some ⟨w6.heap.size + 1 + 1, 0, none⟩) (trimTo Q M) M, .slice aq q.length cq], by simp [results, go_sem, hc], _, _, trimL Q, q, rfl, EB.trans (belowK_b (w := w) (Nat.le_refl _) _ D _ _ (by omega) ED rfl rfl), ?_, ?_, trimL_norm HQT.out, NQ.out, hQ1, hq1, ?_, ?_⟩
          · have h1 := (row_owns (base := 0) F2 (Nat.zero_le _) (by rw [HQL.out]; unfold maxLen; omega)).cut (k := trimTo Q Q.length) (trimTo_le _ _)
            have h2 := LimbAt.of_own h1
            unfold trimL
            rw [HQL.out] at h2 ⊢
            exact h2
          · exact LimbAt.of_own (owns_stay EO (fun r hr => World.putObj_heap_other (by have := owns_ge EO (Nat.le_refl _) r hr; omega)))
          · exact norm_le (trimL_norm HQT.out) HX.out.lt (by rw [hQ1]; exact Nat.div_le_self _ _)
          · exact norm_le NQ.out HX.out.lt (by rw [hq1]; exact Nat.mod_le _ _)
open Go.RowKit Go.KP Go.KI Go.Shelf
attribute [local go_sem] Oper.semAt_some

theorem one_lt : Lt 1000000000 [1] := fun z hz => by
  simp only [List.mem_singleton] at hz
  omega
theorem res_fit {z : Int} (h : fits z) : resS z = Lib.itoa z ∧ resE z = 0 := ⟨if_pos h, if_pos h⟩
theorem chk_nz {l : List UInt8} (c : chkI l = 0) (h : l ≠ [48]) : valI l ≠ 0 := by
  intro e
  have := (chk_ok c).1
  rw [e, itoa_zero] at this
  exact h this
theorem Divide_long (s t : ByteArray) (B : Nat) (w : World) (c1 : chkI s.data.toList = 0) (c2 : chkI t.data.toList = 0) (hl : ¬ (s.size ≤ 18 ∧ t.size ≤ 18)) (h0 : t.data.toList ≠ [48]) (hB : B ≤ w.heap.size) (hT : P10 B w) :
    Calls Tryz.prog 179 #[.string s, .string t] w (Ret w (tripV (Lib.itoa ((valI s.data.toList).fdiv (valI t.data.toList))) (Lib.itoa ((valI s.data.toList).fmod (valI t.data.toList))) 0)) := by
  have l1' := (chk_digs c1).2
  have l2' := (chk_digs c2).2
  rw [bytes_len] at l1' l2'
  have H1 := hide (both_any s t (by omega) (by omega) w)
  have hb0 : bothI s.data.toList t.data.toList = 0 := by unfold bothI; rw [if_pos c1, c2]
  rw [hb0] at H1
  have HT := hide hT
  have hy0 := chk_nz c2 h0
  have hq : (t.toList == [48]) = false := by rw [ByteArray.toList_eq]; simpa using h0
  have FQ := hide (res_fit (fits_of_le (chk_ok c1).2 (fdiv_natAbs_le (x := valI s.data.toList) hy0)))
  have FR := hide (res_fit (fits_of_le (chk_ok c2).2 (Nat.le_of_lt (fmod_natAbs_lt (x := valI s.data.toList) hy0))))
  have H2 := hide (fun w => small_no s t hl w)
  have R1 := hide (fun w => read_good s c1 w)
  have R2 := hide (fun w => read_good t c2 w)
  clear c1 c2 hl h0 hT hb0 l1' l2'
  go_enter Tryz.func179, Tryz.ntmps179
  go_wp2_with fail
  refine H1.out.mono ?_
  rintro e w1 ⟨rfl, hb1⟩
  have HB1 := hide hb1
  clear hb1 H1
  go_wp2_with fail
  refine (H2.out _).mono ?_
  rintro e w2 ⟨rfl, hb2⟩
  have HB2 := hide (HB1.out.trans (hb2.mono HB1.out.size))
  clear hb2 H2 HB1
  go_wp2_with fail
  refine (R1.out _).mono ?_
  rintro e w3 ⟨m1, a1, l1, rfl, hb3, o1, n1, q1, k1⟩
  have HB3 := hide (HB2.out.trans (hb3.mono HB2.out.size))
  have O1 := hide o1; have N1 := hide n1; have Q1 := hide q1
  clear hb3 HB2 R1 o1 n1 q1
  go_wp2_with fail
  refine (R2.out _).mono ?_
  rintro e w4 ⟨m2, a2, l2, rfl, hb4, o2, n2, q2, k2⟩
  have HB4 := hide (HB3.out.trans (hb4.mono HB3.out.size))
  have O1' := hide (O1.out.keep hb4)
  have O2 := hide o2; have N2 := hide n2; have Q2 := hide q2
  clear hb4 HB3 R2 o2 n2 q2 O1
  obtain ⟨av1, cv1, hvf, _, _⟩ := O1'.out.form
  subst hvf
  obtain ⟨av2, cv2, hvf, _, _⟩ := O2.out.form
  subst hvf
  have hl2 : l2 ≠ [] := by
    intro e
    have h := Q2.out
    rw [e] at h
    apply hy0
    rw [← h]
    cases m2 <;> rfl
  have hly : 0 < lv 1000000000 l2 := by
    rcases Nat.eq_zero_or_pos (lv 1000000000 l2) with h | h
    · exact absurd ((N2.out.zero (by omega)).1 h) hl2
    · exact h
  obtain ⟨g0, g1, gs0, gb0⟩ := heap2 w4 (.cells #[.bool m1, .slice av1 l1.length cv1] 207) (.cells #[.bool m2, .slice av2 l2.length cv2] 207)
  obtain ⟨w5, hw5⟩ : ∃ w5, (w4.alloc (.cells #[.bool m1, .slice av1 l1.length cv1] 207)).alloc (.cells #[.bool m2, .slice av2 l2.length cv2] 207) = w5 := ⟨_, rfl⟩
  rw [hw5] at g0 g1 gs0 gb0
  have c1 := cell_blk g0 1
  have c3 := cell_blk g1 1
  have HDV := hide (divide_any (.slice av1 l1.length cv1) (.slice av2 l2.length cv2) l1 l2 w5.heap.size w5 (LimbAt.of_own (O1'.out.keep gb0)) (LimbAt.of_own (O2.out.keep gb0)) (Nat.le_refl _) N1.out N2.out hl2 (by omega) (by omega))
  have O2' := hide (O2.out.keep gb0)
  have HB5 := hide (HB4.out.trans (gb0.mono HB4.out.size)); have G0 := hide g0; have G1 := hide g1
  have hs5 : w4.heap.size + 1 < w5.heap.size := by omega
  have FL := hide (floor_long m1 m2 (a := lv 1000000000 l1) hly)
  rw [Q1.out, Q2.out] at FL
  clear g0 g1 gs0 gb0 O1' O2 HB4 hy0
  go_wp2_with fail
  clear hw5
  obtain ⟨nb, hnb⟩ : ∃ nb, nb = w4.heap.size := ⟨_, rfl⟩
  rw [← hnb] at c1 c3 G0 G1 hs5 ⊢
  clear hnb
  refine HDV.out.mono ?_
  rintro e w6 ⟨vq, vr, q, r, rfl, hb6, oq, or_, nq, nr, eq, er, lq, lr⟩
  obtain ⟨aq, cq, hvf⟩ := oq.form
  subst hvf
  obtain ⟨ar, cr, hvf⟩ := or_.form
  subst hvf
  have HBZ := hide (HB5.out.trans (hb6.mono HB5.out.size))
  have G0Z := hide (below_blk hb6 G0.out (by omega))
  have G1Z := hide (below_blk hb6 G1.out (by omega))
  have O2Z := hide (O2'.out.keep hb6)
  have hs6 : nb + 1 < w6.heap.size := Nat.lt_of_lt_of_le hs5 hb6.size
  have OQ := hide oq; have OR := hide or_; have NQ := hide nq; have NR := hide nr; have EQ := hide eq; have ER := hide er
  rw [← eq, ← er] at FL
  clear hb6 oq or_ nq nr eq er c1 c3 HB5 G0 G1 O2' HDV hs5
  have z0 := cell_blk G0Z.out 0
  have z1 := cell_blk G1Z.out 0
  rcases (show m2 = m1 ∨ (m2 = (!m1) ∧ r = []) ∨ (m2 = (!m1) ∧ r ≠ []) by
    by_cases hm : m2 = m1
    · exact .inl hm
    · have : m2 = (!m1) := by cases m1 <;> cases m2 <;> simp_all
      by_cases hr : r = []
      · exact .inr (.inl ⟨this, hr⟩)
      · exact .inr (.inr ⟨this, hr⟩)) with hm | ⟨hm, hr⟩ | ⟨hm, hr⟩
  · subst hm
    have FA := hide (FL.out.1 (.inl rfl))
    rw [show (!(m2 == m2)) = false by simp] at FA
    clear FL
    obtain ⟨m1, rfl⟩ : ∃ m1, m1 = m2 := ⟨_, rfl⟩
    obtain ⟨wz, rfl⟩ : ∃ wz, wz = w6 := ⟨_, rfl⟩
    · skip
      have zq : valS false (lv 1000000000 q) = (valI s.data.toList).fdiv (valI t.data.toList) := FA.out.1
      have zr : valS m1 (lv 1000000000 r) = (valI s.data.toList).fmod (valI t.data.toList) := FA.out.2
      have HR1 := hide (result_any false (.slice aq q.length cq) q wz.heap.size wz OQ.out (Nat.le_refl _) NQ.out (by omega) ((HT.out.on HBZ.out hB).mono (Nat.le_trans hB HBZ.out.size)))
      rw [zq, FQ.out.1, FQ.out.2] at HR1
      have HR2 := hide (fun w8 (hb : Below wz.heap.size wz w8) => result_any m1 (.slice ar r.length cr) r wz.heap.size w8 (LimbAt.below OR.out hb (Nat.le_refl _)) hb.size NR.out (by omega) ((HT.out.on (HBZ.out.trans (hb.mono HBZ.out.size)) hB).mono (Nat.le_trans hB HBZ.out.size)))
      rw [zr, FR.out.1, FR.out.2] at HR2
      have z0 := cell_blk G0Z.out 0
      have z1 := cell_blk G1Z.out 0
      clear zq zr
      go_wp2_with fail
      refine HR1.out.mono ?_
      rintro e w8 ⟨rfl, hb8⟩
      have hz8 : nb + 1 < w8.heap.size := Nat.lt_of_lt_of_le (lt_blk G1Z.out) hb8.size
      have z2 := cell_blk (below_blk hb8 G0Z.out (lt_blk G0Z.out)) 0
      have z3 := cell_blk (below_blk hb8 G1Z.out (lt_blk G1Z.out)) 0
      have HB8 := hide hb8
      clear hb8 HR1 z0 z1
      go_wp2_with fail
      refine (HR2.out w8 HB8.out).mono ?_
      rintro e w9 ⟨rfl, hb9⟩
      have HB9 := hide (HBZ.out.trans ((HB8.out.trans (hb9.mono HB8.out.size)).mono HBZ.out.size))
      clear hb9 HR2 HB8 z2 z3
      go_wp2_with fail
      refine bodyPost_ret (results_tmp3' rfl _ _ _) rfl ?_
      exact ⟨rfl, HB9.out⟩

  · subst hm
    subst hr
    have FB := hide (FL.out.1 (.inr rfl))
    rw [show (!(m1 == (!m1))) = true by cases m1 <;> rfl] at FB
    clear FL
    obtain ⟨wz, rfl⟩ : ∃ wz, wz = w6 := ⟨_, rfl⟩
    have OR := hide (show LimbAt wz.heap.size wz (.slice ar 0 cr) [] from OR.out)
    have NR := hide (Norm.nil 1000000000)
    clear lr
    · skip
      have zq : valS true (lv 1000000000 q) = (valI s.data.toList).fdiv (valI t.data.toList) := FB.out.1
      have zr : valS (!m1) (lv 1000000000 ([] : List Nat)) = (valI s.data.toList).fmod (valI t.data.toList) := FB.out.2
      have HR1 := hide (result_any true (.slice aq q.length cq) q wz.heap.size wz OQ.out (Nat.le_refl _) NQ.out (by omega) ((HT.out.on HBZ.out hB).mono (Nat.le_trans hB HBZ.out.size)))
      rw [zq, FQ.out.1, FQ.out.2] at HR1
      have HR2 := hide (fun w8 (hb : Below wz.heap.size wz w8) => result_any (!m1) (.slice ar 0 cr) ([] : List Nat) wz.heap.size w8 (LimbAt.below OR.out hb (Nat.le_refl _)) hb.size NR.out (by simp) ((HT.out.on (HBZ.out.trans (hb.mono HBZ.out.size)) hB).mono (Nat.le_trans hB HBZ.out.size)))
      rw [zr, FR.out.1, FR.out.2] at HR2
      have z0 := cell_blk G0Z.out 0
      have z1 := cell_blk G1Z.out 0
      clear zq zr
      go_wp2_with fail
      refine HR1.out.mono ?_
      rintro e w8 ⟨rfl, hb8⟩
      have hz8 : nb + 1 < w8.heap.size := Nat.lt_of_lt_of_le (lt_blk G1Z.out) hb8.size
      have z2 := cell_blk (below_blk hb8 G0Z.out (lt_blk G0Z.out)) 0
      have z3 := cell_blk (below_blk hb8 G1Z.out (lt_blk G1Z.out)) 0
      have HB8 := hide hb8
      clear hb8 HR1 z0 z1
      go_wp2_with fail
      refine (HR2.out w8 HB8.out).mono ?_
      rintro e w9 ⟨rfl, hb9⟩
      have HB9 := hide (HBZ.out.trans ((HB8.out.trans (hb9.mono HB8.out.size)).mono HBZ.out.size))
      clear hb9 HR2 HB8 z2 z3
      go_wp2_with fail
      refine bodyPost_ret (results_tmp3' rfl _ _ _) rfl ?_
      exact ⟨rfl, HB9.out⟩

  · subst hm
    have hr1 : lv 1000000000 r ≠ 0 := fun e => hr ((NR.out.zero (by omega)).1 e)
    have hrl : 0 < (r.length : Int) := by
      have := List.length_pos_iff.2 hr
      omega
    have FC := hide (FL.out.2 (by cases m1 <;> simp) hr1)
    rw [show (!(m1 == (!m1))) = true by cases m1 <;> rfl] at FC
    have hlt : lv 1000000000 r ≤ lv 1000000000 l2 := by
      rw [ER.out]
      exact Nat.le_of_lt (Nat.mod_lt _ hly)
    have P1 := hide (plus_lv NQ.out.lt one_lt)
    have P2 := hide (minus_lv N2.out.lt NR.out.lt hlt)
    have FC2 := hide (show valS true (lv 1000000000 (trimL (combL plusP q [1]))) = (valI s.data.toList).fdiv (valI t.data.toList) ∧ valS (!m1) (lv 1000000000 (trimL (combL minusP l2 r))) = (valI s.data.toList).fmod (valI t.data.toList) by
      rw [P1.out.2.1, P2.out.2.1, show lv 1000000000 [1] = 1 by simp [lv]]
      exact FC.out)
    have hk3 : (trimL (combL plusP q [1])).length ≤ 100000 := by
      have := P1.out.2.2
      simp at this
      omega
    have hk4 : (trimL (combL minusP l2 r)).length ≤ 100000 := by
      have := P2.out.2.2
      omega
    obtain ⟨l3, hl3⟩ : ∃ l, l = trimL (combL plusP q [1]) := ⟨_, rfl⟩
    obtain ⟨l4, hl4⟩ : ∃ l, l = trimL (combL minusP l2 r) := ⟨_, rfl⟩
    have N3 := hide P1.out.1
    have N4 := hide P2.out.1
    rw [← hl3] at N3 FC2 hk3
    rw [← hl4] at N4 FC2 hk4
    have HC1 := hide (fun (W : World) (hb : Below w6.heap.size w6 W) (h1 : W.heap[w6.heap.size]? = some (rowO [1])) => combine_any 198 plusP plusFn (.slice aq q.length cq) (.slice (some ⟨w6.heap.size, 0, none⟩) 1 1) q [1] W.heap.size W ((OQ.out.below hb (Nat.le_refl _)).mono hb.size) (row_limbs h1 (by unfold maxLen; simp)) (Nat.le_refl _) NQ.out.lt one_lt (by omega) (by simp))
    have HC2 := hide (fun (W : World) (hb : Below w6.heap.size w6 W) => combine_any 217 minusP minusFn (.slice av2 l2.length cv2) (.slice ar r.length cr) l2 r W.heap.size W (((LimbAt.of_own O2Z.out).below hb (Nat.le_refl _)).mono hb.size) ((OR.out.below hb (Nat.le_refl _)).mono hb.size) (Nat.le_refl _) N2.out.lt NR.out.lt (by omega) (by omega))
    rw [← hl3] at HC1
    rw [← hl4] at HC2
    have HWA := hide (show Below w6.heap.size w6 (w6.alloc (.cells #[.int .i64 1] 3)).drew from ((Below.refl w6.heap.size w6).alloc (Nat.le_refl _) _).drew)
    have HWR := hide (show (w6.alloc (.cells #[.int .i64 1] 3)).drew.heap[w6.heap.size]? = some (rowO [1]) from World.alloc_heap_new _ _)
    have z2 := cell_blk G1Z.out 1
    have ZD := hide (show w6.drew.cell? ⟨nb + 1, 1, none⟩ = some (.slice av2 l2.length cv2) from cell_blk (w := w6.drew) G1Z.out 1)
    have ZA := hide (show (w6.alloc (.cells #[.int .i64 1] 3)).drew.cell? ⟨nb + 1, 1, none⟩ = some (.slice av2 l2.length cv2) from cell_blk (w := (w6.alloc (.cells #[.int .i64 1] 3)).drew) (below_blk HWA.out G1Z.out hs6) 1)
    clear hl3 hl4 hr hr1 hlt FC FL
    go_wp2_with fail
    go_region_held3 (fun w' => w'.cell? ⟨nb + 1, 1, none⟩ = some (.slice av2 l2.length cv2)) (first | with_reducible exact ZD.out | with_reducible exact ZA.out | with_reducible exact d1 | with_reducible exact x1)
      (first
        | (go_at_call 197
           with_reducible refine (HC1.out _ HWA.out HWR.out).mono ?_
           rintro e w7 ⟨v3, rfl, hb7, o3⟩
           obtain ⟨av3, cv3, hvf, _, _⟩ := o3.form
           subst hvf
           have HB7 := hide (HWA.out.trans (hb7.mono HWA.out.size))
           have O3 := hide o3
           have d1 : w7.cell? ⟨nb + 1, 1, none⟩ = some (.slice av2 l2.length cv2) := cell_blk (below_blk HB7.out G1Z.out hs6) 1
           clear hb7 o3)
        | (go_at_call 197
           with_reducible refine (HC2.out w7 HB7.out).mono ?_
           rintro e wz ⟨v4, rfl, hb8, o4⟩
           obtain ⟨av4, cv4, hvf, _, _⟩ := o4.form
           subst hvf
           have HB8 := hide (HB7.out.trans (hb8.mono HB7.out.size))
           have O4 := hide o4
           have O3' := hide (OwnL.keep O3.out hb8)
           have x1 : wz.cell? ⟨nb + 1, 1, none⟩ = some (.slice av2 l2.length cv2) := cell_blk (below_blk HB8.out G1Z.out hs6) 1
           clear hb8 o4)
        | fail)
    clear d1 x1 z0 z1 z2
    have HBZ := hide (HBZ.out.trans (HB8.out.mono HBZ.out.size))
    have G0Z := hide (below_blk HB8.out G0Z.out (by omega))
    have G1Z := hide (below_blk HB8.out G1Z.out hs6)
    have O3Z := hide (LimbAt.of_own O3'.out)
    have O4Z := hide (LimbAt.of_own O4.out)
    clear HB8 HB7 O3 O3' O4 HC1 HC2 HWA HWR ZD ZA hrl
    · skip
      have zq : valS true (lv 1000000000 l3) = (valI s.data.toList).fdiv (valI t.data.toList) := FC2.out.1
      have zr : valS (!m1) (lv 1000000000 l4) = (valI s.data.toList).fmod (valI t.data.toList) := FC2.out.2
      have HR1 := hide (result_any true (.slice av3 l3.length cv3) l3 wz.heap.size wz O3Z.out (Nat.le_refl _) N3.out hk3 ((HT.out.on HBZ.out hB).mono (Nat.le_trans hB HBZ.out.size)))
      rw [zq, FQ.out.1, FQ.out.2] at HR1
      have HR2 := hide (fun w8 (hb : Below wz.heap.size wz w8) => result_any (!m1) (.slice av4 l4.length cv4) l4 wz.heap.size w8 (LimbAt.below O4Z.out hb (Nat.le_refl _)) hb.size N4.out hk4 ((HT.out.on (HBZ.out.trans (hb.mono HBZ.out.size)) hB).mono (Nat.le_trans hB HBZ.out.size)))
      rw [zr, FR.out.1, FR.out.2] at HR2
      have z0 := cell_blk G0Z.out 0
      have z1 := cell_blk G1Z.out 0
      clear zq zr
      go_wp2_with fail
      refine HR1.out.mono ?_
      rintro e w8 ⟨rfl, hb8⟩
      have hz8 : nb + 1 < w8.heap.size := Nat.lt_of_lt_of_le (lt_blk G1Z.out) hb8.size
      have z2 := cell_blk (below_blk hb8 G0Z.out (lt_blk G0Z.out)) 0
      have z3 := cell_blk (below_blk hb8 G1Z.out (lt_blk G1Z.out)) 0
      have HB8 := hide hb8
      clear hb8 HR1 z0 z1
      go_wp2_with fail
      refine (HR2.out w8 HB8.out).mono ?_
      rintro e w9 ⟨rfl, hb9⟩
      have HB9 := hide (HBZ.out.trans ((HB8.out.trans (hb9.mono HB8.out.size)).mono HBZ.out.size))
      clear hb9 HR2 HB8 z2 z3
      go_wp2_with fail
      refine bodyPost_ret (results_tmp3' rfl _ _ _) rfl ?_
      exact ⟨rfl, HB9.out⟩

open Go.RowKit Go.KP Go.KI Go.Shelf
attribute [local go_sem] Oper.semAt_some

theorem Gcd_small (s t : ByteArray) (B : Nat) (w : World) (c1 : chkI s.data.toList = 0) (c2 : chkI t.data.toList = 0) (hs : s.size ≤ 18) (ht : t.size ≤ 18) (hB : B ≤ w.heap.size) (hT : P10 B w) :
    Calls Tryz.prog 178 #[.string s, .string t] w (Ret w (pairV (Lib.itoa ((Nat.gcd (valI s.data.toList).natAbs (valI t.data.toList).natAbs : Nat) : Int)) 0)) := by
  have H1 := hide (both_any s t (by omega) (by omega) w)
  have hb0 : bothI s.data.toList t.data.toList = 0 := by unfold bothI; rw [if_pos c1, c2]
  rw [hb0] at H1
  have HT := hide hT
  have H2 := hide (fun w => small_yes s t c1 c2 hs ht w)
  have v1 := short_val (n := 18) c1 (by rw [bytes_len]; exact hs) (by omega)
  have v2 := short_val (n := 18) c2 (by rw [bytes_len]; exact ht) (by omega)
  rw [pow18] at v1 v2
  obtain ⟨x, hx⟩ : ∃ x, x = valI s.data.toList := ⟨_, rfl⟩
  obtain ⟨y, hy⟩ : ∃ y, y = valI t.data.toList := ⟨_, rfl⟩
  rw [← hx, ← hy] at H2 ⊢
  rw [← hx] at v1
  rw [← hy] at v2
  obtain ⟨G, hG⟩ : ∃ G, G = Nat.gcd x.natAbs y.natAbs := ⟨_, rfl⟩
  rw [← hG]
  have HG := hide hG
  have V1 := hide v1; have V2 := hide v2
  clear c1 c2 hs ht hT hx hy hb0 hG v1 v2
  go_enter Tryz.func178, Tryz.ntmps178
  go_wp2_with fail
  refine H1.out.mono ?_
  rintro e w1 ⟨rfl, hb1⟩
  have HB1 := hide hb1
  clear hb1 H1
  go_wp2_with fail
  refine (H2.out _).mono ?_
  rintro e w2 ⟨rfl, hb2⟩
  have HB2 := hide (HB1.out.trans (hb2.mono HB1.out.size))
  clear hb2 H2 HB1
  go_wp2_with fail
  go_loopw [7, 8] (fun a b wr => ∃ p q : Int, a = .int .i64 p ∧ b = .int .i64 q ∧ p.natAbs < 1000000000000000000 ∧ q.natAbs < 1000000000000000000 ∧ Hid (Nat.gcd p.natAbs q.natAbs = G ∧ Below w.heap.size w wr)) (fun _ b _ => (intOf b).natAbs)
  case atStart => exact ⟨x, y, rfl, rfl, V1.out, V2.out, HG.out.symm, HB2.out⟩
  case round =>
    obtain ⟨p, q, rfl, rfl, hp, hq, hin⟩ := hrel
    have IN := hide hin.out
    clear hin
    by_cases hq0 : q = 0
    · subst hq0
      have hqq : ((0 : Int) != 0) = false := rfl
      have hG : (p.natAbs : Nat) = G := by have := IN.out.1; simpa using this
      have GG := hide hG
      clear hq hG
      go_wp2_with fail
      have hmx : max p (-p) = (G : Int) := by have := GG.out; omega
      rw [hmx]
      have hG1 : (G : Int) ≤ 9223372036854775807 := by have := GG.out; omega
      clear hmx hqq
      refine (itoa_any G (by omega) hG1 B _ (HT.out.on IN.out.2 hB)).mono ?_
      rintro e w3 ⟨rfl, hb3⟩
      have HB3 := hide (IN.out.2.trans (hb3.mono IN.out.2.size))
      clear hb3
      go_wp2_with fail
      refine bodyPost_ret (results_tmp2 rfl _ _ _) rfl ?_
      exact ⟨rfl, HB3.out⟩
    · have hqq : (q != 0) = true := by simpa using hq0
      have hyq : (q == 0) = false := by simpa using hq0
      have hr := natAbs_tmod_lt p hq0
      have hgc : Nat.gcd q.natAbs (p.tmod q).natAbs = G := by
        rw [Int.natAbs_tmod, ← IN.out.1, Nat.gcd_comm q.natAbs, ← Nat.gcd_rec, Nat.gcd_comm]
      have GG := hide hgc
      clear hq0 hgc
      go_wp2_with fail
      go_quiet (fail)
      clear hyq hqq
      go_wp2_with fail
      go_roundw
      case rel => exact ⟨q, p.tmod q, rfl, rfl, hq, by omega, GG.out, ⟨IN.out.2.os, IN.out.2.tape, IN.out.2.output, IN.out.2.size, IN.out.2.block⟩⟩
      case measure => simpa [intOf] using hr
open Go.RowKit Go.KP Go.KI Go.Shelf
attribute [local go_sem] Oper.semAt_some

theorem Compare_good {s t : ByteArray} {x y : Int} (h1 : s.data.toList = Lib.itoa x) (h2 : t.data.toList = Lib.itoa y) (f1 : fits x) (f2 : fits y) (w : World) :
    Calls Tryz.prog 129 #[.string s, .string t] w (Ret w (.tuple #[.int .i64 (Lib.compareInt x y), .int .i64 0])) := by
  have c1 : chkI s.data.toList = 0 := by rw [h1]; exact chk_fits f1
  have c2 : chkI t.data.toList = 0 := by rw [h2]; exact chk_fits f2
  have b : bothI s.data.toList t.data.toList = 0 := by unfold bothI; rw [if_pos c1, c2]
  have l1 := (chk_digs c1).2
  have l2 := (chk_digs c2).2
  rw [bytes_len] at l1 l2
  have := Compare_any s t w (by omega) (by omega)
  rw [b] at this
  unfold cmpV at this
  rw [if_pos b, h1, h2, val_itoa, val_itoa] at this
  exact this
theorem Mul_good {s t : ByteArray} {x y : Int} (h1 : s.data.toList = Lib.itoa x) (h2 : t.data.toList = Lib.itoa y) (f1 : fits x) (f2 : fits y) (B : Nat) (w : World) (hB : B ≤ w.heap.size) (hT : P10 B w) :
    Calls Tryz.prog 132 #[.string s, .string t] w (Ret w (pairV (resS (x * y)) (resE (x * y)))) := by
  have c1 : chkI s.data.toList = 0 := by rw [h1]; exact chk_fits f1
  have c2 : chkI t.data.toList = 0 := by rw [h2]; exact chk_fits f2
  have b : bothI s.data.toList t.data.toList = 0 := by unfold bothI; rw [if_pos c1, c2]
  have l1 := (chk_digs c1).2
  have l2 := (chk_digs c2).2
  rw [bytes_len] at l1 l2
  obtain ⟨_, _, e1, e2⟩ := op2_good (f := (· * ·)) b
  have := Mul_any s t B w (by omega) (by omega) hB hT
  rw [e1, e2, h1, h2, val_itoa, val_itoa] at this
  exact this
abbrev pairT (r : ByteArray) : Value := .tuple #[.string r, .int .i64 0]
theorem strB_eq {r : ByteArray} {l : List UInt8} (h : r.data.toList = l) : strB l = r := bytes_eq (by rw [strB_list, h])
open Go.RowKit Go.KP Go.KI Go.Shelf
attribute [local go_sem] Oper.semAt_some

theorem itoa_nz {z : Int} (h : z ≠ 0) : Lib.itoa z ≠ [48] := fun e => h (itoa_inj (e.trans itoa_zero.symm))
abbrev tripT (q r : ByteArray) : Value := .tuple #[.string q, .string r, .int .i64 0]
theorem Divide_to {s t q r : ByteArray} {x y : Int} (h1 : s.data.toList = Lib.itoa x) (h2 : t.data.toList = Lib.itoa y) (h3 : q.data.toList = Lib.itoa (x.fdiv y)) (h4 : r.data.toList = Lib.itoa (x.fmod y)) (f1 : fits x) (f2 : fits y) (hy : y ≠ 0) (B : Nat) (w : World) (hB : B ≤ w.heap.size) (hT : P10 B w) :
    Calls Tryz.prog 179 #[.string s, .string t] w (Ret w (tripT q r)) := by
  have c1 : chkI s.data.toList = 0 := by rw [h1]; exact chk_fits f1
  have c2 : chkI t.data.toList = 0 := by rw [h2]; exact chk_fits f2
  have h0 : t.data.toList ≠ [48] := by rw [h2]; exact itoa_nz hy
  have e : Calls Tryz.prog 179 #[.string s, .string t] w (Ret w (tripV (Lib.itoa ((valI s.data.toList).fdiv (valI t.data.toList))) (Lib.itoa ((valI s.data.toList).fmod (valI t.data.toList))) 0)) := by
    by_cases hl : s.size ≤ 18 ∧ t.size ≤ 18
    · exact Divide_small s t B w c1 c2 hl.1 hl.2 h0 hB hT
    · exact Divide_long s t B w c1 c2 hl h0 hB hT
  rw [h1, h2, val_itoa, val_itoa, tripV, strB_eq h3, strB_eq h4] at e
  exact e
open Go.RowKit Go.KP Go.KI Go.Shelf
attribute [local go_sem] Oper.semAt_some

theorem valS_abs (m : Bool) (n : Nat) : (valS m n).natAbs = n := by cases m <;> simp [valS]
theorem field_limbs (m : Bool) (v : Value) (w : World) : (Instr.field 207 (numV m v) 1).run Tryz.prog w = .ok v w := by kernel_rfl
def limbsAt (w : World) : Value → List Nat
  | .slice (some ⟨b, o, none⟩) n _ => (List.range n).map fun i => match w.cell? ⟨b, o + i, none⟩ with
    | some (.int _ z) => z.toNat
    | _ => 0
  | _ => []
theorem limbsAt_eq {B : Nat} {w : World} {v : Value} {l : List Nat} (h : LimbAt B w v l) : limbsAt w v = l := by
  rcases h.cases with ⟨a, c, rfl, rfl⟩ | ⟨b, o, cap, rfl, _, hc⟩
  · unfold limbsAt
    split
    · rename_i h1
      injection h1 with h2 h3 h4
      rw [← h3]
      rfl
    · rfl
  · show (List.range l.length).map _ = l
    apply List.ext_getElem?
    intro i
    rw [List.getElem?_map]
    by_cases hi : i < l.length
    · rw [List.getElem?_range hi, lat_some hi]
      simp only [Option.map_some, hc i hi, Int.toNat_natCast]
    · rw [List.getElem?_eq_none (by simpa using hi), List.getElem?_eq_none (by omega)]
      rfl
theorem Gcd_long (s t : ByteArray) (B : Nat) (w : World) (c1 : chkI s.data.toList = 0) (c2 : chkI t.data.toList = 0) (hl : ¬ (s.size ≤ 18 ∧ t.size ≤ 18)) (hB : B ≤ w.heap.size) (hT : P10 B w) :
    Calls Tryz.prog 178 #[.string s, .string t] w (Ret w (pairV (resS ((Nat.gcd (valI s.data.toList).natAbs (valI t.data.toList).natAbs : Nat) : Int)) (resE ((Nat.gcd (valI s.data.toList).natAbs (valI t.data.toList).natAbs : Nat) : Int)))) := by
  have l1' := (chk_digs c1).2
  have l2' := (chk_digs c2).2
  rw [bytes_len] at l1' l2'
  have H1 := hide (both_any s t (by omega) (by omega) w)
  have hb0 : bothI s.data.toList t.data.toList = 0 := by unfold bothI; rw [if_pos c1, c2]
  rw [hb0] at H1
  have HT := hide hT
  have H2 := hide (fun w => small_no s t hl w)
  have R1 := hide (fun w => read_good s c1 w)
  have R2 := hide (fun w => read_good t c2 w)
  obtain ⟨G, hG⟩ : ∃ G, G = Nat.gcd (valI s.data.toList).natAbs (valI t.data.toList).natAbs := ⟨_, rfl⟩
  rw [← hG]
  have HG := hide hG
  clear c1 c2 hl hT hb0 l1' l2' hG
  go_enter Tryz.func178, Tryz.ntmps178
  go_wp2_with fail
  refine H1.out.mono ?_
  rintro e w1 ⟨rfl, hb1⟩
  have HB1 := hide hb1
  clear hb1 H1
  go_wp2_with fail
  refine (H2.out _).mono ?_
  rintro e w2 ⟨rfl, hb2⟩
  have HB2 := hide (HB1.out.trans (hb2.mono HB1.out.size))
  clear hb2 H2 HB1
  go_wp2_with fail
  refine (R1.out _).mono ?_
  rintro e w3 ⟨m1, a1, l1, rfl, hb3, o1, n1, q1, k1⟩
  have HB3 := hide (HB2.out.trans (hb3.mono HB2.out.size))
  have O1 := hide o1; have N1 := hide n1; have Q1 := hide q1
  obtain ⟨av1, cv1, hvf, _, _⟩ := o1.form
  subst hvf
  clear hb3 HB2 R1 o1 n1 q1
  have hf1 := fun w => field_limbs m1 (.slice av1 l1.length cv1) w
  go_wp2_with fail
  clear hf1
  refine (R2.out _).mono ?_
  rintro e w4 ⟨m2, a2, l2, rfl, hb4, o2, n2, q2, k2⟩
  have HB4 := hide (HB3.out.trans (hb4.mono HB3.out.size))
  have O1' := hide (O1.out.keep hb4)
  have O2 := hide o2; have N2 := hide n2; have Q2 := hide q2
  obtain ⟨av2, cv2, hvf, _, _⟩ := o2.form
  subst hvf
  clear hb4 HB3 R2 o2 n2 q2 O1
  have hf2 := fun w => field_limbs m2 (.slice av2 l2.length cv2) w
  have HG2 := hide (show Nat.gcd (lv 1000000000 l1) (lv 1000000000 l2) = G by
    rw [HG.out, ← Q1.out, ← Q2.out, valS_abs, valS_abs])
  go_wp2_with fail
  clear hf2
  go_loopw [10, 11] (fun p q wr => ∃ (ap : Option Addr) (cp : Nat) (aq : Option Addr) (cq : Nat) (x y : List Nat), p = .slice ap x.length cp ∧ q = .slice aq y.length cq ∧ x.length ≤ 40 ∧ y.length ≤ 40 ∧ Hid (LimbAt wr.heap.size wr (.slice ap x.length cp) x ∧ LimbAt wr.heap.size wr (.slice aq y.length cq) y ∧ Norm 1000000000 x ∧ Norm 1000000000 y ∧ Nat.gcd (lv 1000000000 x) (lv 1000000000 y) = G ∧ Below w.heap.size w wr)) (fun _ q wr => lv 1000000000 (limbsAt wr q))
  case atStart => exact ⟨av1, cv1, av2, cv2, l1, l2, rfl, rfl, k1, k2, LimbAt.of_own O1'.out, LimbAt.of_own O2.out, N1.out, N2.out, HG2.out, HB4.out⟩
  case round =>
    clear k1 k2
    obtain ⟨ap, cp, aq, cq, x, y, rfl, rfl, hx, hy, hin⟩ := hrel
    have I1 := hide hin.out.1; have I2 := hide hin.out.2.1; have N3 := hide hin.out.2.2.1; have N4 := hide hin.out.2.2.2.1; have GG := hide hin.out.2.2.2.2.1; have HBW := hide hin.out.2.2.2.2.2
    clear hin
    by_cases hy0 : y = []
    · subst hy0
      have hz : valS false (lv 1000000000 x) = (G : Int) := by
        have := GG.out
        rw [lv_nil, Nat.gcd_zero_right] at this
        rw [this]
        rfl
      have HR := hide (result_any false (.slice ap x.length cp) x wr.heap.size wr I1.out (Nat.le_refl _) N3.out (by omega) ((HT.out.on HBW.out hB).mono (Nat.le_trans hB HBW.out.size)))
      rw [hz] at HR
      clear hz
      go_wp2_with fail
      refine HR.out.mono ?_
      rintro e w5 ⟨rfl, hb5⟩
      have HB5 := hide (HBW.out.trans (hb5.mono HBW.out.size))
      clear hb5 HR
      go_wp2_with fail
      refine bodyPost_ret (results_tmp2 rfl _ _ _) rfl ?_
      exact ⟨rfl, HB5.out⟩
    · have hyl : 0 < (y.length : Int) := by
        have := List.length_pos_iff.2 hy0
        omega
      have HD := hide (divide_any (.slice ap x.length cp) (.slice aq y.length cq) x y wr.heap.size wr I1.out I2.out (Nat.le_refl _) N3.out N4.out hy0 (by omega) (by omega))
      have hyp : 0 < lv 1000000000 y := by
        rcases Nat.eq_zero_or_pos (lv 1000000000 y) with h | h
        · exact absurd ((N4.out.zero (by omega)).1 h) hy0
        · exact h
      have HYP := hide hyp
      clear hy0 hyp
      go_wp2_with fail
      refine HD.out.mono ?_
      rintro e w5 ⟨vq, vr, q, r, rfl, hb5, oq, or_, nq, nr, eq, er, lq, lr⟩
      obtain ⟨ar, cr, hvf⟩ := or_.form
      subst hvf
      have hrlt : lv 1000000000 r < lv 1000000000 y := by rw [er]; exact Nat.mod_lt _ HYP.out
      have hrl : r.length ≤ 40 := by
        have := norm_le nr N4.out.lt (Nat.le_of_lt hrlt)
        omega
      have HB5 := hide (HBW.out.trans (hb5.mono HBW.out.size))
      have J2 := hide ((I2.out.below hb5 (Nat.le_refl _)).mono hb5.size)
      have HE := hide (show Nat.gcd (lv 1000000000 y) (lv 1000000000 r) = G by rw [er, ← GG.out, Nat.gcd_comm (lv 1000000000 y), ← Nat.gcd_rec, Nat.gcd_comm])
      have OR := hide or_; have NR := hide nr; have HLT := hide hrlt
      clear hb5 oq or_ nq nr eq er lq lr HD hrlt
      go_wp2_with fail
      go_roundw
      case rel => exact ⟨aq, cq, ar, cr, y, r, rfl, rfl, hy, hrl, J2.out, OR.out, N4.out, NR.out, HE.out, HB5.out⟩
      case measure =>
        rw [limbsAt_eq OR.out, limbsAt_eq I2.out]
        exact HLT.out
theorem Gcd_to {s t r : ByteArray} {x y : Int} (h1 : s.data.toList = Lib.itoa x) (h2 : t.data.toList = Lib.itoa y) (h3 : r.data.toList = Lib.itoa ((Nat.gcd x.natAbs y.natAbs : Nat) : Int)) (f1 : fits x) (f2 : fits y) (B : Nat) (w : World) (hB : B ≤ w.heap.size) (hT : P10 B w) :
    Calls Tryz.prog 178 #[.string s, .string t] w (Ret w (pairT r)) := by
  have c1 : chkI s.data.toList = 0 := by rw [h1]; exact chk_fits f1
  have c2 : chkI t.data.toList = 0 := by rw [h2]; exact chk_fits f2
  have ff : fits ((Nat.gcd x.natAbs y.natAbs : Nat) : Int) := by
    rcases Nat.eq_zero_or_pos x.natAbs with h0 | h0
    · rw [h0, Nat.gcd_zero_left]
      exact fits_of_le f2 (by omega)
    · exact fits_of_le f1 (by rw [Int.natAbs_natCast]; exact Nat.gcd_le_left _ h0)
  by_cases hl : s.size ≤ 18 ∧ t.size ≤ 18
  · have e := Gcd_small s t B w c1 c2 hl.1 hl.2 hB hT
    rw [h1, h2, val_itoa, val_itoa, pairV, strB_eq h3] at e
    exact e
  · have e := Gcd_long s t B w c1 c2 hl hB hT
    rw [h1, h2, val_itoa, val_itoa, pairV, (res_fit ff).1, (res_fit ff).2, strB_eq h3] at e
    exact e
open Go.RowKit Go.KP Go.KI Go.Shelf
attribute [local go_sem] Oper.semAt_some

theorem digs_drop (l : List UInt8) : digs l = l.drop (if l.head? = some 45 then 1 else 0) := by
  cases l with
  | nil => rfl
  | cons c r =>
    by_cases h : c = 45
    · simp [digs, h]
    · simp [digs, h]
open Go.RowKit Go.KP Go.KI Go.Shelf
attribute [local go_sem] Oper.semAt_some

def cutV (l : List UInt8) : Value := if cutOK l then .tuple #[partsV (strB (numT l)) (strB (denS l)), .bool true] else .tuple #[partsV ⟨#[]⟩ ⟨#[]⟩, .bool false]
theorem cut_ways1 (l : List UInt8) (O : ByteArray) (hO : O.data.toList = digs (numT l)) (k : Nat) (hk : k = digN (digs (numT l))) (neg : Bool) (hneg : neg = decide ((numT l).head? = some 45)) :
    ((((k : Int) == 0) = true ∧ ¬ cutOK l) ∨ (((k : Int) == 0) = false ∧ (k : Int) < (O.size : Int) ∧ ¬ cutOK l) ∨
      (((k : Int) == 0) = false ∧ ((k : Int) < (O.size : Int)) = False ∧ neg = true ∧ (O.toList == [48]) = true ∧ ¬ cutOK l)) ∨
    ((((k : Int) == 0) = false ∧ ((k : Int) < (O.size : Int)) = False ∧ neg = true ∧ (O.toList == [48]) = false ∧ chkI (numT l) ≠ 11) ∨
      (((k : Int) == 0) = false ∧ ((k : Int) < (O.size : Int)) = False ∧ neg = false ∧ chkI (numT l) ≠ 11)) := by
  have h11 := chkI_11 (numT l)
  have hdn := digN_numeral (digs (numT l))
  have hno : chkI (numT l) = 11 → ¬ cutOK l := fun h hc => hc (.inl h)
  have hsz : O.size = (digs (numT l)).length := by rw [← bytes_len, hO]
  rw [← hk] at hdn
  obtain ⟨z1, z2⟩ := beq0 (k := k)
  obtain ⟨t1, t2⟩ := lit_eq (m := [48]) hO
  by_cases h0 : k = 0
  · exact .inl (.inl ⟨z1 h0, hno (h11.2 (.inl (hdn.1 (.inl h0))))⟩)
  · by_cases hl : k < (digs (numT l)).length
    · exact .inl (.inr (.inl ⟨z2 h0, by omega, hno (h11.2 (.inl (hdn.1 (.inr hl))))⟩))
    · have hf : ((k : Int) < (O.size : Int)) = False := eq_false (by omega)
      have hnum : ¬ ¬ numeral (digs (numT l)) := fun e => by
        rcases hdn.2 e with e1 | e1
        · exact h0 e1
        · exact hl e1
      by_cases hn : (numT l).head? = some 45
      · have hn1 : neg = true := by rw [hneg, hn]; rfl
        by_cases h48 : digs (numT l) = [48]
        · exact .inl (.inr (.inr ⟨z2 h0, hf, hn1, t1 h48, hno (h11.2 (.inr ⟨hn, h48⟩))⟩))
        · refine .inr (.inl ⟨z2 h0, hf, hn1, t2 h48, fun e => ?_⟩)
          rcases h11.1 e with e1 | e1
          · exact hnum e1
          · exact h48 e1.2
      · refine .inr (.inr ⟨z2 h0, hf, by rw [hneg]; simpa using hn, fun e => ?_⟩)
        rcases h11.1 e with e1 | e1
        · exact hnum e1
        · exact hn e1.1
theorem cut_ways2 (l : List UInt8) (h47 : 47 ∈ l) (hc : chkI (numT l) ≠ 11) (D : ByteArray) (hD : D.data.toList = denT l) (k : Nat) (hk : k = digN (denT l)) :
    ((((k : Int) == 0) = true ∧ ¬ cutOK l) ∨ (((k : Int) == 0) = false ∧ (k : Int) < (D.size : Int) ∧ ¬ cutOK l) ∨
      (((k : Int) == 0) = false ∧ ((k : Int) < (D.size : Int)) = False ∧ (D.toList == [48]) = true ∧ ¬ cutOK l) ∨
      (((k : Int) == 0) = false ∧ ((k : Int) < (D.size : Int)) = False ∧ (D.toList == [48]) = false ∧ (D.toList == [49]) = true ∧ ¬ cutOK l)) ∨
      (((k : Int) == 0) = false ∧ ((k : Int) < (D.size : Int)) = False ∧ (D.toList == [48]) = false ∧ (D.toList == [49]) = false ∧ cutOK l) := by
  have hdn := digN_numeral (denT l)
  have hsz : D.size = (denT l).length := by rw [← bytes_len, hD]
  rw [← hk] at hdn
  obtain ⟨z1, z2⟩ := beq0 (k := k)
  obtain ⟨t1, t2⟩ := lit_eq (m := [48]) hD
  obtain ⟨u1, u2⟩ := lit_eq (m := [49]) hD
  by_cases h0 : k = 0
  · exact .inl (.inl ⟨z1 h0, fun h => h (.inr ⟨h47, .inl (hdn.1 (.inl h0))⟩)⟩)
  · by_cases hl : k < (denT l).length
    · exact .inl (.inr (.inl ⟨z2 h0, by omega, fun h => h (.inr ⟨h47, .inl (hdn.1 (.inr hl))⟩)⟩))
    · have hf : ((k : Int) < (D.size : Int)) = False := eq_false (by omega)
      have hnum : ¬ ¬ numeral (denT l) := fun e => by
        rcases hdn.2 e with e1 | e1
        · exact h0 e1
        · exact hl e1
      by_cases h48 : denT l = [48]
      · exact .inl (.inr (.inr (.inl ⟨z2 h0, hf, t1 h48, fun h => h (.inr ⟨h47, .inr (.inl h48)⟩)⟩)))
      · by_cases h49 : denT l = [49]
        · exact .inl (.inr (.inr (.inr ⟨z2 h0, hf, t2 h48, u1 h49, fun h => h (.inr ⟨h47, .inr (.inr h49)⟩)⟩)))
        · refine .inr ⟨z2 h0, hf, t2 h48, u2 h49, ?_⟩
          rintro (h | ⟨_, h | h | h⟩)
          · exact hc h
          · exact hnum h
          · exact h48 h
          · exact h49 h
theorem qcut_any (s : ByteArray) (hs : s.size ≤ 1000000) (B : Nat) (w : World) (hB : B ≤ w.heap.size) (hT : PQ B w) :
    Calls Tryz.prog 183 #[.string s] w (Ret w (cutV s.data.toList)) := by
  have H0 := hide (heap1 w (partsO ⟨#[]⟩ ⟨#[]⟩))
  have hTT := hide (hT.on H0.out.2.2 hB)
  have nle : (numT s.data.toList).length ≤ s.size := by
    rw [← bytes_len]
    exact List.Sublist.length_le (List.takeWhile_sublist _)
  have dle : (denT s.data.toList).length ≤ s.size := by
    have h1 : (denT s.data.toList).length ≤ (s.data.toList.dropWhile (fun c => c != 47)).length := by
      unfold denT
      rw [List.length_drop]
      omega
    have h2 := List.Sublist.length_le (List.dropWhile_sublist (l := s.data.toList) (fun c => c != 47))
    rw [bytes_len] at h2
    omega
  have ole : (digs (numT s.data.toList)).length ≤ s.size := by rw [digs_drop, List.length_drop]; omega
  have HC := hide (scut_any 47 s hs B _ hTT.out)
  obtain ⟨n, hn⟩ : ∃ n, n = strB (numT s.data.toList) := ⟨_, rfl⟩
  have HC : Hid (Calls Tryz.prog 219 #[.string s, .string ⟨#[47]⟩] (w.alloc (partsO ⟨#[]⟩ ⟨#[]⟩)) (Ret (w.alloc (partsO ⟨#[]⟩ ⟨#[]⟩)) (.tuple #[.string n, .string (strB (if 47 ∈ s.data.toList then denT s.data.toList else [])), .bool (decide (47 ∈ s.data.toList))]))) := hide (by rw [hn]; exact HC.out)
  have HP := hide (fun w => cutPrefix_any n w)
  have hnl : n.data.toList = numT s.data.toList := by rw [hn, strB_list]
  rw [hnl] at HP
  obtain ⟨O, hO⟩ : ∃ O, O = strB (digs (numT s.data.toList)) := ⟨_, rfl⟩
  rw [← hO] at HP
  have hOl : O.data.toList = digs (numT s.data.toList) := by rw [hO, strB_list]
  have hOs : O.size ≤ 1000000 := by rw [← bytes_len, hOl]; omega
  obtain ⟨neg, hneg⟩ : ∃ neg, neg = decide ((numT s.data.toList).head? = some 45) := ⟨_, rfl⟩
  rw [← hneg] at HP
  obtain ⟨k, hk⟩ : ∃ k, k = digN (digs (numT s.data.toList)) := ⟨_, rfl⟩
  have HD := hide (fun w => qdigits_any O hOs w)
  rw [hOl, ← hk] at HD
  have hks : k ≤ 1000000 := by have := digN_le (digs (numT s.data.toList)); omega
  have hw1 := cut_ways1 s.data.toList O hOl k hk neg hneg
  have HNE := hide hn
  have HF := hide (fun (h : ¬ cutOK s.data.toList) => show cutV s.data.toList = .tuple #[partsV ⟨#[]⟩ ⟨#[]⟩, .bool false] from if_neg h)
  have HT := hide (fun (h : cutOK s.data.toList) => show cutV s.data.toList = .tuple #[partsV n (strB (denS s.data.toList)), .bool true] by rw [hn]; exact if_pos h)
  obtain ⟨V, hV⟩ : ∃ V, V = cutV s.data.toList := ⟨_, rfl⟩
  rw [← hV] at HF HT ⊢
  clear hn hnl hO hOl hneg hk hV hT
  have hw2 : (¬ 47 ∈ s.data.toList) ∨ 47 ∈ s.data.toList := by
    by_cases h : 47 ∈ s.data.toList
    · exact .inr h
    · exact .inl h
  rcases hw1 with hbad | hgood
  · obtain ⟨is, his⟩ : ∃ is, is = decide (47 ∈ s.data.toList) := ⟨_, rfl⟩
    obtain ⟨dd, hdd⟩ : ∃ dd, dd = strB (if 47 ∈ s.data.toList then denT s.data.toList else []) := ⟨_, rfl⟩
    rw [← his, ← hdd] at HC
    clear his hdd hw2
    rcases hbad with ⟨h1, h2⟩ | ⟨h1, h3, h2⟩ | ⟨h1, h3, h4, h5, h2⟩
    case' inr.inr => subst h4
    all_goals
      have HE := hide (HF.out h2)
      clear h2
      go_enter Tryz.func183, Tryz.ntmps183
      go_wp2_with fail
      refine HC.out.mono ?_
      rintro e w1 ⟨rfl, hb1⟩
      have G1 := hide (below_blk hb1 H0.out.1 (lt_blk H0.out.1))
      have HB1 := hide (H0.out.2.2.trans (hb1.mono H0.out.2.2.size))
      clear hb1
      go_wp2_with fail
      refine (HP.out _).mono ?_
      rintro e w1' ⟨rfl, rfl⟩
      go_wp2_with fail
      refine (HD.out _).mono ?_
      rintro e w2 ⟨rfl, hb2⟩
      have G2 := hide (below_blk hb2 G1.out (lt_blk G1.out))
      have HB2 := hide (HB1.out.trans (hb2.mono HB1.out.size))
      have f0 := froz_blk G2.out 0
      have f1 := froz_blk G2.out 1
      have c0 := cell_blk G2.out 0
      have c1 := cell_blk G2.out 1
      clear hb2
      go_wp2_with fail
      refine exit_cutSet G2.out (by rfl) (by rfl) (by rfl) (fun hb => ?_)
      rw [HE.out]
      exact ⟨rfl, HB2.out.trans hb⟩
  · rcases hw2 with h47 | h47
    · have h47d : decide (47 ∈ s.data.toList) = false := by simpa using h47
      have HDS := hide (show strB (denS s.data.toList) = ⟨#[49]⟩ by unfold denS; rw [if_neg h47]; rfl)
      have hok : chkI (numT s.data.toList) ≠ 11 → cutOK s.data.toList := fun h => by
        rintro (h1 | h1)
        · exact h h1
        · exact h47 h1.1
      rw [h47d] at HC
      obtain ⟨dd, hdd⟩ : ∃ dd, dd = strB (if 47 ∈ s.data.toList then denT s.data.toList else []) := ⟨_, rfl⟩
      rw [← hdd] at HC
      clear hdd h47 h47d
      rcases hgood with ⟨h1, h3, h4, h5, h2⟩ | ⟨h1, h3, h4, h2⟩
      all_goals
        subst h4
        have HE := hide (HT.out (hok h2))
        clear h2 hok
        go_enter Tryz.func183, Tryz.ntmps183
        go_wp2_with fail
        refine HC.out.mono ?_
        rintro e w1 ⟨rfl, hb1⟩
        have G1 := hide (below_blk hb1 H0.out.1 (lt_blk H0.out.1))
        have HB1 := hide (H0.out.2.2.trans (hb1.mono H0.out.2.2.size))
        clear hb1
        go_wp2_with fail
        refine (HP.out _).mono ?_
        rintro e w1' ⟨rfl, rfl⟩
        go_wp2_with fail
        refine (HD.out _).mono ?_
        rintro e w2 ⟨rfl, hb2⟩
        have G2 := hide (below_blk hb2 G1.out (lt_blk G1.out))
        have HB2 := hide (HB1.out.trans (hb2.mono HB1.out.size))
        have f0 := froz_blk G2.out 0
        have f1 := froz_blk G2.out 1
        have c0 := cell_blk G2.out 0
        have c1 := cell_blk G2.out 1
        clear hb2
        go_wp2_with fail
        refine exit_cutSet G2.out (by rfl) (by rfl) (by rfl) (fun hb => ?_)
        rw [HE.out, HDS.out]
        exact ⟨rfl, HB2.out.trans hb⟩
    · have h47d : decide (47 ∈ s.data.toList) = true := by simpa using h47
      obtain ⟨D, hD⟩ : ∃ D, D = strB (denT s.data.toList) := ⟨_, rfl⟩
      have hDl : D.data.toList = denT s.data.toList := by rw [hD, strB_list]
      have hDs : D.size ≤ 1000000 := by rw [← bytes_len, hDl]; omega
      rw [h47d, if_pos h47, ← hD] at HC
      obtain ⟨k2, hk2⟩ : ∃ k, k = digN (denT s.data.toList) := ⟨_, rfl⟩
      have HD2 := hide (fun w => qdigits_any D hDs w)
      rw [hDl, ← hk2] at HD2
      have hks2 : k2 ≤ 1000000 := by have := digN_le (denT s.data.toList); omega
      have HDS := hide (show strB (denS s.data.toList) = D by unfold denS; rw [if_pos h47, hD])
      have hw3 := fun hc => cut_ways2 s.data.toList h47 hc D hDl k2 hk2
      clear hD hDl h47 h47d hk2
      rcases hgood with ⟨h1, h3, h4, h5, h2⟩ | ⟨h1, h3, h4, h2⟩
      all_goals
        subst h4
        rcases hw3 h2 with (⟨g1, g2⟩ | ⟨g1, g3, g2⟩ | ⟨g1, g3, g4, g2⟩ | ⟨g1, g3, g4, g5, g2⟩) | ⟨g1, g3, g4, g5, g2⟩
      all_goals
        have HG := hide g2
        clear g2 hw3
        go_enter Tryz.func183, Tryz.ntmps183
        go_wp2_with fail
        refine HC.out.mono ?_
        rintro e w1 ⟨rfl, hb1⟩
        have G1 := hide (below_blk hb1 H0.out.1 (lt_blk H0.out.1))
        have HB1 := hide (H0.out.2.2.trans (hb1.mono H0.out.2.2.size))
        clear hb1
        go_wp2_with fail
        refine (HP.out _).mono ?_
        rintro e w1' ⟨rfl, rfl⟩
        go_wp2_with fail
        refine (HD.out _).mono ?_
        rintro e w2 ⟨rfl, hb2⟩
        have G2 := hide (below_blk hb2 G1.out (lt_blk G1.out))
        have HB2 := hide (HB1.out.trans (hb2.mono HB1.out.size))
        have f0 := froz_blk G2.out 0
        have f1 := froz_blk G2.out 1
        have c0 := cell_blk G2.out 0
        have c1 := cell_blk G2.out 1
        clear hb2
        go_wp2_with fail
        clear c0 c1 f0 f1
        refine (HD2.out _).mono ?_
        rintro e w3 ⟨rfl, hb3⟩
        have G3 := hide (below_blk hb3 G2.out (lt_blk G2.out))
        have HB3 := hide (HB2.out.trans (hb3.mono HB2.out.size))
        have f0 := froz_blk G3.out 0
        have f1 := froz_blk G3.out 1
        have c0 := cell_blk G3.out 0
        have c1 := cell_blk G3.out 1
        clear hb3
        go_wp2_with fail
        refine exit_cutSet G3.out (by rfl) (by rfl) (by rfl) (fun hb => ?_)
        first
          | (rw [HF.out HG.out]
             exact ⟨rfl, HB3.out.trans hb⟩)
          | (rw [HT.out HG.out, HDS.out]
             exact ⟨rfl, HB3.out.trans hb⟩)
end Go.Proofs.YtklgpilgalfckaaGreatDoor
