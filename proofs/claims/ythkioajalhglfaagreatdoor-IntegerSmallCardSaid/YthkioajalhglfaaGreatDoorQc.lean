/-
  Integers: divide walked: its state, its plain laws.
-/
import Derived.Test.YthkioajalhglfaaGreatDoorQb
namespace Go.Proofs.YthkioajalhglfaaGreatDoor
open Go.RowKit Go.KP Go.KI Go.Shelf
attribute [local go_sem] Oper.semAt_some

/-- The blocks of divide, and where they lie. -/
structure DvIx (h gu gv h7 : Nat) : Prop where
  a : h < gu
  b : gu < gv
  c : gv < h7
structure DvSt (w : World) (gu cu gv cv h7 N n M : Nat) (L V Q : List Nat) (W : World) : Prop where
  qv : W.heap[w.heap.size]? = some (.cells #[.slice (some ⟨h7 + 1 + 1, 0, none⟩) M M] 46 (0, 0))
  uv : W.heap[h7]? = some (.cells #[.slice (some ⟨gu, 0, none⟩) N cu] 46 (0, 0))
  vv : W.heap[h7 + 1]? = some (.cells #[.slice (some ⟨gv, 0, none⟩) n cv] 46 (0, 0))
  bx : W.heap[h7 + 1 + 1 + 1]? = some (.cells #[.slice (some ⟨h7 + 1 + 1, 0, none⟩) M M] 46 (0, 0))
  u : RowAt W gu cu L
  v : RowAt W gv cv V
  q : W.heap[h7 + 1 + 1]? = some (rowO Q)
  below : Below w.heap.size w W
theorem RowAt.of_eq {W W2 : World} {g c : Nat} {L : List Nat} (h : RowAt W g c L) (e : W2.heap[g]? = W.heap[g]?) : RowAt W2 g c L := by
  obtain ⟨cur, h1, h2⟩ := h
  exact ⟨cur, e.trans h1, h2⟩
section
variable {w : World} {gu cu gv cv h7 N n M : Nat} {L V Q : List Nat} {W W2 : World}
theorem DvSt.quiet (h : DvSt w gu cu gv cv h7 N n M L V Q W) (ix : DvIx w.heap.size gu gv h7) {B : Nat} {S : Nat → Prop} (hq : Quiet B S W W2) (hB : h7 + 4 ≤ B) : DvSt w gu cu gv cv h7 N n M L V Q W2 := by
  have a := ix.a; have b := ix.b; have c := ix.c
  exact ⟨hq.at_ h.qv (.inl (by omega)), hq.at_ h.uv (.inl (by omega)), hq.at_ h.vv (.inl (by omega)), hq.at_ h.bx (.inl (by omega)), h.u.of_eq (hq.block _ (.inl (by omega)) h.u.lt), h.v.of_eq (hq.block _ (.inl (by omega)) h.v.lt), hq.at_ h.q (.inl (by omega)), Quiet.below h.below hq (by omega) h.below.size⟩
theorem DvSt.keep (h : DvSt w gu cu gv cv h7 N n M L V Q W) (hb : Below W.heap.size W W2) : DvSt w gu cu gv cv h7 N n M L V Q W2 :=
  ⟨below_blk hb h.qv (lt_blk h.qv), below_blk hb h.uv (lt_blk h.uv), below_blk hb h.vv (lt_blk h.vv), below_blk hb h.bx (lt_blk h.bx), h.u.below hb h.u.lt, h.v.below hb h.v.lt, below_blk hb h.q (lt_blk h.q), h.below.trans (hb.mono h.below.size)⟩
theorem DvSt.row {L2 : List Nat} (h : DvSt w gu cu gv cv h7 N n M L V Q W) (ix : DvIx w.heap.size gu gv h7) (k : Only gu W W2) (hr : RowAt W2 gu cu L2) : DvSt w gu cu gv cv h7 N n M L2 V Q W2 := by
  have a := ix.a; have b := ix.b; have c := ix.c
  exact ⟨(k.block _ (by omega) (lt_blk h.qv)).trans h.qv, (k.block _ (by omega) (lt_blk h.uv)).trans h.uv, (k.block _ (by omega) (lt_blk h.vv)).trans h.vv, (k.block _ (by omega) (lt_blk h.bx)).trans h.bx, hr, h.v.only k (by omega), (k.block _ (by omega) (lt_blk h.q)).trans h.q, Only.below h.below k (by omega) h.below.size⟩
theorem DvSt.same (h : DvSt w gu cu gv cv h7 N n M L V Q W) (ix : DvIx w.heap.size gu gv h7) : DvSt w gu cu gv cv h7 N n M L V Q (W.setCell ⟨h7, 0, none⟩ (.slice (some ⟨gu, 0, none⟩) N cu)) := by
  have a := ix.a; have b := ix.b; have c := ix.c
  exact ⟨(setCell_other (by omega)).trans h.qv, Boxed.set _ h.uv, (setCell_other (by omega)).trans h.vv, (setCell_other (by omega)).trans h.bx, h.u.of_eq (setCell_other (by omega)), h.v.of_eq (setCell_other (by omega)), (setCell_other (by omega)).trans h.q, h.below.setCell (p := ⟨h7, 0, none⟩) (by simp; omega) _⟩
theorem DvSt.quot (h : DvSt w gu cu gv cv h7 N n M L V Q W) (ix : DvIx w.heap.size gu gv h7) (j q : Nat) : DvSt w gu cu gv cv h7 N n M L V (Q.set j q) (W.setCell ⟨h7 + 1 + 1, j, none⟩ (.int .i64 q)) := by
  have a := ix.a; have b := ix.b; have c := ix.c
  exact ⟨(setCell_other (by omega)).trans h.qv, (setCell_other (by omega)).trans h.uv, (setCell_other (by omega)).trans h.vv, (setCell_other (by omega)).trans h.bx, h.u.of_eq (setCell_other (by omega)), h.v.of_eq (setCell_other (by omega)), row_set h.q j q, h.below.setCell (p := ⟨h7 + 1 + 1, j, none⟩) (by simp; omega) _⟩
theorem DvSt.drewN (h : DvSt w gu cu gv cv h7 N n M L V Q W) (m : Nat) : DvSt w gu cu gv cv h7 N n M L V Q (W.drewN m) := ⟨h.qv, h.uv, h.vv, h.bx, h.u, h.v, h.q, ⟨h.below.os, h.below.tape, h.below.output, h.below.size, h.below.block⟩⟩
end
theorem Only.upd {g B : Nat} {S : Nat → Prop} {a w w2 : World} (h : Upd B S S a w) (k : Only g w w2) (hg : g < B) : Upd B S S a w2 :=
  h.trans ⟨k.size, fun b hB hl hs => ⟨k.block b (by omega) hl, hs⟩⟩

/-- The long division, k limbs of the quotient laid: what is left lies in L, the quotient in Q. -/
structure LongAt (U : Nat) (V : List Nat) (N M k : Nat) (L Q : List Nat) : Prop where
  ll : L.length = N
  lt : Lt 1000000000 L
  lq : Q.length = M
  qt : Lt 1000000000 Q
  zero : ∀ i, i < M - k → lat Q i = 0
  small : lv 1000000000 (L.drop (M - k)) < lv 1000000000 V
  val : lvT 1000000000 L (M - k) + 1000000000 ^ (M - k) * (lv 1000000000 (L.drop (M - k)) + lv 1000000000 V * lv 1000000000 (Q.drop (M - k))) = U
/-- One limb of the quotient. -/
theorem LongAt.step {U : Nat} {V L Q L2 : List Nat} {N M k j q m : Nat} (h : LongAt U V N M k L Q) (hV : Norm 1000000000 V) (hm : V.length = m + 2) (hN : N = M + (m + 2)) (hk : k < M) (hj : j = M - 1 - k) (hq : q < 1000000000) (hw : WinEq j (m + 3) L L2) (hL2 : Lt 1000000000 L2)
    (he : lvT 1000000000 (L2.drop j) (m + 3) + q * lv 1000000000 V = lvT 1000000000 (L.drop j) (m + 3)) (hs : lvT 1000000000 (L.drop j) (m + 3) < (q + 1) * lv 1000000000 V) : LongAt U V N M (k + 1) L2 (Q.set j q) := by
  have e1 : M - (k + 1) = j := by omega
  have e2 : M - k = j + 1 := by omega
  have hsm := h.small; have hval := h.val
  rw [e2] at hsm hval
  have hjL : j < L.length := by rw [h.ll]; omega
  have hjQ : j < Q.length := by rw [h.lq]; omega
  obtain ⟨hin, hcut⟩ := EstIn.of (b := 1000000000) (by omega) h.lt hV hm (j := j) (by rw [h.ll]; omega) hsm
  have hVl : lv 1000000000 V < 1000000000 ^ (m + 2) := by rw [← hm]; exact lv_lt hV.lt
  have hz := high_zero (b := 1000000000) (l := L.drop (j + 1)) (n := m + 2) (by rw [List.length_drop, h.ll]; omega) hsm (Nat.le_of_lt hVl)
  have hcut2 := lv_cut 1000000000 (L2.drop j) (m + 3) (by rw [List.length_drop, hw.len, h.ll]; omega)
  have hd : (L2.drop j).drop (m + 3) = (L.drop (j + 1)).drop (m + 2) := by
    rw [List.drop_drop, hw.high, List.drop_drop]
    congr 1
    omega
  rw [hd, hz.1, Nat.mul_zero, Nat.add_zero] at hcut2
  have hdrop : lv 1000000000 (L.drop j) = lat L j + 1000000000 * lv 1000000000 (L.drop (j + 1)) := by
    rw [List.drop_eq_getElem_cons hjL, lat_at hjL]
    rfl
  have hQd : (Q.set j q).drop j = q :: Q.drop (j + 1) := by
    rw [List.drop_eq_getElem_cons (by rw [List.length_set]; exact hjQ), List.getElem_set_self, List.drop_set_of_lt (by omega)]
  refine ⟨hw.len.trans h.ll, hL2, by rw [List.length_set]; exact h.lq, lt_set h.qt hq, ?_, ?_, ?_⟩
  · intro i hi
    rw [e1] at hi
    rw [lat_set hjQ, if_neg (by omega)]
    exact h.zero i (by omega)
  · rw [e1, hcut2]
    have : (q + 1) * lv 1000000000 V = q * lv 1000000000 V + lv 1000000000 V := by rw [Nat.add_mul, Nat.one_mul]
    omega
  · rw [e1, hQd, hcut2]
    have hlow : lvT 1000000000 L2 j = lvT 1000000000 L j := by unfold lvT; rw [hw.low]
    rw [hlow]
    have hr := round_div (b := 1000000000) (j := j) (V := lv 1000000000 V) (U := U) (S := lv 1000000000 (L.drop (j + 1))) (S2 := lvT 1000000000 (L2.drop j) (m + 3)) (q := q) (Q := lv 1000000000 (Q.drop (j + 1))) hval (lat L j) (by
      rw [← hdrop, hcut, ← he, Nat.mul_comm q]) (lvT 1000000000 L j) (by rw [lvT_succ])
    exact hr
theorem LongAt.done {U : Nat} {V L Q : List Nat} {N M : Nat} (h : LongAt U V N M M L Q) : lv 1000000000 L + lv 1000000000 V * lv 1000000000 Q = U ∧ lv 1000000000 L < lv 1000000000 V := by
  have h1 := h.val; have h2 := h.small
  rw [Nat.sub_self, List.drop_zero] at h2
  rw [Nat.sub_self, List.drop_zero, List.drop_zero, lvT_zero, Nat.pow_zero, Nat.one_mul, Nat.zero_add] at h1
  exact ⟨h1, h2⟩
/-- What the long division begins with. -/
theorem long_start {x y u v : List Nat} {f : Nat} (hx : Norm 1000000000 x) (hy : Norm 1000000000 y) (hu : Norm 1000000000 u) (hv : Norm 1000000000 v) (hf : 1 ≤ f) (eu : lv 1000000000 u = lv 1000000000 x * f) (ev : lv 1000000000 v = lv 1000000000 y * f) (hle : lv 1000000000 y ≤ lv 1000000000 x) (hy2 : 2 ≤ y.length) :
    2 ≤ v.length ∧ v.length ≤ u.length ∧ x.length ≤ u.length ∧ LongAt (lv 1000000000 u) v (u.length + 1) (u.length + 1 - v.length) 0 (u ++ [0]) (zeros (u.length + 1 - v.length)) := by
  have hxy : lv 1000000000 y * f ≤ lv 1000000000 x * f := Nat.mul_le_mul_right f hle
  have len_le : ∀ {p q : List Nat}, Norm 1000000000 p → Lt 1000000000 q → lv 1000000000 p ≤ lv 1000000000 q → p.length ≤ q.length := by
    intro p q hp hq h
    rcases Nat.lt_or_ge q.length p.length with h1 | h1
    · have := norm_len_lt (b := 1000000000) (by omega) hq hp h1
      omega
    · exact h1
  have h1 : lv 1000000000 y ≤ lv 1000000000 v := by
    rw [ev]
    have : lv 1000000000 y * 1 ≤ lv 1000000000 y * f := Nat.mul_le_mul_left _ hf
    omega
  have h2 : lv 1000000000 x ≤ lv 1000000000 u := by
    rw [eu]
    have : lv 1000000000 x * 1 ≤ lv 1000000000 x * f := Nat.mul_le_mul_left _ hf
    omega
  have l1 := len_le hy hv.lt h1
  have l2 := len_le hx hu.lt h2
  have l3 := len_le hv hu.lt (by rw [ev, eu]; exact hxy)
  refine ⟨by omega, l3, l2, ⟨by simp, ?_, zeros_len _, zeros_lt _ _ (by omega), ?_, ?_, ?_⟩⟩
  · intro z hz
    rcases List.mem_append.1 hz with h | h
    · exact hu.lt z h
    · simp at h
      omega
  · intro i _
    unfold lat zeros
    rw [List.getElem?_replicate]
    split <;> rfl
  · rw [Nat.sub_zero]
    have e : (u ++ [0]).drop (u.length + 1 - v.length) = u.drop (u.length + 1 - v.length) ++ [0] := by
      rw [List.drop_append_of_le_length (by omega)]
    rw [e, lv_snoc, Nat.mul_zero, Nat.add_zero]
    have h4 := lv_lt (b := 1000000000) (lt_drop hu.lt (u.length + 1 - v.length))
    rw [List.length_drop, show u.length - (u.length + 1 - v.length) = v.length - 1 by omega] at h4
    have hne : v ≠ [] := by
      intro e
      have : v.length = 0 := by rw [e]; rfl
      omega
    have h5 := hv.ge hne
    omega
  · rw [Nat.sub_zero, List.drop_of_length_le (l := zeros _) (by rw [zeros_len]; exact Nat.le_refl _)]
    show _ + _ * (_ + _ * 0) = _
    simp only [Nat.mul_zero, Nat.add_zero]
    have h6 := lv_cut 1000000000 (u ++ [0]) (u.length + 1 - v.length) (by simp)
    rw [← h6, lv_snoc, Nat.mul_zero, Nat.add_zero]
theorem norm_le {p q : List Nat} (hp : Norm 1000000000 p) (hq : Lt 1000000000 q) (h : lv 1000000000 p ≤ lv 1000000000 q) : p.length ≤ q.length := by
  rcases Nat.lt_or_ge q.length p.length with h1 | h1
  · have := norm_len_lt (b := 1000000000) (by omega) hq hp h1
    omega
  · exact h1
theorem factor_nums {t : Nat} (h1 : 1 ≤ t) (h2 : t < 1000000000) : ∃ f : Nat, (1000000000 : Int) / ((t : Int) + 1) = (f : Int) ∧ 1 ≤ f ∧ f < 1000000000 ∧ (((t : Int) + 1) == 0) = false ∧ f * (t + 1) ≤ 1000000000 := by
  have h3 : (t : Int) + 1 ≠ 0 := by omega
  refine ⟨1000000000 / (t + 1), ?_, ?_, ?_, by simpa using h3, Nat.div_mul_le_self _ _⟩
  · rw [Int.natCast_ediv]
    rfl
  · rw [Nat.le_div_iff_mul_le (by omega)]
    omega
  · rw [Nat.div_lt_iff_lt_mul (by omega)]
    omega
/-- The remainder, without the factor. -/
theorem rem_back {X Y R Q f : Nat} (hf : 1 ≤ f) (h : R + Y * f * Q = X * f) (hs : R < Y * f) : Q = X / Y ∧ R / f = X % Y := by
  have hY : 0 < Y := by
    rcases Nat.eq_zero_or_pos Y with h0 | h0
    · rw [h0, Nat.zero_mul] at hs
      omega
    · exact h0
  have h1 : Q * Y ≤ X := by
    have : Q * Y * f ≤ X * f := by
      have : Y * f * Q = Q * Y * f := by grind
      omega
    exact Nat.le_of_mul_le_mul_right this hf
  have h2 : X < (Q + 1) * Y := by
    have : X * f < (Q + 1) * Y * f := by
      have e : (Q + 1) * Y * f = Y * f * Q + Y * f := by grind
      omega
    exact Nat.lt_of_mul_lt_mul_right this
  have hq : X / Y = Q := by
    rw [Nat.div_eq_iff hY]
    have : (Q + 1) * Y = Q * Y + Y := by rw [Nat.add_mul, Nat.one_mul]
    omega
  have h3 := Nat.div_add_mod X Y
  rw [hq] at h3
  refine ⟨hq.symm, ?_⟩
  have h4 : R = X % Y * f := by
    have : X * f = (Y * Q + X % Y) * f := by rw [h3]
    have e : (Y * Q + X % Y) * f = Y * f * Q + X % Y * f := by grind
    omega
  rw [h4, Nat.mul_div_cancel _ hf]
end Go.Proofs.YthkioajalhglfaaGreatDoor
