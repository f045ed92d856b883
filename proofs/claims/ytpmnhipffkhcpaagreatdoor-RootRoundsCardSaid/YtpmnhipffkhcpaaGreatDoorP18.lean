/-
  Texts laid together.
-/
import Derived.Test.YtpmnhipffkhcpaaGreatDoorP17
import Derived.Test.YtpmnhipffkhcpaaGreatDoorP3
import Derived.Test.YtpmnhipffkhcpaaGreatDoorP2
set_option maxRecDepth 100000
set_option maxHeartbeats 16000000
namespace Go.KI
open Go
theorem ediv_toNat_le {a b : Int} : (a / b).toNat ≤ a.natAbs := by
  have := Int.natAbs_ediv_le_natAbs a b
  omega
theorem rootN_lt {m k : Nat} (h : m < 10 ^ (2 * k)) : rootN m < 10 ^ k := by
  refine Nat.lt_of_not_le fun h1 => ?_
  have h2 := Nat.mul_le_mul h1 h1
  have h3 := (rootN_spec m).1
  rw [← Nat.pow_add, show k + k = 2 * k by omega] at h2
  omega
theorem unitsN_lt {q u : Rat} {f p r k : Nat} (sq : sz p q) (su : sz r u) (hf : f < 10) (hk : p + (r + r) + 1 ≤ 2 * k) : unitsN q u f < 10 ^ k := by
  refine rootN_lt ?_
  refine Nat.lt_of_le_of_lt ediv_toNat_le ?_
  rw [Int.natAbs_mul, Int.natAbs_mul, Int.natAbs_mul, Int.natAbs_natCast, Int.natAbs_natCast]
  exact Nat.lt_of_lt_of_le (mul_pow_lt (mul_pow_lt sq.1 (mul_pow_lt su.2 su.2)) (show f < 10 ^ 1 by omega)) (Nat.pow_le_pow_right (by omega) hk)
theorem decN_lt {q : Rat} {S p r k : Nat} (sq : sz p q) (hS : S < 10 ^ r) (hk : p + r + r ≤ 2 * k) : decN q S < 10 ^ k := by
  refine rootN_lt ?_
  refine Nat.lt_of_le_of_lt ediv_toNat_le ?_
  rw [Int.natAbs_mul, Int.natAbs_mul, Int.natAbs_natCast]
  exact Nat.lt_of_lt_of_le (mul_pow_lt (mul_pow_lt sq.1 hS) hS) (Nat.pow_le_pow_right (by omega) hk)
theorem sz_natc {n p : Nat} (h : n < 10 ^ p) (hp : 1 ≤ p) : sz p ((n : Nat) : Rat) :=
  ⟨by rw [Rat.num_natCast, Int.natAbs_natCast]; exact h, by rw [Rat.den_natCast]; exact Nat.lt_of_lt_of_le (show 1 < 10 ^ 1 by decide) (Nat.pow_le_pow_right (by omega) hp)⟩
theorem divNat_sz {k S p : Nat} (h0 : 0 < S) (hk : k < 10 ^ p) (hS : S < 10 ^ p) : sz p (((k : Nat) : Rat) / (S : Rat)) := by
  have e : ((k : Nat) : Rat) / (S : Rat) = Rat.divInt (k : Int) (S : Int) := by rw [Rat.divInt_eq_div]; rfl
  rw [e]
  exact divInt_sz (by omega) (by rw [Int.natAbs_natCast]; exact hk) (by rw [Int.natAbs_natCast]; exact hS)
theorem lowR_sz {q : Rat} {S p r k : Nat} (sq : sz p q) (h0 : 0 < S) (hS : S < 10 ^ r) (hk : p + r + r ≤ 2 * k) (hr : r ≤ k + 1) : sz (k + 1) (lowR q S) ∧ sz (k + 1) ((((decN q S + 1 : Nat)) : Rat) / (S : Rat)) := by
  have h := decN_lt sq hS hk
  have hs2 : S < 10 ^ (k + 1) := Nat.lt_of_lt_of_le hS (Nat.pow_le_pow_right (by omega) hr)
  have e : (10 : Nat) ^ (k + 1) = 10 ^ k * 10 := Nat.pow_succ ..
  exact ⟨divNat_sz h0 (by omega) hs2, divNat_sz h0 (by omega) hs2⟩
end Go.KI
namespace Go.KP
open Go
section
variable {P : Program} {md : Region.Mode}

theorem any_steps {l : List Oper} {Q : Exit → Act → World → Prop} {n f : Nat} {S : Array Bool → Act → World → Prop} (hg : gateB md l 0 n = true) (hn : n ≤ l.length)
    (hS : ∀ a w, S (Array.replicate n true) a w → wpAny P md l.toArray Q f (padded (Array.replicate n true) (l.length - n)) a w)
    (hstep : ∀ (i : Nat) (o : Oper) (L : Array Bool) (a : Act) (w : World), i < n → l[i]? = some o → L.size = n → L.getD i false = false → (∀ j, waits md l.toArray i j → L.getD j false = true) → S L a w → o.wp P a w (fun a' w' => S (L.setIfInBounds i true) a' w') Q) :
    ∀ (fuel : Nat) (L : Array Bool) (a : Act), L.size = n → down md l.toArray L → (∀ j, j < 0 → j < n → L.getD j false = true) → L.toList.count false = fuel →
    ∀ w, S L a w → wpAny P md l.toArray Q (fuel + f) (padded L (l.length - n)) a w := by
  intro fuel
  induction fuel with
  | zero =>
    intro L a hL hd hk hc w h
    have : L = Array.replicate n true := by
      have hne := List.count_eq_zero.1 hc
      apply Array.ext
      · simp [hL]
      · intro i h1 h2
        rw [Array.getElem_replicate]
        cases hx : L[i] with
        | true => rfl
        | false => exact absurd (by rw [← hx]; simp) hne
    subst this
    rw [Nat.zero_add]
    exact hS a w h
  | succ fuel ih =>
    intro L a hL hd hk hc w h
    obtain ⟨j0, hj0, hjf⟩ : ∃ j, j < n ∧ L.getD j false = false := by
      have hmem : false ∈ L.toList := List.count_pos_iff.1 (by omega)
      obtain ⟨j, hj, hx⟩ := List.mem_iff_getElem.1 hmem
      refine ⟨j, by simpa [hL] using hj, ?_⟩
      have : j < L.size := by simpa using hj
      simpa [this] using hx
    have hpre : ∀ i, i ∈ Region.ready md l.toArray (padded L (l.length - n)) → i < n ∧ i ∈ Region.ready md (l.take n).toArray L := by
      intro i hi
      obtain ⟨h1, h2, h3⟩ := ready_iff.1 hi
      have hin : i < n := by
        rcases Nat.lt_or_ge i n with h | h
        · exact h
        · exfalso
          have hil : i < l.length := by simpa using h1
          rcases gate_behind hg i hil h with ⟨j, hj, hw⟩ | hall
          · have := h3 j hw
            rw [padded_f, Array.getD_eq_getD_getElem?, Array.getElem?_eq_none (by omega)] at this
            simp at this
          · have key : ∀ d j, n - j = d → j < n → L.getD j false = true := by
              intro d
              induction d using Nat.strongRecOn with
              | _ d ihd =>
                intro j hdj hj
                rcases hall j hj with h4 | h4 | ⟨m, h4, h5, h6⟩
                · exact hk j h4 hj
                · have := h3 j h4
                  rwa [padded_f] at this
                · exact hd m j (ihd (n - m) (by omega) m rfl h4) h6
            have := key _ j0 rfl hj0
            rw [hjf] at this
            cases this
      refine ⟨hin, ready_iff.2 ⟨by simp; omega, ?_, fun j hj => ?_⟩⟩
      · rwa [padded_t (by omega)] at h2
      · have := h3 j ((waits_take hin).1 hj)
        rwa [padded_f] at this
    have hback : ∀ i, i ∈ Region.ready md (l.take n).toArray L → i ∈ Region.ready md l.toArray (padded L (l.length - n)) := by
      intro i hi
      obtain ⟨h1, h2, h3⟩ := ready_iff.1 hi
      have hin : i < n := by simp at h1; omega
      refine ready_iff.2 ⟨by simp; omega, ?_, fun j hj => ?_⟩
      · rwa [padded_t (by omega)]
      · rw [padded_f]
        exact h3 j ((waits_take hin).2 hj)
    rw [Nat.add_right_comm]
    refine ⟨fun h0 => ?_, fun i hi => ?_⟩
    · obtain ⟨i, hi⟩ := some_ready hg hL j0 hj0 hjf
      have := hback i hi
      rw [h0] at this
      cases this
    · obtain ⟨hin, hr⟩ := hpre i hi
      obtain ⟨r1, r2, r3⟩ := ready_iff.1 hr
      have hiL : i < L.size := by omega
      have hfi : L.getD i false = false := by rw [← getD_tf hiL]; exact r2
      obtain ⟨b1, b2, b3⟩ := gate_before hg i hin
      have hd' : down md l.toArray (L.setIfInBounds i true) := by
        intro x y hx hxy
        have hmono : ∀ y, L.getD y false = true → (L.setIfInBounds i true).getD y false = true := by
          intro y hy
          by_cases hyi : y = i
          · subst hyi; rw [hfi] at hy; cases hy
          · simpa [Array.getD_eq_getD_getElem?, Array.getElem?_setIfInBounds_ne (Ne.symm hyi)] using hy
        by_cases hxi : x = i
        · subst hxi
          exact hmono y (r3 y ((waits_take hin).2 hxy))
        · have hx' : L.getD x false = true := by simpa [Array.getD_eq_getD_getElem?, Array.getElem?_setIfInBounds_ne (Ne.symm hxi)] using hx
          exact hmono y (hd x y hx' hxy)
      have hk' : ∀ j, j < 0 → j < n → (L.setIfInBounds i true).getD j false = true := by
        intro j h1 h2
        have hj := hk j h1 h2
        by_cases hji : j = i
        · subst hji; rw [hfi] at hj; cases hj
        · simpa [Array.getD_eq_getD_getElem?, Array.getElem?_setIfInBounds_ne (Ne.symm hji)] using hj
      have hnext : ∀ a' w', S (L.setIfInBounds i true) a' w' → wpAny P md l.toArray Q (fuel + f) ((padded L (l.length - n)).setIfInBounds i true) a' w' := by
        intro a' w' h'
        rw [padded_set hiL]
        exact ih _ a' (by simpa using hL) hd' hk' (by have := count_set hiL hfi; omega) w' h'
      unfold wpOp
      have e2 : l.toArray[i]? = some l[i] := by simp [b1]
      rw [e2]
      have hgd : l[i].guard = none := b2 _ (List.getElem?_eq_getElem b1)
      have hw1 : ∀ ys, Region.wanted l[i] ys = true := fun ys => by simp [Region.wanted, hgd]
      simp only [hw1, if_true]
      exact .inl (Oper.wp_mono hnext (hstep i l[i] L a w hin (List.getElem?_eq_getElem b1) hL hfi (fun j hj => r3 j ((waits_take hin).2 hj)) h))
theorem region_steps {id : Nat} {Q : Exit → Act → World → Prop} {a : Act} {w : World} {l : List Oper} (n : Nat) (S : Array Bool → Act → World → Prop) (hm : P.follows .mixedOrders = true) (hn : n ≤ l.length)
    (hg : gateB .any l 0 n = true) (hs : seqB .any l n = true) (h0 : S (Array.replicate n false) a { w with drawn := w.drawn + 1 })
    (hstep : ∀ (i : Nat) (o : Oper) (L : Array Bool) (a : Act) (w : World), i < n → l[i]? = some o → L.size = n → L.getD i false = false → (∀ j, waits .any l.toArray i j → L.getD j false = true) → S L a w → o.wp P a w (fun a' w' => S (L.setIfInBounds i true) a' w') Q)
    (hend : ∀ a w, S (Array.replicate n true) a w → wpList P l.toArray Q (l.drop n) a w) : (Code.region id l.toArray true).wp P Q a w := by
  refine wp_region_any hm ?_
  have h2 := any_steps (P := P) (Q := Q) (S := S) (f := (l.drop n).length) hg hn (fun a2 w2 h3 => any_seq hs (l.drop n) n a2 w2 (fun j => by simp) (Nat.le_refl _) (by simp; omega) (hend a2 w2 h3)) hstep
    n (Array.replicate n false) a (by simp) (fun i j hi => by simp [Array.getD_eq_getD_getElem?, Array.getElem?_replicate] at hi; split at hi <;> simp at hi) (fun j hj => by omega) (by simp) _ h0
  have e : padded (Array.replicate n false) (l.length - n) = Array.replicate l.toArray.size false := by
    unfold padded
    rw [Array.replicate_append_replicate]
    congr 1
    simp
    omega
  rw [e] at h2
  have e2 : n + (l.drop n).length = l.toArray.size := by simp; omega
  rw [e2] at h2
  exact h2
theorem getD_set {L : Array Bool} {i j n : Nat} (hL : L.size = n) (hi : i < n) : (L.setIfInBounds i true).getD j false = if i = j then true else L.getD j false := by
  simp only [Array.getD_eq_getD_getElem?, Array.getElem?_setIfInBounds]
  by_cases h : i = j
  · subst h
    simp [hL, hi]
  · simp [h]
end
end Go.KP
namespace Go.Proofs.YtpmnhipffkhcpaaGreatDoor
open Go.RowKit Go.KP Go.KI Go.Shelf
attribute [local go_sem] Oper.semAt_some

theorem roomy_sz {q : Rat} (h : roomy q) : sz 90 q := ⟨(dec_len_le (by omega)).1 h.2.1, (dec_len_le (by omega)).1 h.2.2⟩
theorem fits_mul {x y : Int} {p q : Nat} (hx : x.natAbs < 10 ^ p) (hy : y.natAbs < 10 ^ q) (h : p + q ≤ 300) : fits (x * y) ∧ (x * y).natAbs < 10 ^ (p + q) := by
  have e : (x * y).natAbs < 10 ^ (p + q) := by rw [Int.natAbs_mul]; exact mul_pow_lt hx hy
  exact ⟨fits_small (by rw [most_eq]; omega) e, e⟩
theorem num_lt {q : Rat} (h : q < 0) : q.num < 0 := by
  rcases Int.lt_or_le q.num 0 with h1 | h1
  · exact h1
  · exact absurd h (Rat.not_lt.2 (Rat.num_nonneg.1 h1))
theorem num_gt {q : Rat} (h : 0 < q) : 0 < q.num := by
  have h1 := Rat.num_nonneg.2 (Rat.le_of_lt h)
  have h2 : q.num ≠ 0 := fun e => by rw [Rat.num_eq_zero.1 e] at h; exact absurd h Rat.lt_irrefl
  omega
theorem nat_abs_lt {n p : Nat} (h : n < 10 ^ p) : ((n : Nat) : Int).natAbs < 10 ^ p := by rw [Int.natAbs_natCast]; exact h
theorem Root_zero (w : World) :
    Calls Tryz.prog 177 #[.string (iB 0)] w (Ret w (pairT (iB 0))) := by
  have c1 : chkI (iB 0).data.toList = 0 := by rw [iB_list]; exact chk_fits fits_zero
  have H1 := hide (check_any (iB 0) (by have := iB_size fits_zero; omega) w)
  rw [c1] at H1
  obtain ⟨hp, h45⟩ := iB_head 0
  have hz := iB_zero_test 0
  rw [decide_eq_true rfl] at hz
  rw [decide_eq_false (by omega)] at h45
  have hp0 : (0 : Int) < ((iB 0).size : Int) := by omega
  generalize iB 0 = X at H1 hp h45 hz hp0 ⊢
  clear c1
  go_enter Tryz.func177, Tryz.ntmps177
  go_wp2_with fail
  refine H1.out.mono ?_
  rintro e w1 ⟨rfl, hb1⟩
  have HB1 := hide hb1
  clear hb1
  go_wp2_with fail
  refine bodyPost_ret (results_tmp2 rfl _ _ _) rfl ?_
  exact ⟨rfl, HB1.out⟩
theorem rootN_zero : rootN 0 = 0 := rootN_eq (by omega) (by omega)
theorem Root_I {n : Nat} (f : fits (n : Int)) (B : Nat) (w : World) (hB : B ≤ w.heap.size) (hT : P10 B w) :
    Calls Tryz.prog 177 #[.string (iB (n : Int))] w (Ret w (pairT (iB ((rootN n : Nat) : Int)))) := by
  rcases Nat.eq_zero_or_pos n with h | h
  · subst h
    rw [rootN_zero]
    exact Root_zero w
  · exact Root_to (iB_list _) (iB_list _) f h B w hB hT
theorem cls_call {f : Nat} {args : Array Value} {v : Value} {B n : Nat} {W0 : World} (hT : P10 B W0) (hB : B ≤ n) (H : ∀ w, B ≤ w.heap.size → P10 B w → Calls Tryz.prog f args w (Ret w v)) (x : Of (Below n W0)) (hx : n ≤ x.w.heap.size) :
    Calls Tryz.prog f args x.w fun e w' => e = .returned v ∧ Cls (Below n W0) w' :=
  (H x.w (by omega) (hT.on x.h hB)).mono fun _ _ ⟨h, hb⟩ => ⟨h, Cls.mk (x.h.trans (hb.mono hx))⟩
theorem set1a {w : World} {b : Nat} {u0 u1 : Value} {t : TypeId} (h : w.heap[b]? = some (.cells #[u0, u1] t (0, 0))) (v0 : Value) : (w.setCell ⟨b, 0, none⟩ v0).heap[b]? = some (.cells #[v0, u1] t (0, 0)) := by
  simp only [World.setCell, Array.getElem?_modify, h]
  simp
theorem set_oth {w : World} {b c o : Nat} {x : Obj} (h : w.heap[b]? = some x) (hne : c ≠ b) (v : Value) : (w.setCell ⟨c, o, none⟩ v).heap[b]? = some x := by
  simp only [World.setCell]
  rw [Array.getElem?_modify, if_neg hne]
  exact h
theorem rtimes_I {a b c d : Int} (fa : fits a) (fb : fits b) (fc : fits c) (fd : fits d) (f1 : fits (a * c)) (f2 : fits (b * d)) (B : Nat) (w : World) (hB : B ≤ w.heap.size) (hT : P10 B w) :
    Calls Tryz.prog 168 #[rpairV (iB a) (iB b), rpairV (iB c) (iB d)] w (Ret w (rpairV (iB (a * c)) (iB (b * d)))) := by
  have X0 := hide (heap3 w (rpairO (iB a) (iB b)) (rpairO (iB c) (iB d)) (rpairO ⟨#[]⟩ ⟨#[]⟩))
  obtain ⟨W0, hW0⟩ : ∃ W, W = ((w.alloc (rpairO (iB a) (iB b))).alloc (rpairO (iB c) (iB d))).alloc (rpairO ⟨#[]⟩ ⟨#[]⟩) := ⟨_, rfl⟩
  rw [← hW0] at X0
  have E1 := hide X0.out.1
  have E2 := hide X0.out.2.1
  have E3 := hide X0.out.2.2.1
  have HB0 := hide X0.out.2.2.2.2
  have hs := HB0.out.size
  have HN1 := hide (fun (o : Of (Below W0.heap.size W0)) => cls_call (hT.on HB0.out hB) (by omega) (fun w hB hT => rmul_I fa fc f1 B w hB hT) o o.h.size)
  have HN2 := hide (fun (o : Of (Below W0.heap.size W0)) => cls_call (hT.on HB0.out hB) (by omega) (fun w hB hT => rmul_I fb fd f2 B w hB hT) o o.h.size)
  generalize iB (a * c) = X at HN1 ⊢
  generalize iB (b * d) = Y at HN2 ⊢
  generalize iB a = P0 at *
  generalize iB b = P1 at *
  generalize iB c = Q0 at *
  generalize iB d = Q1 at *
  clear fa fb fc fd f1 f2 hT hs X0
  go_enter Tryz.func168, Tryz.ntmps168
  go_wp2_with fail
  rw [← hW0]
  clear hW0
  have hx1 : ∀ x : Of (Below W0.heap.size W0), ∀ o, x.w.cell? ⟨w.heap.size, o, none⟩ = W0.cell? ⟨w.heap.size, o, none⟩ := fun x o => x.h.cell (p := ⟨w.heap.size, o, none⟩) (lt_blk E1.out)
  have hx2 : ∀ x : Of (Below W0.heap.size W0), ∀ o, x.w.cell? ⟨w.heap.size + 1, o, none⟩ = W0.cell? ⟨w.heap.size + 1, o, none⟩ := fun x o => x.h.cell (p := ⟨w.heap.size + 1, o, none⟩) (lt_blk E2.out)
  have c1 := fun o => cell_blk E1.out o
  have c2 := fun o => cell_blk E2.out o
  have kn : Nonempty (Of (Below W0.heap.size W0)) := ⟨⟨_, Below.refl _ _⟩⟩
  refine region_prefix (C := Cls (Below W0.heap.size W0)) 10 (by kernel_rfl) (by decide) (by kernel_rfl) (by kernel_rfl) (by kernel_rfl) (by kernel_rfl) (Cls.mk (Below.refl _ _).drew) ?_
  simp only [List.take_succ_cons, List.take_zero, List.drop_succ_cons, List.drop_zero]
  repeat (go_big_quiet_step (first | rfl | with_reducible exact HN1.out _ | with_reducible exact HN2.out _))
  refine wpQuiet_nil ?_
  intro w1 hcl
  have hb1 := hcl.out
  have A2 := hide (below_blk hb1 E3.out (lt_blk E3.out))
  have HB1 := hide (HB0.out.trans (hb1.mono HB0.out.size))
  clear hcl hb1 hx1 hx2 c1 c2 HN1 HN2 kn
  have k0 := cell_blk A2.out 0
  have k1 := cell_blk A2.out 1
  have f0 := froz_blk A2.out 0
  have f1 := froz_blk A2.out 1
  have l6 := lt_blk A2.out
  go_wp2_with fail
  exact exit_rpair rfl (set2 A2.out _ _).1 rfl rfl ⟨rfl, (HB1.out.setCell (p := ⟨w.heap.size + 2, 0, none⟩) (show w.heap.size ≤ w.heap.size + 2 by omega) _).setCell (p := ⟨w.heap.size + 2, 1, none⟩) (show w.heap.size ≤ w.heap.size + 2 by omega) _⟩
theorem rover_I {a b c d : Int} (fa : fits a) (fb : fits b) (fc : fits c) (fd : fits d) (f1 : fits (a * d)) (f2 : fits (b * c)) (B : Nat) (w : World) (hB : B ≤ w.heap.size) (hT : P10 B w) :
    Calls Tryz.prog 295 #[rpairV (iB a) (iB b), rpairV (iB c) (iB d)] w (Ret w (rpairV (iB (a * d)) (iB (b * c)))) := by
  have X0 := hide (heap3 w (rpairO (iB a) (iB b)) (rpairO (iB c) (iB d)) (rpairO ⟨#[]⟩ ⟨#[]⟩))
  obtain ⟨W0, hW0⟩ : ∃ W, W = ((w.alloc (rpairO (iB a) (iB b))).alloc (rpairO (iB c) (iB d))).alloc (rpairO ⟨#[]⟩ ⟨#[]⟩) := ⟨_, rfl⟩
  rw [← hW0] at X0
  have E1 := hide X0.out.1
  have E2 := hide X0.out.2.1
  have E3 := hide X0.out.2.2.1
  have HB0 := hide X0.out.2.2.2.2
  have hs := HB0.out.size
  have HN1 := hide (fun (o : Of (Below W0.heap.size W0)) => cls_call (hT.on HB0.out hB) (by omega) (fun w hB hT => rmul_I fa fd f1 B w hB hT) o o.h.size)
  have HN2 := hide (fun (o : Of (Below W0.heap.size W0)) => cls_call (hT.on HB0.out hB) (by omega) (fun w hB hT => rmul_I fb fc f2 B w hB hT) o o.h.size)
  generalize iB (a * d) = X at HN1 ⊢
  generalize iB (b * c) = Y at HN2 ⊢
  generalize iB a = P0 at *
  generalize iB b = P1 at *
  generalize iB c = Q0 at *
  generalize iB d = Q1 at *
  clear fa fb fc fd f1 f2 hT hs X0
  go_enter Tryz.func295, Tryz.ntmps295
  go_wp2_with fail
  rw [← hW0]
  clear hW0
  have hx1 : ∀ x : Of (Below W0.heap.size W0), ∀ o, x.w.cell? ⟨w.heap.size, o, none⟩ = W0.cell? ⟨w.heap.size, o, none⟩ := fun x o => x.h.cell (p := ⟨w.heap.size, o, none⟩) (lt_blk E1.out)
  have hx2 : ∀ x : Of (Below W0.heap.size W0), ∀ o, x.w.cell? ⟨w.heap.size + 1, o, none⟩ = W0.cell? ⟨w.heap.size + 1, o, none⟩ := fun x o => x.h.cell (p := ⟨w.heap.size + 1, o, none⟩) (lt_blk E2.out)
  have c1 := fun o => cell_blk E1.out o
  have c2 := fun o => cell_blk E2.out o
  have kn : Nonempty (Of (Below W0.heap.size W0)) := ⟨⟨_, Below.refl _ _⟩⟩
  refine region_prefix (C := Cls (Below W0.heap.size W0)) 10 (by kernel_rfl) (by decide) (by kernel_rfl) (by kernel_rfl) (by kernel_rfl) (by kernel_rfl) (Cls.mk (Below.refl _ _).drew) ?_
  simp only [List.take_succ_cons, List.take_zero, List.drop_succ_cons, List.drop_zero]
  repeat (go_big_quiet_step (first | rfl | with_reducible exact HN1.out _ | with_reducible exact HN2.out _))
  refine wpQuiet_nil ?_
  intro w1 hcl
  have hb1 := hcl.out
  have A2 := hide (below_blk hb1 E3.out (lt_blk E3.out))
  have HB1 := hide (HB0.out.trans (hb1.mono HB0.out.size))
  clear hcl hb1 hx1 hx2 c1 c2 HN1 HN2 kn
  have k0 := cell_blk A2.out 0
  have k1 := cell_blk A2.out 1
  have f0 := froz_blk A2.out 0
  have f1 := froz_blk A2.out 1
  have l6 := lt_blk A2.out
  go_wp2_with fail
  exact exit_rpair rfl (set2 A2.out _ _).1 rfl rfl ⟨rfl, (HB1.out.setCell (p := ⟨w.heap.size + 2, 0, none⟩) (show w.heap.size ≤ w.heap.size + 2 by omega) _).setCell (p := ⟨w.heap.size + 2, 1, none⟩) (show w.heap.size ≤ w.heap.size + 2 by omega) _⟩
theorem rfloor_I {a b : Int} (fa : fits a) (fb : fits b) (hb : 0 < b) (B : Nat) (w : World) (hB : B ≤ w.heap.size) (hT : P10 B w) :
    Calls Tryz.prog 179 #[rpairV (iB a) (iB b)] w (Ret w (.string (iB (a / b)))) := by
  have HT := hide hT
  have H1 := hide (fun w hB hT => rquot_I fa fb hb B w hB hT)
  have X0 := hide (heap1 w (rpairO (iB a) (iB b)))
  generalize iB (a / b) = X at H1 ⊢
  generalize iB (a % b) = Y at H1
  generalize iB a = P0 at *
  generalize iB b = P1 at *
  clear fa fb hb hT
  go_enter Tryz.func179, Tryz.ntmps179
  go_wp2_with fail
  have k0 := cell_blk X0.out.1 0
  have k1 := cell_blk X0.out.1 1
  have kl := lt_blk X0.out.1
  go_wp2_with fail
  refine (H1.out _ (Nat.le_trans hB X0.out.2.2.size) (HT.out.on X0.out.2.2 hB)).mono ?_
  rintro e w1 ⟨rfl, hb1⟩
  have HB1 := hide (X0.out.2.2.trans (hb1.mono X0.out.2.2.size))
  clear hb1 k0 k1 kl
  go_wp2_with fail
  go_ret
  exact ⟨rfl, HB1.out⟩
theorem rmultiple_T {n : Int} {u : Rat} (fn : fits n) (fu : fitsQ u) (hc : mulC (n : Rat) u) (B : Nat) (w : World) (hB : B ≤ w.heap.size) (hT : PQ B w) :
    Calls Tryz.prog 174 #[.string (iB n), .string (T u)] w (Ret w (.string (T ((n : Rat) * u)))) := by
  have HT := hide hT
  have H1 := hide (fun w hB hT => qmul_to (s := iB n) (by rw [iB_T, T_list]) (T_list u) (fitsQ_int fn) fu hc B w hB hT)
  rw [show strB (ratS ((n : Rat) * u)) = T ((n : Rat) * u) from rfl] at H1
  generalize T ((n : Rat) * u) = Z at H1 ⊢
  generalize iB n = X at H1 ⊢
  generalize T u = Y at H1 ⊢
  clear fn fu hc hT
  go_enter Tryz.func174, Tryz.ntmps174
  go_wp2_with fail
  refine (H1.out _ hB HT.out).mono ?_
  rintro e w1 ⟨rfl, hb1⟩
  have HB1 := hide hb1
  clear hb1
  go_wp2_with fail
  go_ret
  exact ⟨rfl, HB1.out⟩
theorem T_head (q : Rat) : ((T q).data.toList.head? == some 45) = decide (q.num < 0) := by
  rw [T_list]
  by_cases h : q.num < 0
  · rw [decide_eq_true h, ratS_head.2 h]; rfl
  · rw [decide_eq_false h]
    exact beq_false_of_ne fun e => h (ratS_head.1 e)
theorem rSign_T (q : Rat) (w : World) : Calls Tryz.prog 165 #[.string (T q)] w (fun e w' => e = .returned (.int .i64 (sgnR q)) ∧ w' = w) := by
  have hz := T_num0 q
  have HN := hide (rNegative_at (T q) w)
  rw [T_head] at HN
  have hk : (q.num = 0 ∧ sgnR q = 0) ∨ (¬ q.num = 0 ∧ q.num < 0 ∧ sgnR q = -1) ∨ (¬ q.num = 0 ∧ ¬ q.num < 0 ∧ sgnR q = 1) := by
    rcases cmpT_cases q 0 with ⟨h, h2⟩ | ⟨h, h2⟩ | ⟨h, h2⟩
    · exact .inr (.inl ⟨by have := num_lt h; omega, num_lt h, h2⟩)
    · exact .inl ⟨by rw [h]; rfl, h2⟩
    · exact .inr (.inr ⟨by have := num_gt h; omega, by have := num_gt h; omega, h2⟩)
  obtain ⟨S, hS⟩ : ∃ S, S = sgnR q := ⟨_, rfl⟩
  rw [← hS] at hk ⊢
  rcases hk with ⟨h1, rfl⟩ | ⟨h1, h2, rfl⟩ | ⟨h1, h2, rfl⟩
  · rw [decide_eq_true h1] at hz
    generalize T q = X at hz HN ⊢
    clear h1 hS HN
    go_enter Tryz.func165, Tryz.ntmps165
    go_wp2_with fail
    go_ret
    exact ⟨rfl, rfl⟩
  · rw [decide_eq_false h1] at hz
    rw [decide_eq_true h2] at HN
    generalize T q = X at hz HN ⊢
    clear h1 h2 hS
    go_enter Tryz.func165, Tryz.ntmps165
    go_wp2_with fail
    refine HN.out.mono ?_
    rintro e w1 ⟨rfl, rfl⟩
    go_wp2_with fail
    go_ret
    exact ⟨rfl, rfl⟩
  · rw [decide_eq_false h1] at hz
    rw [decide_eq_false h2] at HN
    generalize T q = X at hz HN ⊢
    clear h1 h2 hS
    go_enter Tryz.func165, Tryz.ntmps165
    go_wp2_with fail
    refine HN.out.mono ?_
    rintro e w1 ⟨rfl, rfl⟩
    go_wp2_with fail
    go_ret
    exact ⟨rfl, rfl⟩
def sel (b : Bool) (v : Value) : Value := if b then v else undef
theorem sel_t (v : Value) : sel true v = v := rfl
def actU (QT UT FT QN QD UN UD VN VD PN PD : ByteArray) (bU : Nat) (y6 : Nat) (x0 x1 x2 x3 x4 x5 x6 : Bool) : Act := { tmps := #[.string QT, .string UT, .string FT, undef, undef, undef, .string ⟨#[]⟩, .pointer (some ⟨bU, 0, none⟩), sel x6 (.pointer (some ⟨y6, 0, none⟩)), undef, undef, .string UT, rpairV UN UD, sel x0 (.string QT), sel x1 (rpairV QN QD), sel x2 (rpairV UN UD), sel x3 (rpairV UN UD), sel x4 (rpairV VN VD), sel x5 (rpairV PN PD), undef, undef, undef, undef, undef, undef, undef, undef, undef, undef, undef, undef], defers := [] }
def RelU (QT UT FT QN QD UN UD VN VD PN PD : ByteArray) (bU : Nat) (W0 : World) (L : Array Bool) (F : Act) (wz : World) : Prop :=
  ∃ y6, F = actU QT UT FT QN QD UN UD VN VD PN PD bU y6 (L.getD 0 false) (L.getD 1 false) (L.getD 2 false) (L.getD 3 false) (L.getD 4 false) (L.getD 5 false) (L.getD 6 false) ∧ Below W0.heap.size W0 wz ∧ (L.getD 6 false = true → W0.heap.size ≤ y6 ∧ wz.heap[y6]? = some (rpairO ⟨#[]⟩ ⟨#[]⟩))
theorem RelU.keep {QT UT FT QN QD UN UD VN VD PN PD : ByteArray} {bU : Nat} {W0 wz wz' : World} {L L' : Array Bool} {F : Act} {y6 : Nat} (hB : Below W0.heap.size W0 wz) (h6 : L.getD 6 false = true → W0.heap.size ≤ y6 ∧ wz.heap[y6]? = some (rpairO ⟨#[]⟩ ⟨#[]⟩)) (hb : Below wz.heap.size wz wz') (e6 : L'.getD 6 false = L.getD 6 false) (hF : F = actU QT UT FT QN QD UN UD VN VD PN PD bU y6 (L'.getD 0 false) (L'.getD 1 false) (L'.getD 2 false) (L'.getD 3 false) (L'.getD 4 false) (L'.getD 5 false) (L'.getD 6 false)) : RelU QT UT FT QN QD UN UD VN VD PN PD bU W0 L' F wz' := by
  refine ⟨y6, hF, hB.trans (hb.mono hB.size), ?_⟩
  · rw [e6]
    intro h
    exact ⟨(h6 h).1, below_blk hb (h6 h).2 (lt_blk (h6 h).2)⟩
theorem runits_T {q u : Rat} {f : Nat} (rq : roomy q) (ru : roomy u) (hq : 0 ≤ q.num) (hu : 0 < u.num) (hf : f < 10) (B : Nat) (w : World) (hB : B ≤ w.heap.size) (hT : PQ B w) :
    Calls Tryz.prog 175 #[.string (T q), .string (T u), .string (iB (f : Int))] w (Ret w (.string (iB ((unitsN q u f : Nat) : Int)))) := by
  have HT := hide hT
  have sq := roomy_sz rq
  have su := roomy_sz ru
  have sqd : ((q.den : Nat) : Int).natAbs < 10 ^ 90 := nat_abs_lt sq.2
  have sud : ((u.den : Nat) : Int).natAbs < 10 ^ 90 := nat_abs_lt su.2
  have sf : ((f : Nat) : Int).natAbs < 10 ^ 1 := nat_abs_lt (by omega)
  have fqn : fits q.num := rq.1.1
  have fqd : fits (q.den : Int) := rq.1.2
  have fun_ : fits u.num := ru.1.1
  have fud : fits (u.den : Int) := ru.1.2
  have ff : fits (f : Int) := fits_small (n := 1) (by rw [most_eq]; omega) sf
  have b1 := fits_mul su.1 su.1 (by omega)
  have b2 := fits_mul sud sud (by omega)
  have b3 := fits_mul sq.1 b2.2 (by omega)
  have b4 := fits_mul sqd b1.2 (by omega)
  have b5 := fits_mul b3.2 sf (by omega)
  have hd0 : 0 < (q.den : Int) * (u.num * u.num) := Int.mul_pos (by have := q.den_pos; omega) (Int.mul_pos hu hu)
  have hn0 : 0 ≤ q.num * ((u.den : Int) * u.den) * f := Int.mul_nonneg (Int.mul_nonneg hq (Int.mul_nonneg (by omega) (by omega))) (by omega)
  have hz : q.num * ((u.den : Int) * u.den) * f / ((q.den : Int) * (u.num * u.num)) = (((q.num * ((u.den : Int) * u.den) * f / ((q.den : Int) * (u.num * u.num))).toNat : Nat) : Int) := by
    have := Int.ediv_nonneg hn0 (Int.le_of_lt hd0)
    omega
  have fz : fits (q.num * ((u.den : Int) * u.den) * f / ((q.den : Int) * (u.num * u.num))) := fits_of_le b5.1 (Int.natAbs_ediv_le_natAbs _ _)
  have HOU := hide (fun w hB hT => rOf_T ru.1 B w hB hT)
  have HOQ := hide (fun w hB hT => rOf_T rq.1 B w hB hT)
  have HTM := hide (fun w hB hT => rtimes_I fun_ fud fun_ fud b1.1 b2.1 B w hB hT)
  have HOV := hide (fun w hB hT => rover_I fqn fqd b1.1 b2.1 b3.1 b4.1 B w hB hT)
  have HM := hide (fun w hB hT => rmul_I b3.1 ff b5.1 B w hB hT)
  have HF := hide (fun w hB hT => rfloor_I b5.1 b4.1 hd0 B w hB hT)
  rw [hz] at fz
  have HR := hide (fun w hB hT => Root_I fz B w hB hT)
  rw [← hz] at HR
  show Calls _ _ _ _ (Ret w (.string (iB ((rootN (q.num * ((u.den : Int) * u.den) * f / ((q.den : Int) * (u.num * u.num))).toNat : Nat) : Int))))
  generalize iB ((rootN (q.num * ((u.den : Int) * u.den) * f / ((q.den : Int) * (u.num * u.num))).toNat : Nat) : Int) = R at HR ⊢
  generalize iB (q.num * ((u.den : Int) * u.den) * f / ((q.den : Int) * (u.num * u.num))) = Z at HR HF
  generalize iB (q.num * ((u.den : Int) * u.den) * f) = PN2 at HM HF
  generalize iB (q.num * ((u.den : Int) * u.den)) = PN at HM HOV
  generalize iB ((q.den : Int) * (u.num * u.num)) = PD at HF HOV
  generalize iB (u.num * u.num) = VN at HTM HOV
  generalize iB ((u.den : Int) * (u.den : Int)) = VD at HTM HOV
  rw [show numB q = iB q.num from rfl, show denB q = iB (q.den : Int) from rfl] at HOQ
  rw [show numB u = iB u.num from rfl, show denB u = iB (u.den : Int) from rfl] at HOU
  generalize iB q.num = QN at HOQ HOV
  generalize iB (q.den : Int) = QD at HOQ HOV
  generalize iB u.num = UN at HOU HTM
  generalize iB (u.den : Int) = UD at HOU HTM
  generalize iB (f : Int) = FT at HM ⊢
  generalize T q = QT at HOQ ⊢
  generalize T u = UT at HOU ⊢
  clear rq ru hq hu hf hT sq su sqd sud sf fqn fqd fun_ fud ff b1 b2 b3 b4 b5 hd0 hn0 hz fz
  go_enter Tryz.func175, Tryz.ntmps175
  go_wp2_with fail
  refine (HOU.out _ hB HT.out).mono ?_
  rintro e w1 ⟨rfl, hb1⟩
  have X1 := hide (heap1 w1 (rpairO UN UD))
  have HB2 := hide (hb1.trans (X1.out.2.2.mono hb1.size))
  have HL1 := hide hb1.size
  clear hb1
  go_wp2_with fail
  obtain ⟨W0, hW0⟩ : ∃ W, W = w1.alloc (rpairO UN UD) := ⟨_, rfl⟩
  rw [← hW0] at X1 HB2 ⊢
  have EU := hide X1.out.1
  clear hW0 X1
  have hBW : B ≤ W0.heap.size := Nat.le_trans hB HB2.out.size
  have HTW := hide (HT.out.on HB2.out hB)
  obtain ⟨bU, hbU⟩ : ∃ b, b = w1.heap.size := ⟨_, rfl⟩
  rw [← hbU] at EU HL1 ⊢
  clear hbU
  refine region_steps 7 (RelU QT UT FT QN QD UN UD VN VD PN PD bU W0) (by kernel_rfl) (by decide) (by kernel_rfl) (by kernel_rfl) ⟨0, rfl, (Below.refl _ _).drew, (fun h => by cases h)⟩ ?_ ?_
  · intro i o L F v hi ho hL hf hd hS
    obtain ⟨y6, rfl, hV, h6⟩ := hS
    have hi6 : i = 0 ∨ i = 1 ∨ i = 2 ∨ i = 3 ∨ i = 4 ∨ i = 5 ∨ i = 6 := by omega
    rcases hi6 with rfl | rfl | rfl | rfl | rfl | rfl | rfl
    all_goals
      simp only [List.getElem?_cons_zero, List.getElem?_cons_succ, Option.some.injEq] at ho
      subst ho
    · have G := fun j => getD_set (j := j) hL hi
      obtain ⟨x0, hx0⟩ : ∃ x, x = L.getD 0 false := ⟨_, rfl⟩
      obtain ⟨x1, hx1⟩ : ∃ x, x = L.getD 1 false := ⟨_, rfl⟩
      obtain ⟨x2, hx2⟩ : ∃ x, x = L.getD 2 false := ⟨_, rfl⟩
      obtain ⟨x3, hx3⟩ : ∃ x, x = L.getD 3 false := ⟨_, rfl⟩
      obtain ⟨x4, hx4⟩ : ∃ x, x = L.getD 4 false := ⟨_, rfl⟩
      obtain ⟨x5, hx5⟩ : ∃ x, x = L.getD 5 false := ⟨_, rfl⟩
      obtain ⟨x6, hx6⟩ : ∃ x, x = L.getD 6 false := ⟨_, rfl⟩
      rw [← hx0, ← hx1, ← hx2, ← hx3, ← hx4, ← hx5, ← hx6]
      have HK : Hid (∀ F, F = actU QT UT FT QN QD UN UD VN VD PN PD bU y6 true x1 x2 x3 x4 x5 x6 → RelU QT UT FT QN QD UN UD VN VD PN PD bU W0 (L.setIfInBounds 0 true) F v) := hide (fun F hF => RelU.keep hV h6 (Below.refl _ v) (by rw [G]; rfl) (by rw [hF, G, G, G, G, G, G, G, hx1, hx2, hx3, hx4, hx5, hx6]; rfl))
      unfold actU
      clear h6 hV hd hx0 hx1 hx2 hx3 hx4 hx5 hx6 G hf hL hi
      go_wp2_with fail
      exact HK.out _ rfl
    · have G := fun j => getD_set (j := j) hL hi
      obtain ⟨x0, hx0⟩ : ∃ x, x = L.getD 0 false := ⟨_, rfl⟩
      obtain ⟨x1, hx1⟩ : ∃ x, x = L.getD 1 false := ⟨_, rfl⟩
      obtain ⟨x2, hx2⟩ : ∃ x, x = L.getD 2 false := ⟨_, rfl⟩
      obtain ⟨x3, hx3⟩ : ∃ x, x = L.getD 3 false := ⟨_, rfl⟩
      obtain ⟨x4, hx4⟩ : ∃ x, x = L.getD 4 false := ⟨_, rfl⟩
      obtain ⟨x5, hx5⟩ : ∃ x, x = L.getD 5 false := ⟨_, rfl⟩
      obtain ⟨x6, hx6⟩ : ∃ x, x = L.getD 6 false := ⟨_, rfl⟩
      rw [← hx0, ← hx1, ← hx2, ← hx3, ← hx4, ← hx5, ← hx6]
      have hdep0 : x0 = true := by rw [hx0]; exact hd 0 (waitsB_iff.1 (by kernel_rfl))
      have HK : Hid (∀ (v2 : World) F, Below v.heap.size v v2 → F = actU QT UT FT QN QD UN UD VN VD PN PD bU y6 x0 true x2 x3 x4 x5 x6 → RelU QT UT FT QN QD UN UD VN VD PN PD bU W0 (L.setIfInBounds 1 true) F v2) := hide (fun v2 F hb hF => RelU.keep hV h6 hb (by rw [G]; rfl) (by rw [hF, G, G, G, G, G, G, G, hx0, hx2, hx3, hx4, hx5, hx6]; rfl))
      have HV := hide hV
      unfold actU
      clear h6 hV hd hx0 hx1 hx2 hx3 hx4 hx5 hx6 G hf hL hi
      subst hdep0
      simp only [sel_t]
      go_wp2_with fail
      refine (HOQ.out v (Nat.le_trans hBW HV.out.size) (HTW.out.on HV.out hBW)).mono ?_
      rintro e v2 ⟨rfl, hb2⟩
      have HK2 := hide (HK.out v2)
      have HB2 := hide hb2
      clear hb2 HK
      go_wp2_with fail
      exact HK2.out _ HB2.out rfl
    · have G := fun j => getD_set (j := j) hL hi
      obtain ⟨x0, hx0⟩ : ∃ x, x = L.getD 0 false := ⟨_, rfl⟩
      obtain ⟨x1, hx1⟩ : ∃ x, x = L.getD 1 false := ⟨_, rfl⟩
      obtain ⟨x2, hx2⟩ : ∃ x, x = L.getD 2 false := ⟨_, rfl⟩
      obtain ⟨x3, hx3⟩ : ∃ x, x = L.getD 3 false := ⟨_, rfl⟩
      obtain ⟨x4, hx4⟩ : ∃ x, x = L.getD 4 false := ⟨_, rfl⟩
      obtain ⟨x5, hx5⟩ : ∃ x, x = L.getD 5 false := ⟨_, rfl⟩
      obtain ⟨x6, hx6⟩ : ∃ x, x = L.getD 6 false := ⟨_, rfl⟩
      rw [← hx0, ← hx1, ← hx2, ← hx3, ← hx4, ← hx5, ← hx6]
      have HK : Hid (∀ F, F = actU QT UT FT QN QD UN UD VN VD PN PD bU y6 x0 x1 true x3 x4 x5 x6 → RelU QT UT FT QN QD UN UD VN VD PN PD bU W0 (L.setIfInBounds 2 true) F v) := hide (fun F hF => RelU.keep hV h6 (Below.refl _ v) (by rw [G]; rfl) (by rw [hF, G, G, G, G, G, G, G, hx0, hx1, hx3, hx4, hx5, hx6]; rfl))
      have e0 := below_blk hV EU.out (lt_blk EU.out)
      have l0 := lt_blk e0
      have k0_0 := cell_blk e0 0
      have k0_1 := cell_blk e0 1
      unfold actU
      clear h6 hV hd e0 hx0 hx1 hx2 hx3 hx4 hx5 hx6 G hf hL hi
      go_wp2_with fail
      exact HK.out _ rfl
    · have G := fun j => getD_set (j := j) hL hi
      obtain ⟨x0, hx0⟩ : ∃ x, x = L.getD 0 false := ⟨_, rfl⟩
      obtain ⟨x1, hx1⟩ : ∃ x, x = L.getD 1 false := ⟨_, rfl⟩
      obtain ⟨x2, hx2⟩ : ∃ x, x = L.getD 2 false := ⟨_, rfl⟩
      obtain ⟨x3, hx3⟩ : ∃ x, x = L.getD 3 false := ⟨_, rfl⟩
      obtain ⟨x4, hx4⟩ : ∃ x, x = L.getD 4 false := ⟨_, rfl⟩
      obtain ⟨x5, hx5⟩ : ∃ x, x = L.getD 5 false := ⟨_, rfl⟩
      obtain ⟨x6, hx6⟩ : ∃ x, x = L.getD 6 false := ⟨_, rfl⟩
      rw [← hx0, ← hx1, ← hx2, ← hx3, ← hx4, ← hx5, ← hx6]
      have HK : Hid (∀ F, F = actU QT UT FT QN QD UN UD VN VD PN PD bU y6 x0 x1 x2 true x4 x5 x6 → RelU QT UT FT QN QD UN UD VN VD PN PD bU W0 (L.setIfInBounds 3 true) F v) := hide (fun F hF => RelU.keep hV h6 (Below.refl _ v) (by rw [G]; rfl) (by rw [hF, G, G, G, G, G, G, G, hx0, hx1, hx2, hx4, hx5, hx6]; rfl))
      have e0 := below_blk hV EU.out (lt_blk EU.out)
      have l0 := lt_blk e0
      have k0_0 := cell_blk e0 0
      have k0_1 := cell_blk e0 1
      unfold actU
      clear h6 hV hd e0 hx0 hx1 hx2 hx3 hx4 hx5 hx6 G hf hL hi
      go_wp2_with fail
      exact HK.out _ rfl
    · have G := fun j => getD_set (j := j) hL hi
      obtain ⟨x0, hx0⟩ : ∃ x, x = L.getD 0 false := ⟨_, rfl⟩
      obtain ⟨x1, hx1⟩ : ∃ x, x = L.getD 1 false := ⟨_, rfl⟩
      obtain ⟨x2, hx2⟩ : ∃ x, x = L.getD 2 false := ⟨_, rfl⟩
      obtain ⟨x3, hx3⟩ : ∃ x, x = L.getD 3 false := ⟨_, rfl⟩
      obtain ⟨x4, hx4⟩ : ∃ x, x = L.getD 4 false := ⟨_, rfl⟩
      obtain ⟨x5, hx5⟩ : ∃ x, x = L.getD 5 false := ⟨_, rfl⟩
      obtain ⟨x6, hx6⟩ : ∃ x, x = L.getD 6 false := ⟨_, rfl⟩
      rw [← hx0, ← hx1, ← hx2, ← hx3, ← hx4, ← hx5, ← hx6]
      have hdep2 : x2 = true := by rw [hx2]; exact hd 2 (waitsB_iff.1 (by kernel_rfl))
      have hdep3 : x3 = true := by rw [hx3]; exact hd 3 (waitsB_iff.1 (by kernel_rfl))
      have HK : Hid (∀ (v2 : World) F, Below v.heap.size v v2 → F = actU QT UT FT QN QD UN UD VN VD PN PD bU y6 x0 x1 x2 x3 true x5 x6 → RelU QT UT FT QN QD UN UD VN VD PN PD bU W0 (L.setIfInBounds 4 true) F v2) := hide (fun v2 F hb hF => RelU.keep hV h6 hb (by rw [G]; rfl) (by rw [hF, G, G, G, G, G, G, G, hx0, hx1, hx2, hx3, hx5, hx6]; rfl))
      have HV := hide hV
      unfold actU
      clear h6 hV hd hx0 hx1 hx2 hx3 hx4 hx5 hx6 G hf hL hi
      subst hdep2
      subst hdep3
      simp only [sel_t]
      go_wp2_with fail
      refine (HTM.out v (Nat.le_trans hBW HV.out.size) (HTW.out.on HV.out hBW).p10).mono ?_
      rintro e v2 ⟨rfl, hb2⟩
      have HK2 := hide (HK.out v2)
      have HB2 := hide hb2
      clear hb2 HK
      go_wp2_with fail
      exact HK2.out _ HB2.out rfl
    · have G := fun j => getD_set (j := j) hL hi
      obtain ⟨x0, hx0⟩ : ∃ x, x = L.getD 0 false := ⟨_, rfl⟩
      obtain ⟨x1, hx1⟩ : ∃ x, x = L.getD 1 false := ⟨_, rfl⟩
      obtain ⟨x2, hx2⟩ : ∃ x, x = L.getD 2 false := ⟨_, rfl⟩
      obtain ⟨x3, hx3⟩ : ∃ x, x = L.getD 3 false := ⟨_, rfl⟩
      obtain ⟨x4, hx4⟩ : ∃ x, x = L.getD 4 false := ⟨_, rfl⟩
      obtain ⟨x5, hx5⟩ : ∃ x, x = L.getD 5 false := ⟨_, rfl⟩
      obtain ⟨x6, hx6⟩ : ∃ x, x = L.getD 6 false := ⟨_, rfl⟩
      rw [← hx0, ← hx1, ← hx2, ← hx3, ← hx4, ← hx5, ← hx6]
      have hdep1 : x1 = true := by rw [hx1]; exact hd 1 (waitsB_iff.1 (by kernel_rfl))
      have hdep4 : x4 = true := by rw [hx4]; exact hd 4 (waitsB_iff.1 (by kernel_rfl))
      have HK : Hid (∀ (v2 : World) F, Below v.heap.size v v2 → F = actU QT UT FT QN QD UN UD VN VD PN PD bU y6 x0 x1 x2 x3 x4 true x6 → RelU QT UT FT QN QD UN UD VN VD PN PD bU W0 (L.setIfInBounds 5 true) F v2) := hide (fun v2 F hb hF => RelU.keep hV h6 hb (by rw [G]; rfl) (by rw [hF, G, G, G, G, G, G, G, hx0, hx1, hx2, hx3, hx4, hx6]; rfl))
      have HV := hide hV
      unfold actU
      clear h6 hV hd hx0 hx1 hx2 hx3 hx4 hx5 hx6 G hf hL hi
      subst hdep1
      subst hdep4
      simp only [sel_t]
      go_wp2_with fail
      refine (HOV.out v (Nat.le_trans hBW HV.out.size) (HTW.out.on HV.out hBW).p10).mono ?_
      rintro e v2 ⟨rfl, hb2⟩
      have HK2 := hide (HK.out v2)
      have HB2 := hide hb2
      clear hb2 HK
      go_wp2_with fail
      exact HK2.out _ HB2.out rfl
    · have G := fun j => getD_set (j := j) hL hi
      obtain ⟨x0, hx0⟩ : ∃ x, x = L.getD 0 false := ⟨_, rfl⟩
      obtain ⟨x1, hx1⟩ : ∃ x, x = L.getD 1 false := ⟨_, rfl⟩
      obtain ⟨x2, hx2⟩ : ∃ x, x = L.getD 2 false := ⟨_, rfl⟩
      obtain ⟨x3, hx3⟩ : ∃ x, x = L.getD 3 false := ⟨_, rfl⟩
      obtain ⟨x4, hx4⟩ : ∃ x, x = L.getD 4 false := ⟨_, rfl⟩
      obtain ⟨x5, hx5⟩ : ∃ x, x = L.getD 5 false := ⟨_, rfl⟩
      obtain ⟨x6, hx6⟩ : ∃ x, x = L.getD 6 false := ⟨_, rfl⟩
      rw [← hx0, ← hx1, ← hx2, ← hx3, ← hx4, ← hx5, ← hx6]
      have HK : Hid (∀ F, F = actU QT UT FT QN QD UN UD VN VD PN PD bU v.heap.size x0 x1 x2 x3 x4 x5 true → RelU QT UT FT QN QD UN UD VN VD PN PD bU W0 (L.setIfInBounds 6 true) F (v.alloc (rpairO ⟨#[]⟩ ⟨#[]⟩))) := hide (fun F hF => ⟨v.heap.size, by rw [hF, G, G, G, G, G, G, G, hx0, hx1, hx2, hx3, hx4, hx5]; rfl, hV.trans ((heap1 v (rpairO ⟨#[]⟩ ⟨#[]⟩)).2.2.mono hV.size), (fun _ => ⟨hV.size, heap_alloc_new v _⟩)⟩)
      unfold actU
      clear h6 hV hd hx0 hx1 hx2 hx3 hx4 hx5 hx6 G hf hL hi
      go_wp2_with fail
      exact HK.out _ rfl
  · intro F v hS
    obtain ⟨y6, rfl, hV, h6⟩ := hS
    have Q6 : Hid (v.heap[y6]? = some (rpairO ⟨#[]⟩ ⟨#[]⟩)) := hide (h6 rfl).2
    have q6 := (h6 rfl).1
    simp only [List.drop_succ_cons, List.drop_zero]
    show wpList _ _ _ _ (actU QT UT FT QN QD UN UD VN VD PN PD bU y6 true true true true true true true) v
    unfold actU
    simp only [sel_t]
    have G8 := Q6
    have k0 := cell_blk G8.out 0
    have k1 := cell_blk G8.out 1
    have f0 := froz_blk G8.out 0
    have f1 := froz_blk G8.out 1
    have kl := lt_blk G8.out
    have HB3 := hide (HB2.out.trans (hV.mono HB2.out.size))
    have HY := hide (Nat.le_trans HB2.out.size q6)
    clear hV h6
    go_wp2_with fail
    obtain ⟨W1, hW1⟩ : ∃ W, W = (v.setCell ⟨y6, 0, none⟩ (.string PN)).setCell ⟨y6, 1, none⟩ (.string PD) := ⟨_, rfl⟩
    have G9 : Hid (W1.heap[y6]? = some (rpairO PN PD)) := hide (by rw [hW1]; exact (set2 G8.out _ _).1)
    have HB4 : Hid (Below w.heap.size w W1) := hide (by rw [hW1]; exact (HB3.out.setCell (p := ⟨y6, 0, none⟩) HY.out _).setCell (p := ⟨y6, 1, none⟩) HY.out _)
    rw [← hW1]
    clear hW1 k0 k1 f0 f1 kl G8 HB3
    have k0 := cell_blk G9.out 0
    have k1 := cell_blk G9.out 1
    have kl := lt_blk G9.out
    go_wp2_with fail
    refine (HM.out _ (Nat.le_trans hB HB4.out.size) (HT.out.on HB4.out hB).p10).mono ?_
    rintro e w5 ⟨rfl, hb5⟩
    clear k0 k1 kl
    have G10 := hide (below_blk hb5 G9.out (lt_blk G9.out))
    have HB5 := hide (HB4.out.trans (hb5.mono HB4.out.size))
    clear hb5
    have k0 := cell_blk G10.out 0
    have k1 := cell_blk G10.out 1
    have f0 := froz_blk G10.out 0
    have kl := lt_blk G10.out
    go_wp2_with fail
    obtain ⟨W2, hW2⟩ : ∃ W, W = w5.setCell ⟨y6, 0, none⟩ (.string PN2) := ⟨_, rfl⟩
    have G11 : Hid (W2.heap[y6]? = some (rpairO PN2 PD)) := hide (by rw [hW2]; exact set1a G10.out _)
    have HB6 : Hid (Below w.heap.size w W2) := hide (by rw [hW2]; exact HB5.out.setCell (p := ⟨y6, 0, none⟩) HY.out _)
    rw [← hW2]
    clear hW2 k0 k1 f0 kl G10 HB5
    have k0 := cell_blk G11.out 0
    have k1 := cell_blk G11.out 1
    have kl := lt_blk G11.out
    go_wp2_with fail
    refine (HF.out _ (Nat.le_trans hB HB6.out.size) (HT.out.on HB6.out hB).p10).mono ?_
    rintro e w7 ⟨rfl, hb7⟩
    have HB7 := hide (HB6.out.trans (hb7.mono HB6.out.size))
    clear hb7 k0 k1 kl
    go_wp2_with fail
    refine (HR.out _ (Nat.le_trans hB HB7.out.size) (HT.out.on HB7.out hB).p10).mono ?_
    rintro e w8 ⟨rfl, hb8⟩
    have HB8 := hide (HB7.out.trans (hb8.mono HB7.out.size))
    clear hb8
    go_wp2_with fail
    go_ret
    exact ⟨rfl, HB8.out⟩
open Go.RowKit Go.KP Go.KI Go.Shelf
attribute [local go_sem] Oper.semAt_some

theorem sgnR_pos {q : Rat} (h : 0 < q.num) : sgnR q = 1 := cmpT_gt (pos_num h)
theorem runitErr_ok {q u : Rat} (rq : roomy q) (ru : roomy u) (hq : 0 ≤ q.num) (hu : 0 < u.num) (B : Nat) (w : World) (hB : B ≤ w.heap.size) (hT : PQ B w) :
    Calls Tryz.prog 173 #[.string (T q), .string (T u)] w (Ret w (.int .i64 0)) := by
  have X0 := hide (heap2 w (.cells #[.string (T q), .string (T u)] 22) (.cells #[.string (T q)] 22))
  have HC := hide (rCheck_ok w.heap.size (w.heap.size + 1) [q, u] [q] (by simp) (by simp) (fun x hx => by simp at hx; rcases hx with rfl | rfl; exact rq; exact ru) (fun x hx => by simp at hx; subst hx; omega) B _ (nums2 X0.out.1) (nums1 X0.out.2.1) (Nat.le_trans hB X0.out.2.2.2.size) (hT.on X0.out.2.2.2 hB))
  have HS := hide (fun w => rSign_T u w)
  rw [sgnR_pos hu] at HS
  generalize T q = X at *
  generalize T u = Y at *
  clear rq ru hq hu hT
  go_enter Tryz.func173, Tryz.ntmps173
  go_wp2_with fail
  refine HC.out.mono ?_
  rintro e w1 ⟨rfl, hb1⟩
  have HB1 := hide (X0.out.2.2.2.trans (hb1.mono X0.out.2.2.2.size))
  clear hb1
  go_wp2_with fail
  refine (HS.out _).mono ?_
  rintro e w2 ⟨rfl, rfl⟩
  go_wp2_with fail
  go_ret
  exact ⟨rfl, HB1.out⟩
theorem units_fits {q u : Rat} {f : Nat} (rq : roomy q) (ru : roomy u) (hf : f < 10) : unitsN q u f < 10 ^ 136 := unitsN_lt (roomy_sz rq) (roomy_sz ru) hf (by omega)
theorem iB_lit (n : Nat) (l : List UInt8) (h : Lib.decDigits n = l) : iB (n : Int) = strB l := by
  unfold iB
  rw [Lib.itoa_nonneg, h]
theorem lit4 : iB ((4 : Nat) : Int) = ⟨#[52]⟩ := iB_lit 4 [52] (by decide +kernel)
theorem lit1 : iB ((1 : Nat) : Int) = ⟨#[49]⟩ := iB_lit 1 [49] (by decide +kernel)
theorem lit2 : iB ((2 : Nat) : Int) = ⟨#[50]⟩ := iB_lit 2 [50] (by decide +kernel)
theorem mul_units {n : Nat} {u : Rat} (ru : roomy u) (h : n < 10 ^ 137) : fits (n : Int) ∧ mulC (((n : Nat) : Int) : Rat) u := by
  have s1 : sz 137 (((n : Nat) : Int) : Rat) := sz_natc h (by omega)
  exact ⟨fits_small (n := 137) (by rw [most_eq]; omega) (nat_abs_lt h), mulC_of s1 (roomy_sz ru) (by rw [most_eq]; omega)⟩
theorem rFloor_T {q u : Rat} (rq : roomy q) (ru : roomy u) (hq : 0 ≤ q.num) (hu : 0 < u.num) (B : Nat) (w : World) (hB : B ≤ w.heap.size) (hT : PQ B w) :
    Calls Tryz.prog 67 #[.string (T q), .string (T u)] w (Ret w (.tuple #[.string (T (floorR q u)), .int .i64 0])) := by
  have HT := hide hT
  have HE := hide (fun w hB hT => runitErr_ok rq ru hq hu B w hB hT)
  have HU := hide (fun w hB hT => runits_T (f := 1) rq ru hq hu (by omega) B w hB hT)
  have hn := units_fits (f := 1) rq ru (by omega)
  have g := mul_units ru (Nat.lt_trans hn ((Nat.pow_lt_pow_iff_right (by omega)).2 (by omega)))
  have HM := hide (fun w hB hT => rmultiple_T g.1 ru.1 g.2 B w hB hT)
  rw [lit1] at HU
  rw [show ((((unitsN q u 1 : Nat) : Int) : Rat) * u) = floorR q u from rfl] at HM
  generalize T (floorR q u) = Z at HM ⊢
  generalize iB ((unitsN q u 1 : Nat) : Int) = N at HU HM
  generalize T q = X at *
  generalize T u = Y at *
  clear rq ru hq hu hn g hT
  go_enter Tryz.func67, Tryz.ntmps67
  go_wp2_with fail
  refine (HE.out _ hB HT.out).mono ?_
  rintro e w1 ⟨rfl, hb1⟩
  have HB1 := hide hb1
  clear hb1
  go_wp2_with fail
  refine (HU.out _ (Nat.le_trans hB HB1.out.size) (HT.out.on HB1.out hB)).mono ?_
  rintro e w2 ⟨rfl, hb2⟩
  have HB2 := hide (HB1.out.trans (hb2.mono HB1.out.size))
  clear hb2
  go_wp2_with fail
  refine (HM.out _ (Nat.le_trans hB HB2.out.size) (HT.out.on HB2.out hB)).mono ?_
  rintro e w3 ⟨rfl, hb3⟩
  have HB3 := hide (HB2.out.trans (hb3.mono HB2.out.size))
  clear hb3
  go_wp2_with fail
  refine bodyPost_ret (results_tmp2 rfl _ _ _) rfl ?_
  exact ⟨rfl, HB3.out⟩
theorem rNearest_T {q u : Rat} (rq : roomy q) (ru : roomy u) (hq : 0 ≤ q.num) (hu : 0 < u.num) (B : Nat) (w : World) (hB : B ≤ w.heap.size) (hT : PQ B w) :
    Calls Tryz.prog 71 #[.string (T q), .string (T u)] w (Ret w (.tuple #[.string (T (nearR q u)), .int .i64 0])) := by
  have HT := hide hT
  have HE := hide (fun w hB hT => runitErr_ok rq ru hq hu B w hB hT)
  have HU := hide (fun w hB hT => runits_T (f := 4) rq ru hq hu (by omega) B w hB hT)
  have hn := units_fits (f := 4) rq ru (by omega)
  have h7 : (10 : Nat) ^ 137 = 10 ^ 136 * 10 := Nat.pow_succ ..
  have g0 := mul_units ru (n := unitsN q u 4) (by omega)
  have g1 := mul_units ru (n := unitsN q u 4 + 1) (by omega)
  have g := mul_units ru (n := (unitsN q u 4 + 1) / 2) (by omega)
  have e1 : ((unitsN q u 4 : Nat) : Int) + ((1 : Nat) : Int) = ((unitsN q u 4 + 1 : Nat) : Int) := by omega
  have HA := hide (fun w hB hT => pAdd_I g0.1 (y := ((1 : Nat) : Int)) fits_one (by rw [e1]; exact g1.1) B w hB hT)
  rw [e1] at HA
  have HQ := hide (fun w hB hT => rquot_I g1.1 (y := ((2 : Nat) : Int)) (fits_small (n := 1) (by rw [most_eq]; omega) (by decide)) (by omega) B w hB hT)
  rw [← Int.natCast_ediv] at HQ
  have HM := hide (fun w hB hT => rmultiple_T g.1 ru.1 g.2 B w hB hT)
  rw [lit4] at HU
  rw [lit1] at HA
  rw [lit2] at HQ
  rw [show (((((unitsN q u 4 + 1) / 2 : Nat) : Int) : Rat) * u) = nearR q u from rfl] at HM
  generalize T (nearR q u) = Z at HM ⊢
  generalize iB (((unitsN q u 4 + 1) / 2 : Nat) : Int) = N2 at HQ HM
  generalize iB (((unitsN q u 4 + 1 : Nat) : Int) % ((2 : Nat) : Int)) = N3 at HQ
  generalize iB ((unitsN q u 4 + 1 : Nat) : Int) = N1 at HA HQ
  generalize iB ((unitsN q u 4 : Nat) : Int) = N at HU HA
  generalize T q = X at *
  generalize T u = Y at *
  clear rq ru hq hu hn g g0 g1 h7 e1 hT
  go_enter Tryz.func71, Tryz.ntmps71
  go_wp2_with fail
  refine (HE.out _ hB HT.out).mono ?_
  rintro e w1 ⟨rfl, hb1⟩
  have HB1 := hide hb1
  clear hb1
  go_wp2_with fail
  refine (HU.out _ (Nat.le_trans hB HB1.out.size) (HT.out.on HB1.out hB)).mono ?_
  rintro e w2 ⟨rfl, hb2⟩
  have HB2 := hide (HB1.out.trans (hb2.mono HB1.out.size))
  clear hb2
  go_wp2_with fail
  refine (HA.out _ (Nat.le_trans hB HB2.out.size) (HT.out.p10.on HB2.out hB)).mono ?_
  rintro e w3 ⟨rfl, hb3⟩
  have HB3 := hide (HB2.out.trans (hb3.mono HB2.out.size))
  clear hb3
  go_wp2_with fail
  refine (HQ.out _ (Nat.le_trans hB HB3.out.size) (HT.out.p10.on HB3.out hB)).mono ?_
  rintro e w4 ⟨rfl, hb4⟩
  have HB4 := hide (HB3.out.trans (hb4.mono HB3.out.size))
  clear hb4
  go_wp2_with fail
  refine (HM.out _ (Nat.le_trans hB HB4.out.size) (HT.out.on HB4.out hB)).mono ?_
  rintro e w5 ⟨rfl, hb5⟩
  have HB5 := hide (HB4.out.trans (hb5.mono HB4.out.size))
  clear hb5
  go_wp2_with fail
  refine bodyPost_ret (results_tmp2 rfl _ _ _) rfl ?_
  exact ⟨rfl, HB5.out⟩
end Go.Proofs.YtpmnhipffkhcpaaGreatDoor
namespace Go.KI
open Go
def cmpP (a b c d : Int) : Int := Lib.compareInt (a * d) (c * b)
theorem cmpI_cases (x y : Int) : (x < y ∧ Lib.compareInt x y = -1) ∨ (x = y ∧ Lib.compareInt x y = 0) ∨ (y < x ∧ Lib.compareInt x y = 1) := by
  unfold Lib.compareInt
  by_cases h : x < y
  · exact .inl ⟨h, if_pos h⟩
  · by_cases h2 : y < x
    · exact .inr (.inr ⟨h2, by rw [if_neg h, if_pos h2]⟩)
    · exact .inr (.inl ⟨by omega, by rw [if_neg h, if_neg h2]⟩)
theorem cmpI_lt {x y : Int} (h : x < y) : Lib.compareInt x y = -1 := by rcases cmpI_cases x y with ⟨_, h2⟩ | ⟨h1, _⟩ | ⟨h1, _⟩ <;> omega
theorem cmpI_gt {x y : Int} (h : y < x) : Lib.compareInt x y = 1 := by rcases cmpI_cases x y with ⟨h1, _⟩ | ⟨h1, _⟩ | ⟨_, h2⟩ <;> omega
theorem cmpI_same (x : Int) : Lib.compareInt x x = 0 := by rcases cmpI_cases x x with ⟨h1, _⟩ | ⟨_, h2⟩ | ⟨h1, _⟩ <;> omega
theorem cmpP_whole {a b c d : Int} (hb : 0 < b) (hd : 0 < d) (h : Lib.compareInt (a / b) (c / d) ≠ 0) : cmpP a b c d = Lib.compareInt (a / b) (c / d) := by
  have e1 := Int.emod_add_mul_ediv a b
  have e2 := Int.emod_add_mul_ediv c d
  have m1 := Int.emod_nonneg a (show b ≠ 0 by omega)
  have m2 := Int.emod_lt_of_pos a hb
  have m3 := Int.emod_nonneg c (show d ≠ 0 by omega)
  have m4 := Int.emod_lt_of_pos c hd
  unfold cmpP
  generalize a / b = x at *
  generalize c / d = y at *
  generalize a % b = r at *
  generalize c % d = s at *
  rcases cmpI_cases x y with ⟨h1, h2⟩ | ⟨h1, h2⟩ | ⟨h1, h2⟩
  · rw [h2]
    refine cmpI_lt ?_
    have k1 : b * (x + 1) ≤ b * y := Int.mul_le_mul_of_nonneg_left (by omega) (by omega)
    rw [Int.mul_add, Int.mul_one] at k1
    have k3 : a < b * y := by omega
    have k2 : a * d < b * y * d := Int.mul_lt_mul_of_pos_right k3 hd
    have k4 : d * y ≤ c := by omega
    have k5 : d * y * b ≤ c * b := Int.mul_le_mul_of_nonneg_right k4 (by omega)
    have e : d * y * b = b * y * d := by grind
    omega
  · exact absurd h2 h
  · rw [h2]
    refine cmpI_gt ?_
    have k1 : d * (y + 1) ≤ d * x := Int.mul_le_mul_of_nonneg_left (by omega) (by omega)
    rw [Int.mul_add, Int.mul_one] at k1
    have k3 : c < d * x := by omega
    have k2 : c * b < d * x * b := Int.mul_lt_mul_of_pos_right k3 hb
    have k4 : b * x ≤ a := by omega
    have k5 : b * x * d ≤ a * d := Int.mul_le_mul_of_nonneg_right k4 (by omega)
    have e : b * x * d = d * x * b := by grind
    omega
theorem cmpP_rest {a b c d : Int} (h : Lib.compareInt (a / b) (c / d) = 0) : cmpP a b c d = Lib.compareInt (a % b * d) (c % d * b) := by
  have e1 := Int.emod_add_mul_ediv a b
  have e2 := Int.emod_add_mul_ediv c d
  have hq : a / b = c / d := by
    rcases cmpI_cases (a / b) (c / d) with ⟨_, h2⟩ | ⟨h1, _⟩ | ⟨_, h2⟩
    · omega
    · exact h1
    · omega
  rw [← hq] at e2
  unfold cmpP
  generalize a / b = x at *
  generalize a % b = r at *
  generalize c % d = s at *
  have k : a * d - c * b = r * d - s * b := by rw [← e1, ← e2]; grind
  generalize a * d = A at *
  generalize c * b = C at *
  generalize r * d = R at *
  generalize s * b = S at *
  rcases cmpI_cases R S with ⟨h1, h2⟩ | ⟨h1, h2⟩ | ⟨h1, h2⟩ <;> rw [h2]
  · exact cmpI_lt (by omega)
  · rw [show A = C by omega, cmpI_same]
  · exact cmpI_gt (by omega)
theorem cmpP_ends {a b c d : Int} (hb : 0 < b) (hd : 0 < d) (h : Lib.compareInt (a / b) (c / d) = 0) :
    (a % b = 0 → c % d = 0 → cmpP a b c d = 0) ∧ (a % b = 0 → c % d ≠ 0 → cmpP a b c d = -1) ∧ (a % b ≠ 0 → c % d = 0 → cmpP a b c d = 1) ∧ cmpP a b c d = cmpP d (c % d) b (a % b) := by
  have m1 := Int.emod_nonneg a (show b ≠ 0 by omega)
  have m3 := Int.emod_nonneg c (show d ≠ 0 by omega)
  rw [cmpP_rest h]
  refine ⟨fun h1 h2 => ?_, fun h1 h2 => ?_, fun h1 h2 => ?_, ?_⟩
  · rw [h1, h2, Int.zero_mul, Int.zero_mul]; rfl
  · rw [h1, Int.zero_mul]
    exact cmpI_lt (Int.mul_pos (by omega) hb)
  · rw [h2, Int.zero_mul]
    exact cmpI_gt (Int.mul_pos (by omega) hd)
  · unfold cmpP
    rw [Int.mul_comm d, Int.mul_comm b]
end Go.KI
namespace Go.Proofs.YtpmnhipffkhcpaaGreatDoor
open Go.RowKit Go.KP Go.KI Go.Shelf
attribute [local go_sem] Oper.semAt_some

def boxD (bx : Nat) (W : World) : Nat := match W.heap[bx]? with | some (.cells cs _ _) => (match cs[1]? with | some (Value.string s) => (valI s.data.toList).toNat | _ => 0) | _ => 0
theorem boxD_of {bx : Nat} {W : World} {n : ByteArray} {r : Int} (h : W.heap[bx]? = some (rpairO n (iB r))) : boxD bx W = r.toNat := by
  unfold boxD
  rw [h]
  show (valI (iB r).data.toList).toNat = r.toNat
  rw [iB_list, val_itoa]
def CmpSt (b2 b3 : Nat) (T0 : Int) (N : Nat) (w0 W : World) : Prop :=
  ∃ a b c d : Int, W.heap[b2]? = some (rpairO (iB a) (iB b)) ∧ W.heap[b3]? = some (rpairO (iB c) (iB d)) ∧ 0 ≤ a ∧ 0 < b ∧ 0 ≤ c ∧ 0 < d ∧ a.natAbs ≤ N ∧ b.natAbs ≤ N ∧ c.natAbs ≤ N ∧ d.natAbs ≤ N ∧ cmpP a b c d = T0 ∧ Below w0.heap.size w0 W
theorem rcompare_I {a b c d : Int} {N : Nat} (a0 : 0 ≤ a) (b0 : 0 < b) (c0 : 0 ≤ c) (d0 : 0 < d) (na : a.natAbs ≤ N) (nb : b.natAbs ≤ N) (nc : c.natAbs ≤ N) (nd : d.natAbs ≤ N) (hN : fits (N : Int)) (B : Nat) (w : World) (hB : B ≤ w.heap.size) (hT : P10 B w) :
    Calls Tryz.prog 167 #[rpairV (iB a) (iB b), rpairV (iB c) (iB d)] w (Ret w (.int .i64 (cmpP a b c d))) := by
  have HT := hide hT
  have FN : Hid (∀ z : Int, z.natAbs ≤ N → fits z) := hide (fun z hz => fits_of_le hN (by rw [Int.natAbs_natCast]; exact hz))
  obtain ⟨T0, hT0⟩ : ∃ T, T = cmpP a b c d := ⟨_, rfl⟩
  have X0 := hide (heap2 w (rpairO (iB a) (iB b)) (rpairO (iB c) (iB d)))
  have HI : Hid (CmpSt w.heap.size (w.heap.size + 1) T0 N w ((w.alloc (rpairO (iB a) (iB b))).alloc (rpairO (iB c) (iB d)))) := hide ⟨a, b, c, d, X0.out.1, X0.out.2.1, a0, b0, c0, d0, na, nb, nc, nd, hT0.symm, X0.out.2.2.2⟩
  rw [← hT0]
  generalize iB a = A at *
  generalize iB b = A2 at *
  generalize iB c = C at *
  generalize iB d = C2 at *
  clear a0 b0 c0 d0 na nb nc nd hN hT hT0
  go_enter Tryz.func167, Tryz.ntmps167
  go_wp2_with fail
  clear X0
  go_loopw [] (fun wr => Hid (CmpSt w.heap.size (w.heap.size + 1) T0 N w wr)) (fun wr => boxD w.heap.size wr + boxD (w.heap.size + 1) wr)
  case atStart => exact HI
  clear HI
  case round =>
    obtain ⟨a, b, c, d, g2, g3, a0, b0, c0, d0, na, nb, nc, nd, ht, hbw⟩ := hrel.out
    have HM0 := hide (show boxD w.heap.size wr + boxD (w.heap.size + 1) wr = b.toNat + d.toNat by rw [boxD_of g2, boxD_of g3])
    have H1 := hide (fun w hB hT => rquot_I (FN.out a na) (FN.out b nb) b0 B w hB hT)
    have H2 := hide (fun w hB hT => rquot_I (FN.out c nc) (FN.out d nd) d0 B w hB hT)
    have q1 := Int.natAbs_ediv_le_natAbs a b
    have q2 := Int.natAbs_ediv_le_natAbs c d
    have m1 := Int.emod_nonneg a (show b ≠ 0 by omega)
    have m2 := Int.emod_lt_of_pos a b0
    have m3 := Int.emod_nonneg c (show d ≠ 0 by omega)
    have m4 := Int.emod_lt_of_pos c d0
    have H3 := hide (fun w => pCompare_I (FN.out (a / b) (by omega)) (FN.out (c / d) (by omega)) w)
    have hz1 := iB_zero_test (a % b)
    have hz2 := iB_zero_test (c % d)
    have HW := hide (fun h => cmpP_whole (a := a) (c := c) b0 d0 h)
    have HE := hide (fun h => cmpP_ends (a := a) (c := c) b0 d0 h)
    rw [ht] at HW HE
    have hnext : Hid (a % b ≠ 0 → c % d ≠ 0 → Lib.compareInt (a / b) (c / d) = 0 → ∀ W, W.heap[w.heap.size]? = some (rpairO (iB d) (iB (c % d))) → W.heap[w.heap.size + 1]? = some (rpairO (iB b) (iB (a % b))) → Below w.heap.size w W → CmpSt w.heap.size (w.heap.size + 1) T0 N w W ∧ boxD w.heap.size W + boxD (w.heap.size + 1) W < b.toNat + d.toNat) := hide (fun h1 h2 h3 W e1 e2 e3 => ⟨⟨d, c % d, b, a % b, e1, e2, by omega, by omega, by omega, by omega, by omega, by omega, by omega, by omega, ((HE.out h3).2.2.2).symm, e3⟩, by rw [boxD_of e1, boxD_of e2]; omega⟩)
    have hr1 : (a % b = 0 ∧ decide (a % b = 0) = true) ∨ (a % b ≠ 0 ∧ decide (a % b = 0) = false) := by
      by_cases h : a % b = 0
      · exact .inl ⟨h, decide_eq_true h⟩
      · exact .inr ⟨h, decide_eq_false h⟩
    have hr2 : (c % d = 0 ∧ decide (c % d = 0) = true) ∨ (c % d ≠ 0 ∧ decide (c % d = 0) = false) := by
      by_cases h : c % d = 0
      · exact .inl ⟨h, decide_eq_true h⟩
      · exact .inr ⟨h, decide_eq_false h⟩
    generalize decide (a % b = 0) = t1 at hz1 hr1
    generalize decide (c % d = 0) = t2 at hz2 hr2
    generalize iB (a % b) = RT at *
    generalize iB (c % d) = ST at *
    generalize iB (a / b) = Q1 at *
    generalize iB (c / d) = Q2 at *
    generalize iB a = A at *
    generalize iB b = A2 at *
    generalize iB c = C at *
    generalize iB d = C2 at *
    generalize Lib.compareInt (a / b) (c / d) = k at *
    have HR1 := hide hr1
    have HR2 := hide hr2
    have G2 := hide g2
    have G3 := hide g3
    have HB0 := hide hbw
    obtain ⟨wo, hwo⟩ : ∃ wo, wo = wr := ⟨_, rfl⟩
    subst hwo
    clear g2 g3 a0 b0 c0 d0 na nb nc nd ht hbw hrel q1 q2 m1 m2 m3 m4 hr1 hr2
    have k0 := cell_blk G2.out 0
    have k1 := cell_blk G2.out 1
    have kl := lt_blk G2.out
    go_wp2_with fail
    refine (H1.out _ (Nat.le_trans hB HB0.out.size) (HT.out.on HB0.out hB)).mono ?_
    rintro e w1 ⟨rfl, hb1⟩
    have G2 := hide (below_blk hb1 G2.out (lt_blk G2.out))
    have G3 := hide (below_blk hb1 G3.out (lt_blk G3.out))
    have HB1 := hide (HB0.out.trans (hb1.mono HB0.out.size))
    clear hb1 k0 k1 kl
    have k0 := cell_blk G3.out 0
    have k1 := cell_blk G3.out 1
    have kl := lt_blk G3.out
    go_wp2_with fail
    refine (H2.out _ (Nat.le_trans hB HB1.out.size) (HT.out.on HB1.out hB)).mono ?_
    rintro e w2 ⟨rfl, hb2⟩
    have G2 := hide (below_blk hb2 G2.out (lt_blk G2.out))
    have G3 := hide (below_blk hb2 G3.out (lt_blk G3.out))
    have HB2 := hide (HB1.out.trans (hb2.mono HB1.out.size))
    clear hb2 k0 k1 kl
    go_wp2_with fail
    refine (H3.out _).mono ?_
    rintro e w3 ⟨rfl, hb3⟩
    have G2 := hide (below_blk hb3 G2.out (lt_blk G2.out))
    have G3 := hide (below_blk hb3 G3.out (lt_blk G3.out))
    have HB3 := hide (HB2.out.trans (hb3.mono HB2.out.size))
    clear hb3
    by_cases hk : k = 0
    rotate_left
    · have hkb : (k == 0) = false := by simpa using hk
      have E := hide (HW.out hk)
      clear hk
      go_wp2_with fail
      go_ret
      exact ⟨by rw [E.out]; rfl, HB3.out⟩
    have HK := hide hk
    have EE := hide (HE.out hk)
    subst hk
    rcases HR1.out with ⟨h1, rfl⟩ | ⟨h1, rfl⟩ <;> rcases HR2.out with ⟨h2, rfl⟩ | ⟨h2, rfl⟩
    · have E := hide (EE.out.1 h1 h2)
      clear h1 h2
      go_wp2_with fail
      go_ret
      exact ⟨by rw [E.out]; rfl, HB3.out⟩
    · have E := hide (EE.out.2.1 h1 h2)
      clear h1 h2
      go_wp2_with fail
      go_ret
      exact ⟨by rw [E.out]; rfl, HB3.out⟩
    · have E := hide (EE.out.2.2.1 h1 h2)
      clear h1 h2
      go_wp2_with fail
      go_ret
      exact ⟨by rw [E.out]; rfl, HB3.out⟩
    · have HN := hide (hnext.out h1 h2 HK.out)
      clear h1 h2 hnext
      have k0 := cell_blk G2.out 0
      have k1 := cell_blk G2.out 1
      have kl := lt_blk G2.out
      have m0 := cell_blk G3.out 0
      have m1 := cell_blk G3.out 1
      have ml := lt_blk G3.out
      have f0 := froz_blk G2.out 0
      have f1 := froz_blk G2.out 1
      have g0 := froz_blk G3.out 0
      have g1 := froz_blk G3.out 1
      go_wp2_with fail
      have N2 := set2 G2.out (.string C2) (.string ST)
      have N3 := set_oth (c := w.heap.size) (o := 1) (set_oth (c := w.heap.size) (o := 0) G3.out (by omega) (.string C2)) (by omega) (.string ST)
      have N4 := set2 N3 (.string A2) (.string RT)
      have N5 := set_oth (c := w.heap.size + 1) (o := 1) (set_oth (c := w.heap.size + 1) (o := 0) N2.1 (by omega) (.string A2)) (by omega) (.string RT)
      have HF := hide (HN.out _ N5 N4.1 ((((HB3.out.setCell (p := ⟨w.heap.size, 0, none⟩) (Nat.le_refl _) (.string C2)).setCell (p := ⟨w.heap.size, 1, none⟩) (Nat.le_refl _) (.string ST)).setCell (p := ⟨w.heap.size + 1, 0, none⟩) (Nat.le_succ _) (.string A2)).setCell (p := ⟨w.heap.size + 1, 1, none⟩) (Nat.le_succ _) (.string RT)))
      clear N2 N3 N4 N5 k0 k1 kl m0 m1 ml f0 f1 g0 g1
      go_roundw
      case rel => exact hide HF.out.1
      case measure => rw [HM0.out]; exact HF.out.2
end Go.Proofs.YtpmnhipffkhcpaaGreatDoor
namespace Go.KI
open Go
def steps1 (q : Nat) : Nat → Nat → List (Nat × Nat)
  | 0, _ => []
  | f + 1, m => if m % (q * q) = 0 then (q, m / (q * q)) :: steps1 q f (m / (q * q)) else []
theorem steps1_more {q : Nat} (hq : 2 ≤ q) : ∀ (f g m : Nat), 0 < m → m ≤ f → m ≤ g → steps1 q f m = steps1 q g m := by
  intro f
  induction f with
  | zero => intro g m h1 h2; omega
  | succ f ih =>
    intro g m h1 h2 h3
    obtain ⟨g, rfl⟩ : ∃ g', g = g' + 1 := ⟨g - 1, by omega⟩
    unfold steps1
    split
    · next h =>
      obtain ⟨a, b⟩ := strip_less hq h1 h
      rw [ih g _ a (by omega) (by omega)]
    · rfl
def lastM (l : List (Nat × Nat)) (m : Nat) : Nat := match l.getLast? with | some s => s.2 | none => m
theorem lastM_cons (s : Nat × Nat) (l : List (Nat × Nat)) (m : Nat) : lastM (s :: l) m = lastM l s.2 := by
  unfold lastM
  cases l with
  | nil => rfl
  | cons a b => rw [List.getLast?_cons_cons]; cases h : (a :: b).getLast? with
    | none => simp at h
    | some x => rfl
def stepsAll : List Nat → Nat → List (Nat × Nat)
  | [], _ => []
  | q :: l, m => steps1 q m m ++ stepsAll l (lastM (steps1 q m m) m)
def remS (i m : Nat) : List (Nat × Nat) := stepsAll (primes25.drop i) m
theorem remS_end (m : Nat) : remS 25 m = [] := rfl
theorem remS_eq {i : Nat} (h : i < 25) (m : Nat) : remS i m = steps1 (primes25.getD i 0) m m ++ remS (i + 1) (lastM (steps1 (primes25.getD i 0) m m) m) := by
  unfold remS
  have e : primes25.drop i = primes25.getD i 0 :: primes25.drop (i + 1) := by
    rw [List.drop_eq_getElem_cons (by exact h)]
    congr 1
    rw [List.getD_eq_getElem?_getD, List.getElem?_eq_getElem h]
    rfl
  rw [e]
  rfl
theorem remS_step {i m : Nat} (h : i < 25) (hq : 2 ≤ primes25.getD i 0) (hm : 0 < m) (hd : m % (primes25.getD i 0 * primes25.getD i 0) = 0) :
    remS i m = (primes25.getD i 0, m / (primes25.getD i 0 * primes25.getD i 0)) :: remS i (m / (primes25.getD i 0 * primes25.getD i 0)) := by
  rw [remS_eq h m, remS_eq h (m / _)]
  generalize primes25.getD i 0 = q at hq hd ⊢
  obtain ⟨a, b⟩ := strip_less hq hm hd
  have e : steps1 q m m = (q, m / (q * q)) :: steps1 q (m / (q * q)) (m / (q * q)) := by
    obtain ⟨f, rfl⟩ : ∃ f, m = f + 1 := ⟨m - 1, by omega⟩
    conv => lhs; unfold steps1
    rw [if_pos hd, steps1_more hq f _ _ a (by omega) (Nat.le_refl _)]
  rw [e, lastM_cons]
  rfl
theorem remS_next {i m : Nat} (h : i < 25) (hm : 0 < m) (hd : ¬ m % (primes25.getD i 0 * primes25.getD i 0) = 0) : remS i m = remS (i + 1) m := by
  rw [remS_eq h m]
  obtain ⟨f, hf⟩ : ∃ f, m = f + 1 := ⟨m - 1, by omega⟩
  have e : steps1 (primes25.getD i 0) m m = [] := by
    conv => lhs; rw [hf]; unfold steps1
    rw [← hf, if_neg hd]
  rw [e]
  rfl
def allS (m : Nat) : List (Nat × Nat) := remS 0 m
def stepAt (m k : Nat) : Nat × Nat := (allS m).getD k (0, 0)
def prodK (m k : Nat) : Nat := ((allS m).take k).foldl (fun c s => c * s.1) 1
def leftK (m k : Nat) : Nat := lastM ((allS m).take k) m
theorem foldl_strip {q : Nat} (hq : 2 ≤ q) : ∀ (f c m : Nat), 0 < m → m ≤ f → ((steps1 q f m).foldl (fun c s => c * s.1) c, lastM (steps1 q f m) m) = strip q f c m := by
  intro f
  induction f with
  | zero => intro c m h1 h2; omega
  | succ f ih =>
    intro c m h1 h2
    unfold steps1 strip
    split
    · next h =>
      obtain ⟨a, b⟩ := strip_less hq h1 h
      rw [List.foldl_cons, lastM_cons]
      exact ih (c * q) (m / (q * q)) a (by omega)
    · rfl
theorem lastM_append (l r : List (Nat × Nat)) (m : Nat) : lastM (l ++ r) m = lastM r (lastM l m) := by
  induction l generalizing m with
  | nil => rfl
  | cons a l ih => rw [List.cons_append, lastM_cons, lastM_cons, ih]
theorem foldl_strips : ∀ (l : List Nat) (c m : Nat), (∀ q ∈ l, 2 ≤ q) → 0 < m → 0 < c → ((stepsAll l m).foldl (fun c s => c * s.1) c, lastM (stepsAll l m) m) = strips l c m := by
  intro l
  induction l with
  | nil => intro c m _ _ _; rfl
  | cons q l ih =>
    intro c m hl hm hc
    have hq := hl q (by simp)
    have h1 := foldl_strip hq m c m hm (Nat.le_refl _)
    have hs := stripD_spec hq m c m (Nat.le_refl _) hm hc
    unfold stepsAll strips
    rw [List.foldl_append, lastM_append]
    have e1 : (steps1 q m m).foldl (fun c s => c * s.1) c = (stripD q c m).1 := congrArg Prod.fst h1
    have e2 : lastM (steps1 q m m) m = (stripD q c m).2 := congrArg Prod.snd h1
    rw [e1, e2]
    exact ih _ _ (fun x hx => hl x (by simp [hx])) hs.2.1 hs.2.2.2.2
theorem strips_all {m : Nat} (hm : 0 < m) : (prodK m (allS m).length, leftK m (allS m).length) = strips primes25 1 m := by
  unfold prodK leftK
  rw [List.take_length]
  exact foldl_strips primes25 1 m (by decide) hm (by omega)
theorem prodK_zero (m : Nat) : prodK m 0 = 1 ∧ leftK m 0 = m := ⟨rfl, rfl⟩
theorem prodK_succ {m k : Nat} (h : k < (allS m).length) : prodK m (k + 1) = prodK m k * (stepAt m k).1 ∧ leftK m (k + 1) = (stepAt m k).2 := by
  unfold prodK leftK stepAt
  have e : (allS m).take (k + 1) = (allS m).take k ++ [(allS m).getD k (0, 0)] := by
    rw [List.take_add_one, List.getElem?_eq_getElem h, List.getD_eq_getElem?_getD, List.getElem?_eq_getElem h]
    rfl
  rw [e, List.foldl_append, lastM_append]
  exact ⟨rfl, rfl⟩
theorem drop_at {m k : Nat} {s : Nat × Nat} {r : List (Nat × Nat)} (h : (allS m).drop k = s :: r) : k < (allS m).length ∧ stepAt m k = s ∧ (allS m).drop (k + 1) = r := by
  have hl : k < (allS m).length := by
    rcases Nat.lt_or_ge k (allS m).length with h1 | h1
    · exact h1
    · rw [List.drop_eq_nil_of_le h1] at h
      cases h
  rw [List.drop_eq_getElem_cons hl] at h
  injection h with h1 h2
  refine ⟨hl, ?_, h2⟩
  unfold stepAt
  rw [List.getD_eq_getElem?_getD, List.getElem?_eq_getElem hl]
  exact h1
theorem drop_end {m k : Nat} (hk : k ≤ (allS m).length) (h : (allS m).drop k = []) : k = (allS m).length := by
  have := congrArg List.length h
  rw [List.length_drop] at this
  simp at this
  omega
def ChainS : Nat → List (Nat × Nat) → Prop
  | _, [] => True
  | m, s :: r => s.2 * (s.1 * s.1) = m ∧ 0 < s.1 ∧ 0 < s.2 ∧ ChainS s.2 r
theorem chain_append : ∀ (l r : List (Nat × Nat)) (m : Nat), ChainS m l → ChainS (lastM l m) r → ChainS m (l ++ r) := by
  intro l
  induction l with
  | nil => intro r m _ h; exact h
  | cons a l ih =>
    intro r m h1 h2
    rw [lastM_cons] at h2
    exact ⟨h1.1, h1.2.1, h1.2.2.1, ih r a.2 h1.2.2.2 h2⟩
theorem chain_steps1 {q : Nat} (hq : 2 ≤ q) : ∀ (f m : Nat), 0 < m → ChainS m (steps1 q f m) := by
  intro f
  induction f with
  | zero => intro m _; trivial
  | succ f ih =>
    intro m hm
    unfold steps1
    split
    · next h =>
      obtain ⟨a, b⟩ := strip_less hq hm h
      refine ⟨?_, by show 0 < q; omega, a, ih _ a⟩
      show m / (q * q) * (q * q) = m
      have := Nat.div_add_mod m (q * q)
      rw [h, Nat.add_zero, Nat.mul_comm] at this
      exact this
    · trivial
theorem chain_last : ∀ (l : List (Nat × Nat)) (m : Nat), 0 < m → ChainS m l → 0 < lastM l m := by
  intro l
  induction l with
  | nil => intro m h _; exact h
  | cons a l ih =>
    intro m _ h
    rw [lastM_cons]
    exact ih _ h.2.2.1 h.2.2.2
theorem chain_all : ∀ (l : List Nat) (m : Nat), (∀ q ∈ l, 2 ≤ q) → 0 < m → ChainS m (stepsAll l m) := by
  intro l
  induction l with
  | nil => intro m _ _; trivial
  | cons q l ih =>
    intro m hl hm
    have hq := hl q (by simp)
    have h1 := chain_steps1 hq m m hm
    exact chain_append _ _ _ h1 (ih _ (fun x hx => hl x (by simp [hx])) (chain_last _ _ hm h1))
theorem chain_prod : ∀ (l : List (Nat × Nat)) (m c k : Nat), 0 < m → 0 < c → ChainS m l →
    (l.take k).foldl (fun c s => c * s.1) c * (l.take k).foldl (fun c s => c * s.1) c * lastM (l.take k) m = c * c * m ∧ 0 < lastM (l.take k) m ∧ 0 < (l.take k).foldl (fun c s => c * s.1) c := by
  intro l
  induction l with
  | nil => intro m c k hm hc _; rw [List.take_nil]; exact ⟨rfl, hm, hc⟩
  | cons a l ih =>
    intro m c k hm hc h
    cases k with
    | zero => exact ⟨rfl, hm, hc⟩
    | succ k =>
      rw [List.take_succ_cons, List.foldl_cons, lastM_cons]
      obtain ⟨i1, i2, i3⟩ := ih a.2 (c * a.1) k h.2.2.1 (Nat.mul_pos hc h.2.1) h.2.2.2
      refine ⟨?_, i2, i3⟩
      rw [i1, ← h.1]
      grind
theorem prodK_law {m : Nat} (hm : 0 < m) (k : Nat) : prodK m k * prodK m k * leftK m k = m ∧ 0 < leftK m k ∧ 0 < prodK m k := by
  have h := chain_prod (allS m) m 1 k hm (by omega) (chain_all primes25 m (by decide) hm)
  simp only [Nat.one_mul] at h
  exact h
theorem prodK_le {m : Nat} (hm : 0 < m) (k : Nat) : prodK m k ≤ m ∧ leftK m k ≤ m := by
  obtain ⟨h1, h2, h3⟩ := prodK_law hm k
  have a : prodK m k * 1 ≤ prodK m k * (prodK m k * leftK m k) := Nat.mul_le_mul (Nat.le_refl _) (Nat.mul_pos h3 h2)
  have b : 1 * leftK m k ≤ prodK m k * prodK m k * leftK m k := Nat.mul_le_mul (Nat.mul_pos h3 h3) (Nat.le_refl _)
  rw [← Nat.mul_assoc, h1] at a
  rw [h1] at b
  omega
theorem step_le {m k : Nat} (hm : 0 < m) (h : k < (allS m).length) : (stepAt m k).1 ≤ m := by
  have h1 := (prodK_le hm (k + 1)).1
  rw [(prodK_succ h).1] at h1
  have h3 := (prodK_law hm k).2.2
  have := Nat.mul_le_mul h3 (Nat.le_refl (stepAt m k).1)
  omega
theorem normN_steps {m : Nat} (hm : 0 < m) : normN m = if sqI (leftK m (allS m).length) = true then (prodK m (allS m).length * rootN (leftK m (allS m).length), 1) else (prodK m (allS m).length, leftK m (allS m).length) := by
  unfold normN closeN
  rw [← strips_all hm]
  unfold sqI
  by_cases h : rootN (leftK m (allS m).length) * rootN (leftK m (allS m).length) = leftK m (allS m).length
  · rw [if_pos h, if_pos (decide_eq_true h)]
  · rw [if_neg h, if_neg (by simpa using h)]
end Go.KI
namespace Go.KP
open Go Go.RowKit

structure QuietO (O : Nat → Prop) (B : Nat) (S : Nat → Prop) (W W2 : World) : Prop where
  os : W2.os = W.os
  tape : W2.tape = W.tape
  output : W2.output = W.output
  size : W.heap.size ≤ W2.heap.size
  block : ∀ b, ¬ O b → (b < B ∨ S b) → b < W.heap.size → W2.heap[b]? = W.heap[b]?
theorem Quiet.toO {B : Nat} {S : Nat → Prop} {W W2 : World} (h : Quiet B S W W2) (O : Nat → Prop) : QuietO O B S W W2 :=
  ⟨h.os, h.tape, h.output, h.size, fun b _ hb hl => h.block b hb hl⟩
theorem QuietO.refl (O : Nat → Prop) (B : Nat) (S : Nat → Prop) (W : World) : QuietO O B S W W := ⟨rfl, rfl, rfl, Nat.le_refl _, fun _ _ _ _ => rfl⟩
theorem QuietO.trans {O : Nat → Prop} {B : Nat} {S : Nat → Prop} {a b c : World} (h : QuietO O B S a b) (k : QuietO O B S b c) : QuietO O B S a c :=
  ⟨k.os.trans h.os, k.tape.trans h.tape, k.output.trans h.output, Nat.le_trans h.size k.size, fun i hn hi hl => (k.block i hn hi (Nat.lt_of_lt_of_le hl h.size)).trans (h.block i hn hi hl)⟩
theorem QuietO.of_below {O : Nat → Prop} {B n : Nat} {S : Nat → Prop} {a w w2 : World} (h : QuietO O B S a w) (hb : Below n w w2) (hn : w.heap.size ≤ n) : QuietO O B S a w2 :=
  h.trans ⟨hb.os, hb.tape, hb.output, hb.size, fun b _ _ hl => hb.block b (by omega)⟩
theorem QuietO.set {O : Nat → Prop} {B : Nat} {S : Nat → Prop} {a w : World} (h : QuietO O B S a w) {p : Addr} (hp : O p.block) (u : Value) : QuietO O B S a (w.setCell p u) :=
  h.trans ⟨rfl, rfl, rfl, by simp [World.setCell], fun b hn _ _ => Below.heap_setCell _ _ _ _ (fun e => hn (by rw [e]; exact hp))⟩
def StaysO (O : Nat → Prop) (B : Nat) (J : (Nat → Prop) → World → Prop) : Prop := ∀ S W W2, J S W → QuietO O B S W W2 → J S W2
variable {P : Program}

def IterOwn (P : Program) (gf : Nat) (lb : Array Value) (encs : Nat → Array Value) (N : Nat) (Ke : Nat → World → Prop) (O : Nat → Prop) (w : World) : Prop :=
  ∀ (l : Nat) (J : Nat → (Nat → Prop) → World → Prop) (Jx : (Nat → Prop) → World → Prop) (W : World),
    (∀ b, O b → b < W.heap.size ∧ W.heap[b]? = w.heap[b]?) → (∀ k, StaysO O W.heap.size (J k)) → StaysO O W.heap.size Jx → (∀ k S W1, J k S W1 → ∀ b, S b → b < W1.heap.size) → (∀ k S W1, k ≤ N → J k S W1 → Ke k W1) →
    (∀ k S W1, k < N → J k S W1 → W.heap.size ≤ W1.heap.size →
      YieldAt Fence.wide 0 P l (encs k) W1 fun e W2 => ∃ S', Upd W.heap.size S S' W1 W2 ∧ (∀ b, O b → W2.heap[b]? = W1.heap[b]?) ∧
        ((e = .returned (.bool true) ∧ J (k + 1) S' W2) ∨ (e = .returned (.bool false) ∧ Jx S' W2))) →
    J 0 (fun _ => False) W →
    CallsIn Fence.wide 0 P gf (#[.func (.yield l) #[] #[]] ++ lb) W fun e W2 => (∃ v, e = .returned v) ∧ ∃ S, J N S W2 ∨ Jx S W2

def bodyEndO (B : Nat) (O : Nat → Prop) (I : (Nat → Prop) → World → Prop) (Ix : Code → (Nat → Prop) → World → Prop) (S : Nat → Prop) (W : World) : Exit → Act → World → Prop
  | .normal, _, W2 => ∃ S', Upd B S S' W W2 ∧ (∀ b, O b → W2.heap[b]? = W.heap[b]?) ∧ I S' W2
  | .ret, _, W2 => ∃ S', Upd B S S' W W2 ∧ (∀ b, O b → W2.heap[b]? = W.heap[b]?) ∧ Ix .ret S' W2
  | .exit id, _, W2 => ∃ S', Upd B S S' W W2 ∧ (∀ b, O b → W2.heap[b]? = W.heap[b]?) ∧ Ix (.exit id) S' W2
  | .goto t, _, W2 => ∃ S', Upd B S S' W W2 ∧ (∀ b, O b → W2.heap[b]? = W.heap[b]?) ∧ Ix (.goto t) S' W2
  | .panic _, _, _ => False
  | .outgrown, _, _ => False

theorem wp_iter_own {g : Operand} {ps : Array Tmp} {assign body : Code} {Q : Exit → Act → World → Prop} {a : Act} {w : World}
    {gf : Nat} {lb : Array Value} (hg : a.eval g = .func (.func gf) #[] lb) (eg : ∀ args w, (callFunc gf args).run P w = .ok (.enter gf args) w)
    {encs : Nat → Array Value} {N : Nat} {Ke : Nat → World → Prop} {O : Nat → Prop} {w0 : World} (hseq : IterOwn P gf lb encs N Ke O w0) (hO : ∀ b, O b → b < w.heap.size ∧ w.heap[b]? = w0.heap[b]?) (hps : ∀ k, (encs k).size = ps.size)
    (I : Nat → (Nat → Prop) → World → Prop) (Ix : Code → (Nat → Prop) → World → Prop) (hI : ∀ k, StaysO O w.heap.size (I k)) (hIx : ∀ c, StaysO O w.heap.size (Ix c)) (h0 : I 0 (fun _ => False) w) (hke : ∀ k S W, k ≤ N → I k S W → Ke k W)
    (Ax : Nat → (Nat → Prop) → Act → World → Prop)
    (hAx : ∀ k S a1 W l r r2, Ax k S a1 W → W.heap[l]? = some (.loop r) → Ax k S a1 (W.putObj l (.loop r2)))
    (hassign : ∀ (l k : Nat) (S : Nat → Prop) (W : World) (K : Act → World → Prop), w.heap.size ≤ W.heap.size → (∀ b, S b → b < W.heap.size) → (∀ a1 W1, Quiet w.heap.size S W W1 → Upd w.heap.size S S W W1 → Ax k S a1 W1 → K a1 W1) →
      assign.wpIn (Fence.wide.inRound l) 0 P (Exit.then K (fun _ _ _ => False)) { tmps := (ps.zip (encs k)).foldl (fun t (p, v) => t.setIfInBounds p v) a.tmps, defers := [] } W)
    (hS : ∀ k S W, I k S W → ∀ b, S b → b < W.heap.size)
    (hbody : ∀ (l k : Nat) (S : Nat → Prop) (a1 : Act) (W : World), k < N → I k S W → Ax k S a1 W → w.heap.size ≤ W.heap.size →
      body.wpIn (Fence.wide.inRound l) 0 P (bodyEndO w.heap.size O (I (k + 1)) Ix S W) a1 W)
    (hdone : ∀ (D : Nat) (S : Nat → Prop) (W : World), w.heap.size ≤ D → I N S W → W.heap[D]? = some (.deferred (some [])) → Q .normal { a with defers := { target := .collected D, args := #[] } :: a.defers } W)
    (hstop : ∀ (D : Nat) (c : Code) (S : Nat → Prop) (W : World), w.heap.size ≤ D → Ix c S W → W.heap[D]? = some (.deferred (some [])) → c.wpIn Fence.wide 0 P Q { a with defers := { target := .collected D, args := #[] } :: a.defers } W) :
    (Code.rangeFunc g ps assign body).wpIn Fence.wide 0 P Q a w := by
  refine wpIn_rangeFunc ?_
  intro fn _
  obtain ⟨rec, hrec⟩ : ∃ rec : LoopState → Option Code → Loop, rec = fun st pe => { state := st, pending := pe, fn, tmps := a.tmps, params := ps, assign, body, defers := w.heap.size } := ⟨_, rfl⟩
  obtain ⟨W1, hW1⟩ : ∃ W1, (w.alloc (.deferred (some []))).alloc (.loop (rec .ready none)) = W1 := ⟨_, rfl⟩
  have hL1 : W1.heap[w.heap.size + 1]? = some (.loop (rec .ready none)) := by
    rw [← hW1]; have h := World.alloc_heap_new (w.alloc (.deferred (some []))) (.loop (rec .ready none)); rwa [World.size_alloc] at h
  have hK1 : W1.heap[w.heap.size]? = some (.deferred (some [])) := by
    rw [← hW1]; exact (Below.heap_alloc _ _ _ (by simp)).trans (World.alloc_heap_new w _)
  have hq1 : Quiet w.heap.size (fun _ => False) w W1 := by rw [← hW1]; exact ((Quiet.refl _ _ w).alloc _).alloc _
  have hs1 : W1.heap.size = w.heap.size + 2 := by rw [← hW1]; simp
  have hn0 : ¬ O w.heap.size := fun h => by have := (hO _ h).1; omega
  have hn1 : ¬ O (w.heap.size + 1) := fun h => by have := (hO _ h).1; omega
  have hO1 : ∀ b, O b → b < W1.heap.size ∧ W1.heap[b]? = w0.heap[b]? := fun b hb => by
    obtain ⟨h1, h2⟩ := hO b hb
    exact ⟨by omega, (hq1.block b (.inl h1) h1).trans h2⟩
  have inner : ∀ (i : Nat) (S S' : Nat → Prop) (W W2 : World), w.heap.size ≤ i → i < w.heap.size + 2 → i < W.heap.size → ¬ S i → Upd w.heap.size S S' W W2 → W2.heap[i]? = W.heap[i]? ∧ ¬ S' i := fun i S S' W W2 h1 _ h3 h4 hu => hu.block i h1 h3 h4
  refine ⟨w.heap.size + 1, [{ target := .collected w.heap.size, args := #[] }], W1, { target := .fn (.func gf) lb, args := #[.func (.yield (w.heap.size + 1)) #[] #[]] }, W1, gf,
    #[.func (.yield (w.heap.size + 1)) #[] #[]] ++ lb, W1, ?_, ?_, ?_, ?_, fun h => by simp [Fence.wide] at h, ?_⟩
  · rw [← hW1, hrec]; exact run_enterLoop_outer _ _ _ _ _
  · simp only [resolve, hg]
    simp [go_sem]
  · exact fun _ _ => trivial
  · simp [invoke, go_sem, eg]
  · refine (hseq (w.heap.size + 1)
      (fun k S W => I k S W ∧ ¬ S w.heap.size ∧ ¬ S (w.heap.size + 1) ∧ W1.heap.size ≤ W.heap.size ∧ W.heap[w.heap.size + 1]? = some (.loop (rec .ready none)) ∧ W.heap[w.heap.size]? = some (.deferred (some [])))
      (fun S W => ∃ c, Ix c S W ∧ ¬ S w.heap.size ∧ ¬ S (w.heap.size + 1) ∧ W1.heap.size ≤ W.heap.size ∧ W.heap[w.heap.size + 1]? = some (.loop (rec .done (some c))) ∧ W.heap[w.heap.size]? = some (.deferred (some [])))
      W1 hO1 ?_ ?_ (fun k S W1 h => hS k S W1 h.1) (fun k S W1 hk h => hke k S W1 hk h.1) ?_ ⟨hI 0 _ _ _ h0 (hq1.toO O), fun h => h, fun h => h, Nat.le_refl _, hL1, hK1⟩).mono ?_
    · rintro k S W W2 ⟨hi, n1, n2, hsz, hl, hk⟩ hq
      have hw : w.heap.size + 1 < W.heap.size := (Array.getElem?_eq_some_iff.1 hl).1
      exact ⟨hI k _ _ _ hi ⟨hq.os, hq.tape, hq.output, hq.size, fun b hn hb hlt => hq.block b hn (hb.imp (fun h => by omega) id) hlt⟩, n1, n2, Nat.le_trans hsz hq.size,
        (hq.block _ hn1 (.inl (by omega)) hw).trans hl, (hq.block _ hn0 (.inl (by omega)) (by omega)).trans hk⟩
    · rintro S W W2 ⟨c, hi, n1, n2, hsz, hl, hk⟩ hq
      have hw : w.heap.size + 1 < W.heap.size := (Array.getElem?_eq_some_iff.1 hl).1
      exact ⟨c, hIx c _ _ _ hi ⟨hq.os, hq.tape, hq.output, hq.size, fun b hn hb hlt => hq.block b hn (hb.imp (fun h => by omega) id) hlt⟩, n1, n2, Nat.le_trans hsz hq.size,
        (hq.block _ hn1 (.inl (by omega)) hw).trans hl, (hq.block _ hn0 (.inl (by omega)) (by omega)).trans hk⟩
    · rintro k S W hkN ⟨hi, n1, n2, hsz, hl, hk⟩ _
      have hlt : w.heap.size + 1 < W.heap.size := (Array.getElem?_eq_some_iff.1 hl).1
      have hy := run_yield (P := P) (args := encs k) hl (by rw [hrec]; exact hps k)
      rw [hrec] at hy
      refine ⟨fn, _, assign, body, hy, roundIn_of_wpIn trivial (hassign _ k S W _ (by omega) (hS k S W hi) ?_)⟩
      intro a1 Wa hqa hua hax
      have hla := (inner (w.heap.size + 1) _ _ _ _ (by omega) (by omega) hlt n2 hua).1.trans hl
      have hka := (inner w.heap.size _ _ _ _ (by omega) (by omega) (by omega) n1 hua).1.trans hk
      have hsa := hua.size
      refine ⟨_, run_beginRound hla (by rw [hrec]), ?_⟩
      have hlt2 : w.heap.size + 1 < Wa.heap.size := by omega
      have hia := hI k _ _ _ hi (hqa.toO O)
      obtain ⟨W2, hW2⟩ : ∃ W2, Wa.putObj (w.heap.size + 1) (.loop { rec .ready none with state := .busy }) = W2 := ⟨_, rfl⟩
      have hq2 : Quiet w.heap.size S Wa W2 := by rw [← hW2]; exact putObj_quiet _ _ _ (by omega) n2
      have hax2 : Ax k S a1 W2 := by rw [← hW2]; exact hAx _ _ _ _ _ _ _ hax hla
      have hl2 : W2.heap[w.heap.size + 1]? = some (.loop { rec .ready none with state := .busy }) := by rw [← hW2]; exact World.putObj_heap_same hlt2
      have hk2 : W2.heap[w.heap.size]? = some (.deferred (some [])) := by rw [← hW2]; exact (World.putObj_heap_other (by omega)).trans hka
      have hs2 : W2.heap.size = Wa.heap.size := by rw [← hW2]; simp
      rw [hW2]
      refine wpIn_mono (hbody _ k S a1 W2 hkN (hI k _ _ _ hia (hq2.toO O)) hax2 (by omega)) ?_
      have fin : ∀ (jump : Option Code) (S' : Nat → Prop) (W3 : World), Upd w.heap.size S S' W2 W3 → (∀ b, O b → W3.heap[b]? = W2.heap[b]?) →
          ∃ W4, (Instr.endRound (w.heap.size + 1) jump).run P W3 = .ok (.bool jump.isNone) W4 ∧ Upd W1.heap.size S S' W W4 ∧ (∀ b, O b → W4.heap[b]? = W.heap[b]?) ∧ Quiet w.heap.size S' W3 W4 ∧
            ¬ S' w.heap.size ∧ ¬ S' (w.heap.size + 1) ∧ W1.heap.size ≤ W4.heap.size ∧
            W4.heap[w.heap.size + 1]? = some (.loop (rec (if jump.isNone then .ready else .done) jump)) ∧ W4.heap[w.heap.size]? = some (.deferred (some [])) := fun jump S' W3 hu ho3 => by
        have hl3 := (inner (w.heap.size + 1) _ _ _ _ (by omega) (by omega) (by omega) n2 hu)
        have hk3 := (inner w.heap.size _ _ _ _ (by omega) (by omega) (by omega) n1 hu)
        have hl4 := hl3.1.trans hl2
        have hs3 := hu.size
        have hr := run_endRound (P := P) jump hl4
        have e : ({ rec .ready none with state := if jump.isNone then LoopState.ready else LoopState.done, pending := jump } : Loop) = rec (if jump.isNone then .ready else .done) jump := by rw [hrec]
        simp only at hr
        rw [e] at hr
        have hq4 : Quiet w.heap.size S' W3 (W3.putObj (w.heap.size + 1) (.loop (rec (if jump.isNone then .ready else .done) jump))) := putObj_quiet _ _ _ (by omega) hl3.2
        refine ⟨_, hr, ⟨by simp; omega, fun b hB hlt' hs' => ?_⟩, fun b hb => ?_, hq4, hk3.2, hl3.2, by simp; omega, World.putObj_heap_same (by omega), (World.putObj_heap_other (by omega)).trans (hk3.1.trans hk2)⟩
        · obtain ⟨g1, g2⟩ := hua.block b (by omega) hlt' hs'
          obtain ⟨g3, g4⟩ := hu.block b (by omega) (by omega) g2
          refine ⟨(World.putObj_heap_other (by omega)).trans (g3.trans ?_), g4⟩
          rw [← hW2, World.putObj_heap_other (by omega)]
          exact g1
        · obtain ⟨h1, _⟩ := hO b hb
          refine (hq4.block b (.inl h1) (by omega)).trans ((ho3 b hb).trans ?_)
          exact (hq2.block b (.inl h1) (by omega)).trans (hqa.block b (.inl h1) (by omega))
      rintro e a3 W3 hp
      cases e with
      | normal =>
        obtain ⟨S', hu, ho3, hi3⟩ := hp
        obtain ⟨W4, hr, hu4, ho4, hq4, m1, m2, m3, hl4, hk4⟩ := fin none S' W3 hu ho3
        exact ⟨_, _, hr, S', hu4, ho4, .inl ⟨rfl, hI _ _ _ _ hi3 (hq4.toO O), m1, m2, m3, hl4, hk4⟩⟩
      | ret =>
        obtain ⟨S', hu, ho3, hi3⟩ := hp
        obtain ⟨W4, hr, hu4, ho4, hq4, m1, m2, m3, hl4, hk4⟩ := fin (some .ret) S' W3 hu ho3
        exact ⟨_, _, hr, S', hu4, ho4, .inr ⟨rfl, .ret, hIx _ _ _ _ hi3 (hq4.toO O), m1, m2, m3, hl4, hk4⟩⟩
      | exit id =>
        obtain ⟨S', hu, ho3, hi3⟩ := hp
        obtain ⟨W4, hr, hu4, ho4, hq4, m1, m2, m3, hl4, hk4⟩ := fin (some (.exit id)) S' W3 hu ho3
        exact ⟨_, _, hr, S', hu4, ho4, .inr ⟨rfl, .exit id, hIx _ _ _ _ hi3 (hq4.toO O), m1, m2, m3, hl4, hk4⟩⟩
      | goto t =>
        obtain ⟨S', hu, ho3, hi3⟩ := hp
        obtain ⟨W4, hr, hu4, ho4, hq4, m1, m2, m3, hl4, hk4⟩ := fin (some (.goto t)) S' W3 hu ho3
        exact ⟨_, _, hr, S', hu4, ho4, .inr ⟨rfl, .goto t, hIx _ _ _ _ hi3 (hq4.toO O), m1, m2, m3, hl4, hk4⟩⟩
      | panic ch => exact hp.elim
      | outgrown => exact hp.elim
    · rintro e W2 ⟨⟨v, rfl⟩, S, (⟨hi, n1, n2, hsz, hl, hk⟩ | ⟨c, hi, n1, n2, hsz, hl, hk⟩)⟩
      · refine ⟨none, _, by have h := run_endLoop (P := P) hl (by rw [hrec]; simp); rw [hrec] at h; exact h, ?_⟩
        exact hdone _ S _ (Nat.le_refl _) (hI _ _ _ _ hi ((putObj_quiet _ _ _ (by omega) n2).toO O)) ((World.putObj_heap_other (by omega)).trans hk)
      · refine ⟨some c, _, by have h := run_endLoop (P := P) hl (by rw [hrec]; simp); rw [hrec] at h; exact h, ?_⟩
        exact hstop _ c S _ (Nat.le_refl _) (hIx _ _ _ _ hi ((putObj_quiet _ _ _ (by omega) n2).toO O)) ((World.putObj_heap_other (by omega)).trans hk)
end Go.KP
