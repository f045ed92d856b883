/-
  Texts of the integers, laid together: Pd, Pe, Prefix, Round, Call, Held, Qb.
-/
import Derived.Deep.QuietTactic
import Derived.BigQuiet
import Derived.Orders
import Derived.KernelRfl
import Derived.Deep.AppendLies
import Derived.OwnWalk
import Derived.OrdersHeld
import Derived.BigRegionIn
import Derived.Deep.RegionHeld3
import Derived.Test.YthkioajalhglfaaGreatDoorZ1
import Derived.Test.YthkioajalhglfaaGreatDoorZ5
namespace Go.Proofs.YthkioajalhglfaaGreatDoor
open Go.RowKit Go.KP Go.KI Go.Shelf
attribute [local go_sem] Oper.semAt_some

theorem backward_any (a : Option Addr) (n c : Nat) (w : World) :
    Calls Tryz.prog 74 #[.slice a n c] w fun e w' => e = .returned (.func (.func 102) #[] #[.pointer (some ⟨w.heap.size, 0, none⟩)]) ∧ w.alloc (.cells #[.slice a n c] 46) = w' := by
  go_enter Tryz.func74, Tryz.ntmps74
  go_wp2_with fail
  go_ret
  exact ⟨rfl, rfl⟩
theorem digits_any (s : ByteArray) (w : World) :
    Calls Tryz.prog 67 #[.string s] w fun e w' => e = .returned (.func (.func 100) #[] #[.pointer (some ⟨w.heap.size, 0, none⟩)]) ∧ w.alloc (.cells #[.string s] 9) = w' := by
  go_enter Tryz.func67, Tryz.ntmps67
  go_wp2_with fail
  go_ret
  exact ⟨rfl, rfl⟩
/-- What the iterator backward reads. -/
def BackAt (bx : Nat) (a : Option Addr) (n c : Nat) (f : Nat → Int) (k : Nat) (W : World) : Prop :=
  W.heap[bx]? = some (.cells #[.slice a n c] 46 (0, 0)) ∧ (k < n → ∃ g o, a = some ⟨g, o, none⟩ ∧ W.cell? ⟨g, o + (n - 1 - k), none⟩ = some (.int .i64 (f k)))
set_option maxRecDepth 100000 in
set_option maxHeartbeats 1000000 in
theorem backSeq_any (bx n c : Nat) (a : Option Addr) (f : Nat → Int) (hn : n ≤ 1000000) :
    IterOn Tryz.prog 102 #[.pointer (some ⟨bx, 0, none⟩)] (fun k => #[.int .i64 ((n : Int) - 1 - k), .int .i64 (f k)]) n (BackAt bx a n c f) := by
  intro l J Jx W hJ hJx hJS hKe hY h0
  refine callsIn_of_wp Tryz.func102 rfl trivial ?_ rfl
  simp only [Tryz.ntmps102, List.size_toArray, List.length_cons, List.length_nil, Nat.reduceAdd, Nat.reduceSub, Array.replicate_succ, Array.replicate_zero, List.push_toArray, List.append_toArray, List.nil_append, List.cons_append]
  have c0 := cell_blk (hKe 0 _ _ (Nat.zero_le _) h0).1 0
  have HJ := hide hJ; have HJx := hide hJx; have HJS := hide hJS; have HY := hide hY; have H0 := hide h0; have HK := hide hKe
  clear hJ hJx hJS hY h0 hKe
  gi_wp2
  clear c0
  gi_loopw [3] (fun i wr => ∃ (k : Nat) (S : Nat → Prop), k ≤ n ∧ i = .int .i64 ((n : Int) - 1 - k) ∧ Hid (J k S wr ∧ W.heap.size ≤ wr.heap.size)) (fun i _ => (intOf i + 1).toNat)
  case atStart => exact ⟨0, _, Nat.zero_le _, by simp, H0.out, Nat.le_refl _⟩
  case round =>
    obtain ⟨k, S, hk, rfl, hin⟩ := hrel
    obtain ⟨hbox, hcl⟩ := HK.out k S wr hk hin.out.1
    have c0 := cell_blk hbox 0
    by_cases hlt : k < n
    · obtain ⟨g, o, rfl, hcell⟩ := hcl hlt
      obtain ⟨m, hm⟩ : ∃ m : Nat, (n : Int) - 1 - (k : Int) = m := ⟨n - 1 - k, by omega⟩
      have hm2 : n - 1 - k = m := by omega
      rw [hm2] at hcell
      have hyy := HY.out k S wr hlt hin.out.1 hin.out.2
      rw [hm] at hyy ⊢
      obtain ⟨fn, tmps, assign, body, hy, hR⟩ := hyy
      have HR := hide hR
      have hm0 : (0 : Int) ≤ (m : Int) := by omega
      have hml : (m : Int) < (n : Int) := by omega
      have HM := hide hm; have HSZ := hide hin.out.2
      clear hR hm hm2 hin hcl hbox
      gi_wp2
      refine ⟨rfl, HR.out.mono ?_⟩
      rintro e W3 ⟨S3, hu3, (⟨rfl, hJ3⟩ | ⟨rfl, hJx3⟩)⟩
      · have HJ3 := hide (And.intro hJ3 (Nat.le_trans HSZ.out hu3.size))
        clear hu3 hJ3 hy HR
        gi_wp2
        go_roundw
        case rel => exact ⟨k + 1, S3, by omega, by have := HM.out; congr 1; omega, HJ3.out⟩
        case measure => simp [intOf]
      · clear hu3 hy HR
        gi_wp2
        refine bodyPost_ret (results_none rfl _ _ _) rfl ?_
        exact ⟨⟨_, rfl⟩, S3, .inr hJx3⟩
    · obtain rfl : k = n := by omega
      have hm : (k : Int) - 1 - (k : Int) = -1 := by omega
      rw [hm]
      clear hm hcl c0 hbox
      gi_wp2
      refine bodyPost_end (results_none rfl _ _ _) rfl ?_
      exact ⟨⟨_, rfl⟩, S, .inl hin.out.1⟩
/-- A digit, from the last one on. -/
def digAt (l : List UInt8) (k : Nat) : Nat := (l[l.length - 1 - k]?.getD 48).toNat - 48
set_option maxRecDepth 100000 in
set_option maxHeartbeats 1000000 in
theorem digitSeq_any (bx : Nat) (s : ByteArray) (hs : s.size ≤ 1000000) (hd : ∀ c ∈ s.data.toList, isDg c = true) :
    IterOn Tryz.prog 100 #[.pointer (some ⟨bx, 0, none⟩)] (fun k => #[.int .i64 k, .int .i64 (digAt s.data.toList k)]) s.size (fun _ W => W.heap[bx]? = some (.cells #[.string s] 9 (0, 0))) := by
  intro l J Jx W hJ hJx hJS hKe hY h0
  refine callsIn_of_wp Tryz.func100 rfl trivial ?_ rfl
  simp only [Tryz.ntmps100, List.size_toArray, List.length_cons, List.length_nil, Nat.reduceAdd, Nat.reduceSub, Array.replicate_succ, Array.replicate_zero, List.push_toArray, List.append_toArray, List.nil_append, List.cons_append]
  have c0 := cell_blk (hKe 0 _ _ (Nat.zero_le _) h0) 0
  have HJ := hide hJ; have HJx := hide hJx; have HJS := hide hJS; have HY := hide hY; have H0 := hide h0; have HK := hide hKe; have HD := hide hd
  clear hJ hJx hJS hY h0 hKe hd
  gi_wp2
  clear c0
  gi_loopw [6] (fun i wr => ∃ (k : Nat) (S : Nat → Prop), k ≤ s.size ∧ i = .int .i64 k ∧ Hid (J k S wr ∧ W.heap.size ≤ wr.heap.size)) (fun i _ => s.size - (intOf i).toNat)
  case atStart => exact ⟨0, _, Nat.zero_le _, rfl, H0.out, Nat.le_refl _⟩
  case round =>
    obtain ⟨k, S, hk, rfl, hin⟩ := hrel
    have c0 := cell_blk (HK.out k S wr hk hin.out.1) 0
    by_cases hlt : k < s.size
    · have e3 : (k : Int) < (s.size : Int) := by omega
      obtain ⟨m, hm⟩ : ∃ m : Nat, (s.size : Int) - 1 - (k : Int) = m := ⟨s.size - 1 - k, by omega⟩
      have hml : m < s.size := by omega
      have hmi : (m : Int) < (s.size : Int) := by omega
      have hat : s.data.toList[m]? = some (s[m]'hml) := by
        have h1 : s.data.toList[m]? = some s.data[m] := by simp
        exact h1
      have hdg := isDg_iff.1 (HD.out _ (List.mem_of_getElem? hat))
      have hda : digAt s.data.toList k = (s[m]'hml).toNat - 48 := by
        unfold digAt
        rw [bytes_len, show s.size - 1 - k = m by omega, hat]
        rfl
      have hyy := HY.out k S wr hlt hin.out.1 hin.out.2
      rw [hda] at hyy
      obtain ⟨y, hyv⟩ : ∃ y : Nat, y = (s[m]'hml).toNat := ⟨_, rfl⟩
      rw [← hyv] at hyy hdg
      have hy2 : ((y - 48 : Nat) : Int) = (y : Int) - 48 := by omega
      rw [hy2] at hyy
      obtain ⟨fn, tmps, assign, body, hy, hR⟩ := hyy
      have HR := hide hR
      have hm0 : (0 : Int) ≤ (m : Int) := by omega
      have y0 : (48 : Int) ≤ (y : Int) := by omega
      have y1 : (y : Int) ≤ 57 := by omega
      have HSZ := hide hin.out.2
      have hyv2 : (s[m]'hml).toNat = y := hyv.symm
      clear hR hin hat hda hy2 hyv hdg
      gi_wp2
      refine ⟨rfl, HR.out.mono ?_⟩
      rintro e W3 ⟨S3, hu3, (⟨rfl, hJ3⟩ | ⟨rfl, hJx3⟩)⟩
      · have HJ3 := hide (And.intro hJ3 (Nat.le_trans HSZ.out hu3.size))
        clear hu3 hJ3 hy HR
        gi_wp2
        go_roundw
        case rel => exact ⟨k + 1, S3, by omega, by go_num, HJ3.out⟩
        case measure => simp [intOf]; omega
      · clear hu3 hy HR
        gi_wp2
        refine bodyPost_ret (results_none rfl _ _ _) rfl ?_
        exact ⟨⟨_, rfl⟩, S3, .inr hJx3⟩
    · obtain rfl : k = s.size := by omega
      have e3 : ¬ (s.size : Int) < (s.size : Int) := by omega
      gi_wp2
      refine bodyPost_end (results_none rfl _ _ _) rfl ?_
      exact ⟨⟨_, rfl⟩, S, .inl hin.out.1⟩
end Go.Proofs.YthkioajalhglfaaGreatDoor
namespace Go.Proofs.YthkioajalhglfaaGreatDoor
open Go.RowKit Go.KP Go.KI Go.Shelf
attribute [local go_sem] Oper.semAt_some

theorem upper_cmp {x y : List Nat} (hx : Lt 1000000000 x) (hy : Lt 1000000000 y) (hl : x.length = y.length) {k : Nat} (hk : k < x.length) (hs : ∀ j, j < k → lat x (x.length - 1 - j) = lat y (x.length - 1 - j)) (hne : lat x (x.length - 1 - k) ≠ lat y (x.length - 1 - k)) :
    CmpRes ((lat x (x.length - 1 - k) : Int) - lat y (x.length - 1 - k)) (lv 1000000000 x) (lv 1000000000 y) := by
  have hd : x.drop (x.length - 1 - k + 1) = y.drop (x.length - 1 - k + 1) := by
    apply List.ext_getElem?
    intro i
    rw [List.getElem?_drop, List.getElem?_drop]
    by_cases hi : x.length - 1 - k + 1 + i < x.length
    · have h1 := hs (k - 1 - i) (by omega)
      rw [show x.length - 1 - (k - 1 - i) = x.length - 1 - k + 1 + i by omega] at h1
      rw [lat_some hi, lat_some (l := y) (by omega), h1]
    · rw [List.getElem?_eq_none (by omega), List.getElem?_eq_none (by omega)]
  rcases Nat.lt_or_gt_of_ne hne with h | h
  · have h1 := lv_top_lt (b := 1000000000) (by omega) hx hl (i := x.length - 1 - k) (by omega) hd h
    exact ⟨by omega, by omega⟩
  · have h1 := lv_top_lt (b := 1000000000) (by omega) hy hl.symm (i := x.length - 1 - k) (by omega) hd.symm h
    exact ⟨by omega, by omega⟩
theorem all_cmp {x y : List Nat} (hl : x.length = y.length) (hs : ∀ j, j < x.length → lat x (x.length - 1 - j) = lat y (x.length - 1 - j)) : x = y := by
  apply List.ext_getElem?
  intro i
  by_cases hi : i < x.length
  · have h1 := hs (x.length - 1 - i) (by omega)
    rw [show x.length - 1 - (x.length - 1 - i) = i by omega] at h1
    rw [lat_some hi, lat_some (l := y) (by omega), h1]
  · rw [List.getElem?_eq_none (by omega), List.getElem?_eq_none (by omega)]
/-- What compare returns. -/
def CompRes (x y : List Nat) (w : World) (e : Ending) (w2 : World) : Prop := ∃ r : Int, e = .returned (.int .i64 r) ∧ CmpRes r (lv 1000000000 x) (lv 1000000000 y) ∧ Below w.heap.size w w2
set_option maxRecDepth 100000 in
set_option maxHeartbeats 2000000 in
theorem compare_any (va vb : Value) (x y : List Nat) (B : Nat) (w : World) (ha : LimbAt B w va x) (hb : LimbAt B w vb y) (hB : B ≤ w.heap.size) (hx : Norm 1000000000 x) (hy : Norm 1000000000 y) (lx : x.length ≤ 100000) (ly : y.length ≤ 100000) :
    Calls Tryz.prog 55 #[va, vb] w (CompRes x y w) := by
  obtain ⟨a0, c0, hva⟩ := ha.form
  obtain ⟨a1, c1, hvb⟩ := hb.form
  subst hva; subst hvb
  have HA := hide ha; have HB := hide hb; have HX := hide hx; have HY := hide hy
  clear ha hb hx hy
  obtain ⟨b0, b1, hs0, hB0⟩ := heap2 w (.cells #[.slice a1 y.length c1] 46) (.cells #[.int .i64 0] 3)
  obtain ⟨w0, hw0⟩ : ∃ w0, (w.alloc (.cells #[.slice a1 y.length c1] 46)).alloc (.cells #[.int .i64 0] 3) = w0 := ⟨_, rfl⟩
  rw [hw0] at b0 b1 hs0 hB0
  have c0' := cell_blk b0 0
  have c1' := cell_blk b1 0
  have f1' := froz_blk b1 0
  have HB0 := hide hB0; have H0 := hide b0; have H1 := hide b1
  have hs0' : w.heap.size + 2 ≤ w0.heap.size := by omega
  clear b0 b1 hs0 hB0
  refine (callsIn_wide (n := 0)).1 ?_
  refine callsIn_of_wp_marks Tryz.func55 rfl trivial ?_ rfl
  simp only [Tryz.ntmps55, List.size_toArray, List.length_cons, List.length_nil, Nat.reduceAdd, Nat.reduceSub, Array.replicate_succ, Array.replicate_zero, List.push_toArray, List.append_toArray, List.nil_append, List.cons_append]
  by_cases hlen : x.length = y.length
  · have hq : ((x.length : Int) != (y.length : Int)) = false := by rw [hlen]; simp
    have HL := hide hlen
    clear hlen
    gi_wp2_with fail
    refine ⟨trivial, rfl, (callsIn_wide.2 (backward_any a0 x.length c0 w0)).mono ?_⟩
    rintro e w1 ⟨rfl, hw1⟩
    obtain ⟨g1, gs1, gb1⟩ := heap1 w0 (.cells #[.slice a0 x.length c0] 46)
    rw [hw1] at g1 gs1 gb1
    have d0 := below_blk gb1 H0.out (by omega)
    have d1 := below_blk gb1 H1.out (by omega)
    have HB1 := hide (HB0.out.trans (gb1.mono (by omega))); have G1 := hide g1; have D0 := hide d0; have D1 := hide d1
    have hs1 : w0.heap.size + 1 = w1.heap.size := by omega
    clear hw1 g1 gs1 gb1 d0 d1 c0' c1' f1' HB0 H0 H1 hq hw0
    gi_wp2_with fail
    refine wp_iter_on (gf := 102) (lb := #[.pointer (some ⟨w0.heap.size, 0, none⟩)]) rfl (enters_of Tryz.func102 (by kernel_rfl) rfl) (backSeq_any w0.heap.size x.length c0 a0 (fun k => ((lat x (x.length - 1 - k) : Nat) : Int)) (by omega)) (fun _ => rfl)
      (fun k S W => S = (fun _ => False) ∧ W.heap[w.heap.size]? = some (.cells #[.slice a1 y.length c1] 46 (0, 0)) ∧ W.heap[w.heap.size + 1]? = some (.cells #[.int .i64 0] 3 (0, 0)) ∧ W.heap[w0.heap.size]? = some (.cells #[.slice a0 x.length c0] 46 (0, 0)) ∧ Below w.heap.size w W ∧ ∀ j, j < k → lat x (x.length - 1 - j) = lat y (x.length - 1 - j))
      (fun c S W => c = .ret ∧ S = (fun _ => False) ∧ Below w.heap.size w W ∧ ∃ r : Int, W.heap[w.heap.size + 1]? = some (.cells #[.int .i64 r] 3 (0, 0)) ∧ CmpRes r (lv 1000000000 x) (lv 1000000000 y)) ?hI ?hIx ?h0 ?hke
      (fun k S a1' W => a1' = { tmps := #[.slice a0 x.length c0, .slice a1 y.length c1, undef, .pointer (some ⟨w.heap.size, 0, none⟩), .pointer (some ⟨w.heap.size + 1, 0, none⟩), .int .i64 ((x.length : Int) - 1 - k), .int .i64 ((lat x (x.length - 1 - k) : Nat) : Int), .slice a0 x.length c0, .int .i64 x.length, .slice a1 y.length c1, .int .i64 y.length, .bool false, undef, undef, undef, undef, undef, .slice a0 x.length c0, .func (.func 102) #[] #[.pointer (some ⟨w0.heap.size, 0, none⟩)], .int .i64 ((x.length : Int) - 1 - k), .int .i64 ((lat x (x.length - 1 - k) : Nat) : Int), undef, undef, undef, undef, undef, undef, undef, undef, undef, undef, undef, undef], defers := [] })
      ?hAx ?hassign ?hS ?hbody ?hdone ?hstop
    case hI =>
      rintro k S W W2 ⟨rfl, e1, e2, e3, hb, hp⟩ hq
      exact ⟨rfl, hq.at_ e1 (.inl (by omega)), hq.at_ e2 (.inl (by omega)), hq.at_ e3 (.inl (by omega)), Quiet.below hb hq (by omega) hb.size, hp⟩
    case hIx =>
      rintro c S W W2 ⟨rfl, rfl, hb, r, e1, hr⟩ hq
      exact ⟨rfl, rfl, Quiet.below hb hq (by omega) hb.size, r, hq.at_ e1 (.inl (by omega)), hr⟩
    case h0 => exact ⟨rfl, D0.out, D1.out, G1.out, HB1.out, fun j hj => by omega⟩
    case hke =>
      rintro k S W hk ⟨rfl, e1, e2, e3, hb, hp⟩
      refine ⟨e3, fun hlt => ?_⟩
      rcases (HA.out.below hb hB).cases with ⟨_, _, _, hnil⟩ | ⟨g, o, cap, hv, hg, hc⟩
      · rw [hnil] at hlt
        simp at hlt
      · injection hv with hv1 hv2 hv3
        exact ⟨g, o, hv1, hc _ (by omega)⟩
    case hAx =>
      rintro k S a1' W l r r2 h _
      exact h
    case hassign =>
      intro l k S W K hsz hSlt hK
      gi_wp2
      exact hK _ _ (Quiet.refl _ _ _) (Upd.refl _ _ _) rfl
    case hS =>
      rintro k S W ⟨rfl, _⟩ b hb
      exact hb.elim
    case hbody =>
      rintro l k S a1' W hk ⟨rfl, e1, e2, e3, hb, hp⟩ rfl hsz
      have q1 := cell_blk e1 0
      have q2 := cell_blk e2 0
      have q3 := froz_blk e2 0
      obtain ⟨m, hm⟩ : ∃ m : Nat, (x.length : Int) - 1 - (k : Int) = m := ⟨x.length - 1 - k, by omega⟩
      have hm2 : x.length - 1 - k = m := by omega
      have hml : m < y.length := by have := HL.out; omega
      have hyc : ∃ g o, a1 = some ⟨g, o, none⟩ ∧ W.cell? ⟨g, o + m, none⟩ = some (.int .i64 (lat y m)) := by
        rcases (HB.out.below hb hB).cases with ⟨_, _, _, hnil⟩ | ⟨g, o, cap, hv, hg, hc⟩
        · rw [hnil] at hml
          simp at hml
        · injection hv with hv1 hv2 hv3
          exact ⟨g, o, hv1, hc _ hml⟩
      obtain ⟨g, o, rfl, q4⟩ := hyc
      have hm0 : (0 : Int) ≤ (m : Int) := by omega
      have hmi : (m : Int) < (y.length : Int) := by omega
      rw [hm, hm2]
      have HP := hide hp; have HBW := hide hb; have E1 := hide e1; have E2 := hide e2; have E3 := hide e3; have HM := hide hm2
      by_cases hne : lat x m = lat y m
      · have hq : ((lat x m : Int) != (lat y m : Int)) = false := by rw [hne]; simp
        have HNE := hide hne
        clear hm hm2 hp hb e1 e2 e3 hne
        gi_wp2
        refine ⟨fun _ => False, Upd.refl _ _ _, rfl, E1.out, E2.out, E3.out, HBW.out, fun j hj => ?_⟩
        rcases Nat.lt_or_ge j k with h | h
        · exact HP.out j h
        · obtain rfl : j = k := by omega
          rw [HM.out]
          exact HNE.out
      · have hq : ((lat x m : Int) != (lat y m : Int)) = true := by
          have : (lat x m : Int) ≠ (lat y m : Int) := by omega
          simpa using this
        have HC := hide (upper_cmp HX.out.lt HY.out.lt HL.out hk hp (by rw [hm2]; exact hne))
        rw [hm2] at HC
        have lx1 := lat_lt (by omega) HX.out.lt m
        have ly1 := lat_lt (by omega) HY.out.lt m
        clear hm hm2 hp hb e1 e2 e3 hne
        gi_wp2
        refine ⟨fun _ => False, (Upd.refl _ _ _).setBox (by simp; omega) _, rfl, rfl, HBW.out.setCell (p := ⟨w.heap.size + 1, 0, none⟩) (by simp) _, _, Boxed.set _ E2.out, HC.out⟩
    case hdone =>
      rintro D S W hD ⟨rfl, e1, e2, e3, hb, hp⟩ hK
      have q2 := cell_blk e2 0
      have q3 := froz_blk e2 0
      have HBW := hide hb; have HK := hide hK; have E2 := hide e2
      have HXY := hide (all_cmp HL.out hp)
      clear hb hK e1 e2 e3 hp
      gi_wp2
      refine ⟨by simp, .inl ⟨_, _, rfl, run_takeDeferred (b := D) ((Below.heap_setCell _ _ _ _ (by simp; omega)).trans HK.out), ?_⟩⟩
      have hK2 : (W.setCell ⟨w.heap.size + 1, 0, none⟩ (.int .i64 0)).heap[D]? = some (.deferred (some [])) := (Below.heap_setCell _ _ _ _ (by simp; omega)).trans HK.out
      have hE : ((W.setCell ⟨w.heap.size + 1, 0, none⟩ (.int .i64 0)).putObj D (.deferred none)).heap[w.heap.size + 1]? = some (.cells #[.int .i64 0] 3 (0, 0)) := (World.putObj_heap_other (by omega)).trans (Boxed.set _ E2.out)
      have hc := cell_blk hE 0
      refine ⟨.int .i64 0, by simp [results, go_sem, hc], 0, rfl, ⟨by rw [HXY.out]; omega, by rw [HXY.out]; simp⟩, (HBW.out.setCell (p := ⟨w.heap.size + 1, 0, none⟩) (by simp) _).trans (belowK_b (w := w) (Nat.le_refl _) _ D _ _ (by omega) hK2 rfl rfl)⟩
    case hstop =>
      rintro D c S W hD ⟨rfl, rfl, hb, r, e1, hr⟩ hK
      have q2 := cell_blk e1 0
      have HBW := hide hb; have HK := hide hK; have E1 := hide e1; have HR := hide hr
      clear hb hK e1 hr
      gi_wp2
      refine ⟨by simp, .inl ⟨_, _, rfl, run_takeDeferred HK.out, ?_⟩⟩
      have hE : (W.putObj D (.deferred none)).heap[w.heap.size + 1]? = some (.cells #[.int .i64 r] 3 (0, 0)) := (World.putObj_heap_other (by omega)).trans E1.out
      have hc := cell_blk hE 0
      refine ⟨.int .i64 r, by simp [results, go_sem, hc], r, rfl, HR.out, HBW.out.trans (belowK_b (w := w) (Nat.le_refl _) _ D _ _ (by omega) HK.out rfl rfl)⟩
  · have hq : ((x.length : Int) != (y.length : Int)) = true := by
      have : (x.length : Int) ≠ (y.length : Int) := by omega
      simpa using this
    have HC := hide (show CmpRes ((x.length : Int) - y.length) (lv 1000000000 x) (lv 1000000000 y) by
      rcases Nat.lt_or_gt_of_ne hlen with h | h
      · have := norm_len_lt (b := 1000000000) (by omega) HX.out.lt HY.out h
        exact ⟨by omega, by omega⟩
      · have := norm_len_lt (b := 1000000000) (by omega) HY.out.lt HX.out h
        exact ⟨by omega, by omega⟩)
    clear hlen
    gi_wp2_with fail
    have hc := cell_blk (Boxed.set (.int .i64 ((x.length : Int) - y.length)) H1.out) 0
    refine ⟨.int .i64 ((x.length : Int) - y.length), by simp [results, go_sem, hc], ⟨_, rfl, HC.out, HB0.out.setCell (p := ⟨w.heap.size + 1, 0, none⟩) (by simp) _⟩⟩
end Go.Proofs.YthkioajalhglfaaGreatDoor
namespace Go.KP
open Go

/-- A world of a class. -/
structure Of (C : World → Prop) where
  w : World
  h : C w
abbrev Cls (C : World → Prop) (w : World) : Prop := ∃ x : Of C, w = x.w
theorem Cls.mk {C : World → Prop} {w : World} (h : C w) : Cls C w := ⟨⟨w, h⟩, rfl⟩
theorem Cls.out {C : World → Prop} {w : World} (h : Cls C w) : C w := by
  obtain ⟨x, rfl⟩ := h
  exact x.h

section
variable {P : Program} {md : Region.Mode} {C : World → Prop}

/-- Operation i waits for operation j. -/
def waits (md : Region.Mode) (ops : Array Oper) (i j : Nat) : Prop := ∃ o, ops[i]? = some o ∧ ∃ e ∈ o.after, Region.binds md e = true ∧ e.on = j
theorem ready_iff {ops : Array Oper} {listed : Array Bool} {i : Nat} : i ∈ Region.ready md ops listed ↔ i < ops.size ∧ listed.getD i true = false ∧ ∀ j, waits md ops i j → listed.getD j false = true := by
  unfold Region.ready
  rw [List.mem_filter, List.mem_range]
  constructor
  · rintro ⟨h1, h2⟩
    simp only [Bool.and_eq_true, Bool.not_eq_true'] at h2
    refine ⟨h1, h2.1, ?_⟩
    rintro j ⟨o, ho, e, he, hb, rfl⟩
    have h3 := h2.2
    rw [ho] at h3
    simp only [Option.map_some, Option.getD_some, Array.all_eq_true_iff_forall_mem] at h3
    have h4 := h3 e he
    rw [hb] at h4
    simpa using h4
  · rintro ⟨h1, h2, h3⟩
    refine ⟨h1, ?_⟩
    simp only [Bool.and_eq_true, Bool.not_eq_true']
    refine ⟨h2, ?_⟩
    rw [Array.getElem?_eq_getElem h1]
    simp only [Option.map_some, Option.getD_some, Array.all_eq_true_iff_forall_mem]
    intro e he
    by_cases hb : Region.binds md e = true
    · rw [h3 e.on ⟨_, Array.getElem?_eq_getElem h1, e, he, hb, rfl⟩]
      simp
    · simp [hb]

def waitsB (md : Region.Mode) (l : List Oper) (i j : Nat) : Bool := match l[i]? with
  | some o => o.after.any fun e => Region.binds md e && e.on == j
  | none => false
theorem waitsB_iff {l : List Oper} {i j : Nat} : waitsB md l i j = true ↔ waits md l.toArray i j := by
  unfold waitsB waits
  rw [List.getElem?_toArray]
  cases l[i]? with
  | none => simp
  | some o =>
    simp only [Option.some.injEq, exists_eq_left']
    rw [Array.any_eq_true]
    simp only [Bool.and_eq_true, beq_iff_eq]
    constructor
    · rintro ⟨i, h, h1, h2⟩
      exact ⟨_, Array.getElem_mem h, h1, h2⟩
    · rintro ⟨e, he, h1, h2⟩
      obtain ⟨i, h, rfl⟩ := Array.mem_iff_getElem.1 he
      exact ⟨i, h, h1, h2⟩

/-- What is looked at. -/
def gateB (md : Region.Mode) (l : List Oper) (k n : Nat) : Bool :=
  ((List.range n).all fun i => match l[i]? with
    | some o => o.guard.isNone && o.after.all fun e => !Region.binds md e || decide (e.on < i)
    | none => false) &&
  ((List.range l.length).all fun r => decide (r < n) || (List.range l.length).any (fun j => decide (n ≤ j) && waitsB md l r j) ||
    (List.range n).all fun j => decide (j < k) || waitsB md l r j || (List.range n).any fun m => decide (j < m) && waitsB md l m j)
theorem gate_before {l : List Oper} {k n : Nat} (h : gateB md l k n = true) (i : Nat) (hi : i < n) : i < l.length ∧ (∀ o, l[i]? = some o → o.guard = none) ∧ ∀ j, waits md l.toArray i j → j < i := by
  unfold gateB at h
  rw [Bool.and_eq_true] at h
  have h1 := (List.all_eq_true.1 h.1) i (List.mem_range.2 hi)
  cases ho : l[i]? with
  | none => rw [ho] at h1; cases h1
  | some o =>
    rw [ho] at h1
    simp only [Bool.and_eq_true, Option.isNone_iff_eq_none, Array.all_eq_true_iff_forall_mem] at h1
    refine ⟨(List.getElem?_eq_some_iff.1 ho).1, fun o2 h2 => by cases h2; exact h1.1, ?_⟩
    rintro j ⟨o2, ho2, e, he, hb, rfl⟩
    rw [List.getElem?_toArray, ho] at ho2
    cases ho2
    have h4 := h1.2 e he
    rw [hb] at h4
    simpa using h4
theorem gate_behind {l : List Oper} {k n : Nat} (h : gateB md l k n = true) (r : Nat) (hr : r < l.length) (hn : n ≤ r) : (∃ j, n ≤ j ∧ waits md l.toArray r j) ∨ ∀ j, j < n → j < k ∨ waits md l.toArray r j ∨ ∃ m, m < n ∧ j < m ∧ waits md l.toArray m j := by
  unfold gateB at h
  rw [Bool.and_eq_true] at h
  have h1 := (List.all_eq_true.1 h.2) r (List.mem_range.2 hr)
  simp only [Bool.or_eq_true, decide_eq_true_eq, List.any_eq_true, List.all_eq_true, List.mem_range, Bool.and_eq_true] at h1
  rcases h1 with (h1 | ⟨j, _, h2, h3⟩) | h1
  · omega
  · exact .inl ⟨j, h2, waitsB_iff.1 h3⟩
  · refine .inr fun j hj => ?_
    rcases h1 j hj with (h2 | h2) | ⟨m, h2, h3, h4⟩
    · exact .inl h2
    · exact .inr (.inl (waitsB_iff.1 h2))
    · exact .inr (.inr ⟨m, h2, h3, waitsB_iff.1 h4⟩)

/-- The same marks, none for what lies behind. -/
def padded (L : Array Bool) (m : Nat) : Array Bool := L ++ Array.replicate m false
theorem padded_f {L : Array Bool} {m j : Nat} : (padded L m).getD j false = L.getD j false := by
  unfold padded
  simp only [Array.getD_eq_getD_getElem?]
  by_cases h : j < L.size
  · rw [Array.getElem?_append_left h]
  · rw [Array.getElem?_append_right (by omega), Array.getElem?_eq_none (xs := L) (by omega)]
    by_cases h2 : j - L.size < m
    · simp [h2]
    · simp [h2]
theorem padded_t {L : Array Bool} {m j : Nat} (h : j < L.size) : (padded L m).getD j true = L.getD j true := by
  unfold padded
  simp only [Array.getD_eq_getD_getElem?]
  rw [Array.getElem?_append_left h]
theorem padded_set {L : Array Bool} {m j : Nat} (h : j < L.size) : (padded L m).setIfInBounds j true = padded (L.setIfInBounds j true) m := by
  unfold padded
  rw [Array.setIfInBounds_append_left h]
theorem getD_tf {L : Array Bool} {j : Nat} (h : j < L.size) : L.getD j true = L.getD j false := by
  simp [h]
def down (md : Region.Mode) (ops : Array Oper) (L : Array Bool) : Prop := ∀ i j, L.getD i false = true → waits md ops i j → L.getD j false = true
theorem waits_take {l : List Oper} {n i j : Nat} (hi : i < n) : waits md (l.take n).toArray i j ↔ waits md l.toArray i j := by
  unfold waits
  simp only [List.getElem?_toArray, List.getElem?_take, hi, if_true]

theorem some_ready {l : List Oper} {k n : Nat} (hg : gateB md l k n = true) {L : Array Bool} (hL : L.size = n) : ∀ j, j < n → L.getD j false = false → ∃ i, i ∈ Region.ready md (l.take n).toArray L := by
  intro j
  induction j using Nat.strongRecOn with
  | _ j ih =>
    intro hj hf
    by_cases hall : ∀ m, waits md (l.take n).toArray j m → L.getD m false = true
    · refine ⟨j, ready_iff.2 ⟨by simp; have := (gate_before hg j hj).1; omega, ?_, hall⟩⟩
      rw [getD_tf (by omega)]
      exact hf
    · obtain ⟨m, hm⟩ := Classical.not_forall.1 hall
      obtain ⟨h1, h2⟩ := Classical.not_imp.1 hm
      have h3 := (gate_before hg j hj).2.2 m ((waits_take hj).1 h1)
      exact ih m h3 (by omega) (by simpa using h2)

theorem count_set {L : Array Bool} {i : Nat} (hi : i < L.size) (hf : L.getD i false = false) : (L.setIfInBounds i true).toList.count false + 1 = L.toList.count false := by
  have hi' : i < L.toList.length := by simpa using hi
  have h1 : L.toList[i]? = some false := by
    rw [List.getElem?_eq_getElem hi']
    simpa [hi] using hf
  rw [Array.toList_setIfInBounds]
  clear hf hi
  generalize L.toList = l at *
  induction l generalizing i with
  | nil => simp at hi'
  | cons b r ih =>
    cases i with
    | zero =>
      simp at h1
      subst h1
      simp
    | succ i =>
      simp only [List.set_cons_succ, List.count_cons]
      have := ih (i := i) (by simpa using hi') (by simpa using h1)
      omega

theorem any_prefix {l : List Oper} {Q : Exit → Act → World → Prop} {k n f : Nat} {Qf : Act → Prop} (hg : gateB md l k n = true) (hn : n ≤ l.length)
    (hQf : ∀ a w, C w → Qf a → wpAny P md l.toArray Q f (padded (Array.replicate n true) (l.length - n)) a w) : ∀ (fuel : Nat) (L : Array Bool) (a : Act), L.size = n → down md l.toArray L → (∀ j, j < k → j < n → L.getD j false = true) → L.toList.count false = fuel →
    wpAnyQ P md (l.take n).toArray C Qf fuel L a → ∀ w, C w → wpAny P md l.toArray Q (fuel + f) (padded L (l.length - n)) a w := by
  intro fuel
  induction fuel with
  | zero =>
    intro L a hL hd hk hc h w hw
    have : L = Array.replicate n true := by
      have hne := List.count_eq_zero.1 hc
      apply Array.ext
      · simp [hL]
      · intro i h1 h2
        rw [Array.getElem_replicate]
        cases hx : L[i] with
        | true => rfl
        | false => exact absurd (by rw [← hx]; simp) hne
    subst this
    rw [Nat.zero_add]
    exact hQf a w hw h.2
  | succ fuel ih =>
    intro L a hL hd hk hc h w hw
    obtain ⟨j0, hj0, hjf⟩ : ∃ j, j < n ∧ L.getD j false = false := by
      have hmem : false ∈ L.toList := List.count_pos_iff.1 (by omega)
      obtain ⟨j, hj, hx⟩ := List.mem_iff_getElem.1 hmem
      refine ⟨j, by simpa [hL] using hj, ?_⟩
      have : j < L.size := by simpa using hj
      simpa [this] using hx
    have hpre : ∀ i, i ∈ Region.ready md l.toArray (padded L (l.length - n)) → i < n ∧ i ∈ Region.ready md (l.take n).toArray L := by
      intro i hi
      obtain ⟨h1, h2, h3⟩ := ready_iff.1 hi
      have hin : i < n := by
        rcases Nat.lt_or_ge i n with h | h
        · exact h
        · exfalso
          have hil : i < l.length := by simpa using h1
          rcases gate_behind hg i hil h with ⟨j, hj, hw⟩ | hall
          · have := h3 j hw
            rw [padded_f, Array.getD_eq_getD_getElem?, Array.getElem?_eq_none (by omega)] at this
            simp at this
          · have key : ∀ d j, n - j = d → j < n → L.getD j false = true := by
              intro d
              induction d using Nat.strongRecOn with
              | _ d ihd =>
                intro j hdj hj
                rcases hall j hj with h4 | h4 | ⟨m, h4, h5, h6⟩
                · exact hk j h4 hj
                · have := h3 j h4
                  rwa [padded_f] at this
                · exact hd m j (ihd (n - m) (by omega) m rfl h4) h6
            have := key _ j0 rfl hj0
            rw [hjf] at this
            cases this
      refine ⟨hin, ready_iff.2 ⟨by simp; omega, ?_, fun j hj => ?_⟩⟩
      · rwa [padded_t (by omega)] at h2
      · have := h3 j ((waits_take hin).1 hj)
        rwa [padded_f] at this
    have hback : ∀ i, i ∈ Region.ready md (l.take n).toArray L → i ∈ Region.ready md l.toArray (padded L (l.length - n)) := by
      intro i hi
      obtain ⟨h1, h2, h3⟩ := ready_iff.1 hi
      have hin : i < n := by simp at h1; omega
      refine ready_iff.2 ⟨by simp; omega, ?_, fun j hj => ?_⟩
      · rwa [padded_t (by omega)]
      · rw [padded_f]
        exact h3 j ((waits_take hin).2 hj)
    rw [Nat.add_right_comm]
    refine ⟨fun h0 => ?_, fun i hi => ?_⟩
    · obtain ⟨i, hi⟩ := some_ready hg hL j0 hj0 hjf
      have := hback i hi
      rw [h0] at this
      cases this
    · obtain ⟨hin, hr⟩ := hpre i hi
      have hq := h.2 i hr
      obtain ⟨r1, r2, r3⟩ := ready_iff.1 hr
      have hiL : i < L.size := by omega
      have hfi : L.getD i false = false := by rw [← getD_tf hiL]; exact r2
      obtain ⟨b1, b2, b3⟩ := gate_before hg i hin
      have hd' : down md l.toArray (L.setIfInBounds i true) := by
        intro x y hx hxy
        have hmono : ∀ y, L.getD y false = true → (L.setIfInBounds i true).getD y false = true := by
          intro y hy
          by_cases hyi : y = i
          · subst hyi; rw [hfi] at hy; cases hy
          · simpa [Array.getD_eq_getD_getElem?, Array.getElem?_setIfInBounds_ne (Ne.symm hyi)] using hy
        by_cases hxi : x = i
        · subst hxi
          exact hmono y (r3 y ((waits_take hin).2 hxy))
        · have hx' : L.getD x false = true := by simpa [Array.getD_eq_getD_getElem?, Array.getElem?_setIfInBounds_ne (Ne.symm hxi)] using hx
          exact hmono y (hd x y hx' hxy)
      have hk' : ∀ j, j < k → j < n → (L.setIfInBounds i true).getD j false = true := by
        intro j h1 h2
        have hj := hk j h1 h2
        by_cases hji : j = i
        · subst hji; rw [hfi] at hj; cases hj
        · simpa [Array.getD_eq_getD_getElem?, Array.getElem?_setIfInBounds_ne (Ne.symm hji)] using hj
      have hnext : ∀ a' w', C w' → wpAnyQ P md (l.take n).toArray C Qf fuel (L.setIfInBounds i true) a' → wpAny P md l.toArray Q (fuel + f) ((padded L (l.length - n)).setIfInBounds i true) a' w' := by
        intro a' w' hw' h'
        rw [padded_set hiL]
        exact ih _ a' (by simpa using hL) hd' hk' (by have := count_set hiL hfi; omega) h' w' hw'
      unfold qOp at hq
      unfold wpOp
      have e1 : (l.take n).toArray[i]? = some l[i] := by simp [hin, b1]
      have e2 : l.toArray[i]? = some l[i] := by simp [b1]
      rw [e1] at hq
      rw [e2]
      have hgd : l[i].guard = none := b2 _ (List.getElem?_eq_getElem b1)
      have hw1 : ∀ ys, Region.wanted l[i] ys = true := fun ys => by simp [Region.wanted, hgd]
      simp only [hw1, if_true] at hq ⊢
      exact .inl (Oper.wp_of_quiet hw hnext hq)

/-- Behind the first n each operation waits for the one before it. -/
def seqB (md : Region.Mode) (l : List Oper) (n : Nat) : Bool := (List.range l.length).all fun r => decide (r < n) || ((decide (r ≤ n) || waitsB md l r (r - 1)) && (List.range l.length).all fun j => !waitsB md l r j || decide (j < r)) && match l[r]? with
  | some o => o.after.all fun e => !Region.binds md e || decide (e.on < r)
  | none => true
theorem seq_waits {l : List Oper} {n : Nat} (h : seqB md l n = true) (r : Nat) (hr : r < l.length) (hn : n ≤ r) : (n < r → waits md l.toArray r (r - 1)) ∧ ∀ j, waits md l.toArray r j → j < r := by
  unfold seqB at h
  have h1 := (List.all_eq_true.1 h) r (List.mem_range.2 hr)
  simp only [Bool.or_eq_true, Bool.and_eq_true, decide_eq_true_eq] at h1
  rcases h1 with h1 | ⟨⟨h1, _⟩, h3⟩
  · omega
  · refine ⟨fun h2 => ?_, ?_⟩
    · rcases h1 with h1 | h1
      · omega
      · exact waitsB_iff.1 h1
    · rintro j ⟨o, ho, e, he, hb, rfl⟩
      rw [List.getElem?_toArray] at ho
      rw [ho] at h3
      simp only [Array.all_eq_true_iff_forall_mem] at h3
      have h4 := h3 e he
      rw [hb] at h4
      simpa using h4

theorem any_seq {l : List Oper} {Q : Exit → Act → World → Prop} {n : Nat} (hs : seqB md l n = true) : ∀ (rest : List Oper) (s : Nat) (a : Act) (w : World), (∀ j, rest[j]? = l[s + j]?) → n ≤ s → rest.length + s = l.length →
    wpList P l.toArray Q rest a w → wpAny P md l.toArray Q rest.length (padded (Array.replicate s true) (l.length - s)) a w := by
  intro rest
  induction rest with
  | nil =>
    intro s a w _ hns hlen h
    refine ⟨List.eq_nil_iff_forall_not_mem.2 fun i hi => ?_, h⟩
    obtain ⟨h1, h2, _⟩ := ready_iff.1 hi
    have h3 : i < l.length := by simpa using h1
    simp at hlen
    rw [padded_t (by simp; omega)] at h2
    simp [show i < s by omega] at h2
  | cons o rest ih =>
    intro s a w hl hns hlen h
    have hsl : s < l.length := by simp at hlen; omega
    have ho : l[s]? = some o := by simpa using (hl 0).symm
    have hrs : s ∈ Region.ready md l.toArray (padded (Array.replicate s true) (l.length - s)) := by
      refine ready_iff.2 ⟨by simpa using hsl, ?_, fun j hj => ?_⟩
      · unfold padded
        rw [Array.getD_eq_getD_getElem?, Array.getElem?_append_right (by simp)]
        simp [show 0 < l.length - s by omega]
      · have := (seq_waits hs s hsl hns).2 j hj
        rw [padded_f]
        simp [this]
    have honly : ∀ i, i ∈ Region.ready md l.toArray (padded (Array.replicate s true) (l.length - s)) → i = s := by
      intro i hi
      obtain ⟨h1, h2, h3⟩ := ready_iff.1 hi
      have h1' : i < l.length := by simpa using h1
      rcases Nat.lt_trichotomy i s with h4 | h4 | h4
      · rw [padded_t (by simpa using h4)] at h2
        simp [h4] at h2
      · exact h4
      · have := h3 (i - 1) ((seq_waits hs i h1' (by omega)).1 (by omega))
        rw [padded_f] at this
        simp [show ¬ i - 1 < s by omega] at this
    refine ⟨fun h0 => (by rw [h0] at hrs; cases hrs), fun i hi => ?_⟩
    obtain rfl := honly i hi
    have hset : (padded (Array.replicate i true) (l.length - i)).setIfInBounds i true = padded (Array.replicate (i + 1) true) (l.length - (i + 1)) := by
      unfold padded
      apply Array.ext
      · simp; omega
      · intro j h1 h2
        simp at h1 h2
        rw [Array.getElem_setIfInBounds (by simp; omega)]
        by_cases hj : i = j
        · simp [hj]
        · rw [if_neg hj]
          rcases Nat.lt_or_ge j i with h3 | h3
          · rw [Array.getElem_append_left (by simpa using h3), Array.getElem_append_left (by simp; omega)]
            simp
          · rw [Array.getElem_append_right (by simpa using h3), Array.getElem_append_right (by simp; omega)]
            simp
    have hnext : ∀ a' w', wpList P l.toArray Q rest a' w' → wpAny P md l.toArray Q rest.length ((padded (Array.replicate i true) (l.length - i)).setIfInBounds i true) a' w' := by
      intro a' w' h'
      rw [hset]
      exact ih (i + 1) a' w' (fun j => by have := hl (j + 1); simpa [Nat.add_assoc, Nat.add_comm 1 j] using this) (by omega) (by simp at hlen; omega) h'
    unfold wpOp
    rw [List.getElem?_toArray, ho]
    unfold wpList at h
    by_cases hw : Region.wanted o (yielded l.toArray a.tmps) = true
    · simp only [hw, if_true] at h ⊢
      exact h.imp (fun h => Oper.wp_mono hnext h) id
    · simp only [hw] at h ⊢
      exact hnext _ _ h

/-- **A region that draws its order: its first n operations quiet in the class C, the rest in order.** -/
theorem region_prefix {id : Nat} {Q : Exit → Act → World → Prop} {a : Act} {w : World} {l : List Oper} (n : Nat) (hm : P.follows .mixedOrders = true) (hn : n ≤ l.length) (hno : Region.noSelect (l.take n).toArray = true)
    (hlex : Region.lexFrom .any (l.take n).toArray n 0 (Array.replicate n false) = true) (hg : gateB .any l 0 n = true) (hs : seqB .any l n = true) (hC : C { w with drawn := w.drawn + 1 })
    (h : wpQuiet P (l.take n).toArray C (fun a' => ∀ w', C w' → wpList P l.toArray Q (l.drop n) a' w') (l.take n) a) : (Code.region id l.toArray true).wp P Q a w := by
  refine wp_region_any hm ?_
  have hlt : (l.take n).length = n := by simp; omega
  have h1 := wpAnyQ_lex (P := P) (C := C) (md := .any) hno (l.take n) 0 (Array.replicate n false) a (by simp) (by rw [hlt]; exact hlex) h
  rw [hlt] at h1
  have h2 := any_prefix (P := P) (C := C) (Q := Q) (f := (l.drop n).length) (Qf := fun a' => ∀ w', C w' → wpList P l.toArray Q (l.drop n) a' w') hg hn (fun a2 w2 hw2 h3 => any_seq hs (l.drop n) n a2 w2 (fun j => by simp) (Nat.le_refl _) (by simp; omega) (h3 w2 hw2))
    n (Array.replicate n false) a (by simp) (fun i j hi => by simp [Array.getD_eq_getD_getElem?, Array.getElem?_replicate] at hi; split at hi <;> simp at hi) (fun j hj => by omega) (by simp) h1 _ hC
  have e : padded (Array.replicate n false) (l.length - n) = Array.replicate l.toArray.size false := by
    unfold padded
    rw [Array.replicate_append_replicate]
    congr 1
    simp
    omega
  rw [e] at h2
  have e2 : n + (l.drop n).length = l.toArray.size := by simp; omega
  rwa [e2] at h2

/-- The same where the first operation of all only yields (it may come up whenever). -/
theorem region_prefix1 {id : Nat} {Q : Exit → Act → World → Prop} {a : Act} {w : World} {l : List Oper} (n : Nat) (o0 : Oper) (v : Value) (hm : P.follows .mixedOrders = true) (hn : n ≤ l.length) (h0n : 0 < n) (hno : Region.noSelect l.toArray = true)
    (ho : l[0]? = some o0) (hy : Yields P l.toArray o0 v a) (hr : (Region.ready .any l.toArray (Array.replicate l.toArray.size false)).contains 0 = true) (hf : Region.free .any l.toArray (Array.replicate l.toArray.size false) 0 = true)
    (hlex : Region.lexFrom .any (l.take n).toArray (n - 1) 1 ((Array.replicate n false).setIfInBounds 0 true) = true) (hg : gateB .any l 1 n = true) (hs : seqB .any l n = true) (hC : C { w with drawn := w.drawn + 1 })
    (h : wpQuiet P (l.take n).toArray C (fun a' => ∀ w', C w' → wpList P l.toArray (fun e a w => e = .normal ∧ Q .normal a w) (l.drop n) a' w') ((l.take n).drop 1) (a.put o0.dst v)) : (Code.region id l.toArray true).wp P Q a w := by
  refine Code.wp_mono (Q := fun e a w => e = .normal ∧ Q .normal a w) (fun e a w ⟨he, hq⟩ => by rw [he]; exact hq) (wp_region_any hm ?_)
  have hlt : ((l.take n).drop 1).length = n - 1 := by simp; omega
  have hno1 : Region.noSelect (l.take n).toArray = true := by
    unfold Region.noSelect at hno ⊢
    rw [Array.all_eq_true_iff_forall_mem] at hno ⊢
    intro x hx
    exact hno x (by simpa using List.mem_of_mem_take (by simpa using hx))
  have h1 := wpAnyQ_lex (P := P) (C := C) (md := .any) hno1 ((l.take n).drop 1) 1 ((Array.replicate n false).setIfInBounds 0 true) (a.put o0.dst v) (fun j => by rw [Nat.add_comm 1 j]; simp) (by rw [hlt]; exact hlex) h
  rw [hlt] at h1
  have hcnt := count_set (L := Array.replicate n false) (i := 0) (by simpa using h0n) (by simp [h0n])
  have hfst : ∀ i, ((Array.replicate n false).setIfInBounds 0 true).getD i false = true → i = 0 := by
    intro i hi
    rcases Nat.eq_zero_or_pos i with h | h
    · exact h
    · rw [Array.getD_eq_getD_getElem?, Array.getElem?_setIfInBounds_ne (by omega)] at hi
      simp [Array.getElem?_replicate] at hi
      split at hi <;> simp at hi
  have h2 := any_prefix (P := P) (C := C) (Q := fun e a w => e = .normal ∧ Q .normal a w) (f := (l.drop n).length) (Qf := fun a' => ∀ w', C w' → wpList P l.toArray (fun e a w => e = .normal ∧ Q .normal a w) (l.drop n) a' w') hg hn (fun a2 w2 hw2 h3 => any_seq hs (l.drop n) n a2 w2 (fun j => by simp) (Nat.le_refl _) (by simp; omega) (h3 w2 hw2))
    (n - 1) ((Array.replicate n false).setIfInBounds 0 true) (a.put o0.dst v) (by simp) (fun i j hi hw => by
      obtain rfl := hfst i hi
      have := (gate_before hg 0 h0n).2.2 j hw
      omega) (fun j hj _ => by
      obtain rfl : j = 0 := by omega
      simp [Array.getD_eq_getD_getElem?, h0n]) (by simp at hcnt ⊢; omega) h1 _ hC
  rw [← padded_set (by simpa using h0n)] at h2
  have e : padded (Array.replicate n false) (l.length - n) = Array.replicate l.toArray.size false := by
    unfold padded
    rw [Array.replicate_append_replicate]
    congr 1
    simp
    omega
  rw [e] at h2
  have e2 : l.toArray.size = (n - 1 + (l.drop n).length) + 1 := by simp; omega
  have e3 : ∀ m, m = l.toArray.size → wpAny P .any l.toArray (fun e a w => e = .normal ∧ Q .normal a w) m (Array.replicate l.toArray.size false) a { w with drawn := w.drawn + 1 } := by
    intro m hm2
    rw [e2] at hm2
    subst hm2
    exact wpAny_first (by simpa using ho) (Region.noSelect_spec hno) (fun c a w hx => by cases hx.1) _ _ _ _ (Region.free_spec (by simpa using ho) hf) (by simpa using hr) hy h2
  exact e3 _ rfl
end

/-- append, in a plain walk: where the new slice lies is told. -/
theorem pl_append {P : Program} {Q : Exit → Act → World → Prop} {a : Act} (w : World) {ops : Array Oper} {rest : List Oper} {o : Oper}
    (hg : o.guard = none) (s x : Operand) (t : TypeId) (hop : o.op = Op.call { callee := Callee.builtin Builtin.append, args := #[s, x], argTypes := #[t, t] })
    (base : Nat) (e : TypeId) (i : TypeInfo) (z : Value) (size bytes : Nat) (h1 : P.underlying t = some (.slice e)) (h2 : P.info? e = some i) (h3 : i.zero = some z) (h4 : i.size = size) (h5 : i.bytes = bytes) (h6 : z.cells.size = size) (h7 : 0 < size)
    (v : Value) (k : Nat) (xs : List Value) (hs : a.eval s = v) (hown : w.ownsRow base e size v k xs) (ad : Addr) (m c : Nat) (news : List Value) (hx : a.eval x = .slice (some ad) m c) (hn : news.length = m * size)
    (hc : ∀ j u, news[j]? = some u → w.cell? (ad.add j) = some u) (h1c : ∀ u ∈ news, u.oneCell' = true) (hm : 0 < m) (b1 : k + m ≤ maxLen) (b2 : (k + m) * bytes ≤ 140737488355328) (b3 : base ≤ w.heap.size)
    (hK : ∀ g cap w', w'.ownsRow base e size (.slice (some ⟨g, 0, none⟩) (k + m) cap) (k + m) (xs ++ news) → w.grownBy w' v.ownBlock → (v.ownBlock = some g ∨ w.heap.size ≤ g) → g < w'.heap.size → wpList P ops Q rest (a.put o.dst (.slice (some ⟨g, 0, none⟩) (k + m) cap)) w') :
    wpList P ops Q (o :: rest) a w := by
  unfold wpList
  have hw : Region.wanted o (yielded ops a.tmps) = true := by simp [Region.wanted, hg]
  rw [if_pos hw]
  exact .inl (wp_append_lies w s x t hop base e i z size bytes h1 h2 h3 h4 h5 h6 h7 v k xs hs hown ad m c news hx hn hc h1c hm b1 b2 b3 w.heap.size rfl
    (fun g cap w' r1 r2 r3 r4 => hK g cap w' r1 r2 (r3.imp id (fun h => by omega)) r4))
end Go.KP
namespace Go.KP
open Go

section
variable {P : Program} {C : World → Prop}
theorem round_prefix {id : Nat} {Q : Exit → Act → World → Prop} {a : Act} {w : World} {l : List Oper} {r : Nat} (n : Nat) (hm : P.follows .mixedOrders = true) (hn : n ≤ l.length) (hno : Region.noSelect (l.take n).toArray = true)
    (hlex : Region.lexFrom .any (l.take n).toArray n 0 (Array.replicate n false) = true) (hg : gateB .any l 0 n = true) (hs : seqB .any l n = true) (hd : noDefer l.toArray = true) (hC : C { w with drawn := w.drawn + 1 })
    (h : wpQuiet P (l.take n).toArray C (fun a' => ∀ w', C w' → wpList P l.toArray (fun e a2 w2 => e = .normal ∧ Q .normal a2 w2) (l.drop n) a' w') (l.take n) a) : (Code.region id l.toArray true).wpIn (Fence.wide.inRound r) 0 P Q a w := by
  refine wpIn_mono (Q := fun e a2 w2 => e = .normal ∧ Q .normal a2 w2) (wpIn_region_draw fun t => ?_) (fun e a2 w2 ⟨he, hq⟩ => by rw [he]; exact hq)
  refine opsIn_of_ops (fun _ _ hx => by cases hx.1) (noDefer_spec hd) _ _ _ ?_
  simp only [Region.schedule, hm, Bool.true_or, if_true]
  refine wpAny_sound l.toArray.size t _ a _ ?_
  have hlt : (l.take n).length = n := by simp; omega
  have h1 := wpAnyQ_lex (P := P) (C := C) (md := .any) hno (l.take n) 0 (Array.replicate n false) a (by simp) (by rw [hlt]; exact hlex) h
  rw [hlt] at h1
  have h2 := any_prefix (P := P) (C := C) (Q := fun e a2 w2 => e = .normal ∧ Q .normal a2 w2) (f := (l.drop n).length) (Qf := fun a' => ∀ w', C w' → wpList P l.toArray (fun e a2 w2 => e = .normal ∧ Q .normal a2 w2) (l.drop n) a' w') hg hn (fun a2 w2 hw2 h3 => any_seq hs (l.drop n) n a2 w2 (fun j => by simp) (Nat.le_refl _) (by simp; omega) (h3 w2 hw2))
    n (Array.replicate n false) a (by simp) (fun i j hi => by simp [Array.getD_eq_getD_getElem?, Array.getElem?_replicate] at hi; split at hi <;> simp at hi) (fun j hj => by omega) (by simp) h1 _ hC
  have e : padded (Array.replicate n false) (l.length - n) = Array.replicate l.toArray.size false := by
    unfold padded
    rw [Array.replicate_append_replicate]
    congr 1
    simp
    omega
  rw [e] at h2
  have e2 : n + (l.drop n).length = l.toArray.size := by simp; omega
  rwa [e2] at h2
end
end Go.KP
namespace Go.KP
open Go

section
variable {P : Program} {C : World → Prop}
/-- The marks behind the first n operations; the next one. -/
def marksAt (n m : Nat) : Array Bool := padded (Array.replicate n true) m
theorem wp_only {o : Oper} {a : Act} {w : World} {K K' : Act → World → Prop} {Q Q' : Exit → Act → World → Prop} (hK : ∀ a w, K a w → K' a w) (hQ : ∀ e a w, e ≠ .normal → ¬ Q e a w) (hL : ¬ LetsOut Q) (h : o.wp P a w K Q) : o.wp P a w K' Q' := by
  unfold Oper.wp at *
  generalize (execOp a.eval o).run P w = r at *
  cases r with
  | ok n w' =>
    cases n <;> simp only [Oper.upon] at h ⊢ <;>
      first
        | exact hK _ _ h
        | (refine Calls.mono h (fun e w'' he => ?_)
           cases e
           · exact hK _ _ he
           · exact (hQ _ _ _ (by simp) he).elim
           · exact (hL he).elim)
        | exact Rows.mono h (fun _ _ he => hK _ _ he)
  | halt x w' => cases x <;> simp only [Oper.upon] at h ⊢ <;> exact (hQ _ _ _ (by simp) h).elim
theorem wpAny_one {Q : Exit → Act → World → Prop} {l : List Oper} {n : Nat} {o : Oper} (ho : l[n]? = some o) (hr : Region.ready .any l.toArray (marksAt n (l.length - n)) = [n]) (hno : Region.noSelect l.toArray = true)
    (hlex : Region.lexFrom .any l.toArray (l.drop (n + 1)).length (n + 1) ((marksAt n (l.length - n)).setIfInBounds n true) = true) {a : Act} {w : World}
    (h : wpList P l.toArray (fun e a2 w2 => e = .normal ∧ ∃ D : World → Prop, D w2 ∧ wpQuiet P l.toArray D (fun a' => ∀ w', D w' → Q .normal a' w') (l.drop (n + 1)) a2) [o] a w) :
    wpAny P .any l.toArray Q ((l.drop (n + 1)).length + 1) (marksAt n (l.length - n)) a w := by
  refine ⟨fun h0 => (by rw [hr] at h0; cases h0), fun i hi => ?_⟩
  rw [hr] at hi
  obtain rfl : i = n := by simpa using hi
  have hnext : ∀ a' w', wpList P l.toArray (fun e a2 w2 => e = .normal ∧ ∃ D : World → Prop, D w2 ∧ wpQuiet P l.toArray D (fun a' => ∀ w', D w' → Q .normal a' w') (l.drop (i + 1)) a2) [] a' w' →
      wpAny P .any l.toArray Q (l.drop (i + 1)).length ((marksAt i (l.length - i)).setIfInBounds i true) a' w' := by
    rintro a' w' ⟨_, D, hD, hq⟩
    exact wpAny_of_quiet (C := D) (Q := fun a' => ∀ w', D w' → Q .normal a' w') (fun _ w' hw h => h w' hw) _ _ _ _ hD (wpAnyQ_lex hno (l.drop (i + 1)) (i + 1) _ a' (fun j => by simp) hlex hq)
  unfold wpOp
  rw [List.getElem?_toArray, ho]
  unfold wpList at h
  by_cases hw : Region.wanted o (yielded l.toArray a.tmps) = true
  · simp only [hw, if_true] at h ⊢
    have hL : ¬ LetsOut (fun (e : Exit) (a2 : Act) (w2 : World) => e = .normal ∧ ∃ D : World → Prop, D w2 ∧ wpQuiet P l.toArray D (fun a' => ∀ w', D w' → Q .normal a' w') (l.drop (i + 1)) a2) := by
      rintro ⟨a2, w2, h, _⟩
      cases h
    rcases h with h | ⟨_, h⟩
    · exact .inl (wp_only hnext (fun e a2 w2 hne h => hne h.1) hL h)
    · exact (hL h).elim
  · simp only [hw] at h ⊢
    exact hnext _ _ h
/-- **A region that draws its order: its first n operations quiet in the class C, then one operation by itself, then quiet ones.** -/
theorem region_call {id : Nat} {Q : Exit → Act → World → Prop} {a : Act} {w : World} {l : List Oper} (n : Nat) (o : Oper) (hm : P.follows .mixedOrders = true) (hn : n ≤ l.length) (ho : l[n]? = some o) (hno : Region.noSelect l.toArray = true) (hno1 : Region.noSelect (l.take n).toArray = true)
    (hlex : Region.lexFrom .any (l.take n).toArray n 0 (Array.replicate n false) = true) (hg : gateB .any l 0 n = true) (hr : Region.ready .any l.toArray (marksAt n (l.length - n)) = [n])
    (hlex2 : Region.lexFrom .any l.toArray (l.drop (n + 1)).length (n + 1) ((marksAt n (l.length - n)).setIfInBounds n true) = true) (hC : C { w with drawn := w.drawn + 1 })
    (h : wpQuiet P (l.take n).toArray C (fun a' => ∀ w', C w' → wpList P l.toArray (fun e a2 w2 => e = .normal ∧ ∃ D : World → Prop, D w2 ∧ wpQuiet P l.toArray D (fun a' => ∀ w', D w' → Q .normal a' w') (l.drop (n + 1)) a2) [o] a' w') (l.take n) a) :
    (Code.region id l.toArray true).wp P Q a w := by
  refine wp_region_any hm ?_
  have hlt : (l.take n).length = n := by simp; omega
  have h1 := wpAnyQ_lex (P := P) (C := C) (md := .any) hno1 (l.take n) 0 (Array.replicate n false) a (by simp) (by rw [hlt]; exact hlex) h
  rw [hlt] at h1
  have hnl : n < l.length := (List.getElem?_eq_some_iff.1 ho).1
  have h2 := any_prefix (P := P) (C := C) (Q := Q) (f := (l.drop (n + 1)).length + 1)
    (Qf := fun a' => ∀ w', C w' → wpList P l.toArray (fun e a2 w2 => e = .normal ∧ ∃ D : World → Prop, D w2 ∧ wpQuiet P l.toArray D (fun a' => ∀ w', D w' → Q .normal a' w') (l.drop (n + 1)) a2) [o] a' w') hg hn (fun a2 w2 hw2 h3 => wpAny_one ho hr hno hlex2 (h3 w2 hw2))
    n (Array.replicate n false) a (by simp) (fun i j hi => by simp [Array.getD_eq_getD_getElem?, Array.getElem?_replicate] at hi; split at hi <;> simp at hi) (fun j hj => by omega) (by simp) h1 _ hC
  have e : padded (Array.replicate n false) (l.length - n) = Array.replicate l.toArray.size false := by
    unfold padded
    rw [Array.replicate_append_replicate]
    congr 1
    simp
    omega
  rw [e] at h2
  have e2 : n + ((l.drop (n + 1)).length + 1) = l.toArray.size := by simp; omega
  rwa [e2] at h2
end
end Go.KP
namespace Go.KP
open Go

/-- Operations that yield a value and neither call nor wait. -/
def plainOp (o : Oper) : Bool := match o.op with
  | .move _ | .assign _ | .load _ _ | .binOp _ _ _ _ _ | .unOp _ _ _ | .indexAddr _ _ _ | .convert _ _ _ | .slice _ _ _ _ _ | .fieldAddr _ _ _ | .field _ _ _ | .index _ _ _ => true
  | _ => false
section
variable {P : Program} {md : Region.Mode}
theorem plain_value {o : Oper} (h : plainOp o = true) {ρ : Operand → Value} {w w' : World} {nx : Next} (hr : (execOp ρ o).run P w = .ok nx w') : ∃ v, nx = .value v := by
  have key : ∀ s : Sem Value, (do let x ← s; pure (Next.value x) : Sem Next).run P w = .ok nx w' → ∃ v, nx = .value v := by
    intro s hs
    simp only [Sem.run_bind, Sem.run_pure] at hs
    cases hx : s.run P w with
    | ok x w1 =>
      rw [hx] at hs
      simp only [Result.andThen] at hs
      injection hs with h1 h2
      exact ⟨x, h1.symm⟩
    | halt x w1 =>
      rw [hx] at hs
      simp only [Result.andThen] at hs
      cases hs
  unfold plainOp at h
  unfold execOp at hr
  cases ho : o.op <;> simp only [ho] at h hr <;> first | (cases h; done) | exact key _ hr | (simp only [Sem.run_pure] at hr; injection hr with h1 h2; exact ⟨_, h1.symm⟩)
theorem yieldsIf_of_quiet {o : Oper} {ops : Array Oper} {a : Act} {C : World → Prop} {K : Act → Prop} (hp : plainOp o = true) 
    (h : if Region.wanted o (yielded ops a.tmps) then o.quiet P a C K else K (a.put o.dst undef)) : ∃ v, YieldsIf P ops C o v a ∧ K (a.put o.dst v) := by
  by_cases hw : Region.wanted o (yielded ops a.tmps) = true
  · rw [if_pos hw] at h
    obtain ⟨v, hv, hk⟩ := h
    refine ⟨v, .inl ⟨hw, fun w hC => ?_⟩, hk⟩
    have h1 := hv w hC
    unfold Oper.quietAt at h1
    cases hr : (execOp a.eval o).run P w with
    | halt x w1 => rw [hr] at h1; cases x <;> exact h1.elim
    | ok nx w1 =>
      obtain ⟨u, rfl⟩ := plain_value hp hr
      rw [hr] at h1
      obtain ⟨e1, e2⟩ := h1
      rw [e1, e2]
  · rw [if_neg hw] at h
    exact ⟨undef, .inr ⟨by simpa using hw, rfl⟩, h⟩
def heldFrom (md : Region.Mode) (ops : Array Oper) : Nat → Nat → Array Bool → Bool
  | 0, _, _ => true
  | n + 1, k, L => (Region.ready md ops L).contains k && (Region.free md ops L k && heldFrom md ops n (k + 1) (L.setIfInBounds k true))
def marksOn : Nat → Nat → Array Bool → Array Bool
  | 0, _, L => L
  | n + 1, k, L => marksOn n (k + 1) (L.setIfInBounds k true)
theorem held_lex {ops : Array Oper} {Q : Exit → Act → World → Prop} {S : World → Prop} {Qf : Act → Prop} {w : World} {f : Nat} (hs : Region.noSelect ops = true) (hQ : ∀ c a w, ¬ Q (.panic c) a w) (hS : S w) :
    ∀ (r : List Oper) (k : Nat) (L : Array Bool) (a : Act), (∀ j, j < r.length → r[j]? = ops[k + j]?) → r.all plainOp = true → heldFrom md ops r.length k L = true → wpQuiet P ops S Qf r a →
      (∀ a', Qf a' → wpAnyH P md ops Q S f (marksOn r.length k L) a' w) → wpAnyH P md ops Q S (r.length + f) L a w := by
  intro r
  induction r with
  | nil =>
    intro k L a _ _ _ hq hK
    simpa [marksOn] using hK a hq
  | cons o r ih =>
    intro k L a hl hp hB hq hK
    simp only [List.all_cons, Bool.and_eq_true] at hp
    simp only [List.length_cons, heldFrom, Bool.and_eq_true] at hB
    have h0 : ops[k]? = some o := by have := hl 0 (by simp); simpa using this.symm
    obtain ⟨v, hy, hk⟩ := yieldsIf_of_quiet (ops := ops) hp.1 hq
    rw [List.length_cons, Nat.add_right_comm]
    refine wpAnyH_take h0 hs hB.2.1 hB.1 (fun c a w h => (hQ c _ w h).elim) hy hS (ih (k + 1) _ _ (fun j hj => ?_) hp.2 hB.2.2 hk (fun a' ha' => hK a' ha'))
    have := hl (j + 1) (by simpa using hj)
    simpa [Nat.add_assoc, Nat.add_comm 1 j] using this
theorem wpOp_of_list {Q Q' : Exit → Act → World → Prop} {K : Act → World → Prop} {ops : Array Oper} {n : Nat} {o : Oper} {a : Act} {w : World} (ho : ops[n]? = some o) (hQ' : ∀ e a w, Q' e a w → e = .normal ∧ K a w)
    (h : wpList P ops Q' [o] a w) : wpOp P ops Q n K a w := by
  unfold wpOp
  rw [ho]
  unfold wpList at h
  by_cases hw : Region.wanted o (yielded ops a.tmps) = true
  · simp only [hw, if_true] at h ⊢
    have hL : ¬ LetsOut Q' := by
      rintro ⟨a2, w2, h⟩
      cases (hQ' _ _ _ h).1
    rcases h with h | ⟨_, h⟩
    · exact .inl (wp_only (fun a w hk => (hQ' _ _ _ (by simpa [wpList] using hk)).2) (fun e a w hne h => hne (hQ' _ _ _ h).1) hL h)
    · exact (hL h).elim
  · simp only [hw] at h ⊢
    exact (hQ' _ _ _ (by simpa [wpList] using h)).2
/-- **The region**: n plain reads, then two operations. -/
theorem round_two {id : Nat} {Q : Exit → Act → World → Prop} {a : Act} {w : World} {l : List Oper} {r : Nat} (n : Nat) (o1 o2 : Oper) (S : World → Prop) (hm : P.follows .mixedOrders = true) (hn : l.length = n + 2) (h1 : l.toArray[n]? = some o1) (h2 : l.toArray[n + 1]? = some o2)
    (hno : Region.noSelect l.toArray = true) (hp : (l.take n).all plainOp = true) (hd : noDefer l.toArray = true) (hB : heldFrom .any l.toArray n 0 (Array.replicate (n + 2) false) = true)
    (r1 : Region.ready .any l.toArray (marksOn n 0 (Array.replicate (n + 2) false)) = [n]) (r2 : Region.ready .any l.toArray ((marksOn n 0 (Array.replicate (n + 2) false)).setIfInBounds n true) = [n + 1])
    (r3 : Region.ready .any l.toArray (((marksOn n 0 (Array.replicate (n + 2) false)).setIfInBounds n true).setIfInBounds (n + 1) true) = []) (hS : S { w with drawn := w.drawn + 1 })
    (h : wpQuiet P l.toArray S (fun a' => wpList P l.toArray (fun e a2 w2 => e = .normal ∧ S w2 ∧ wpList P l.toArray (fun e a3 w3 => e = .normal ∧ S w3 ∧ Q .normal a3 w3) [o2] a2 w2) [o1] a' { w with drawn := w.drawn + 1 }) (l.take n) a) :
    (Code.region id l.toArray true).wpIn (Fence.wide.inRound r) 0 P Q a w := by
  refine wpIn_mono (Q := fun e a2 w2 => e = .normal ∧ Q .normal a2 w2) (wpIn_region_draw fun t => ?_) (fun e a2 w2 ⟨he, hq⟩ => by rw [he]; exact hq)
  refine opsIn_of_ops (fun _ _ hx => by cases hx.1) (noDefer_spec hd) _ _ _ ?_
  simp only [Region.schedule, hm, Bool.true_or, if_true]
  refine wpAny_sound l.toArray.size t _ a _ (wpAny_of_held (S := S) _ _ _ _ ?_)
  have hlt : (l.take n).length = n := by simp; omega
  have hsz : l.toArray.size = n + 2 := by simpa using hn
  rw [hsz]
  have key := held_lex (P := P) (md := .any) (ops := l.toArray) (Q := fun e a2 w2 => e = .normal ∧ Q .normal a2 w2) (S := S) (f := 2) hno (fun c a w h => by cases h.1) hS (l.take n) 0 (Array.replicate (n + 2) false) a
    (fun j hj => by rw [hlt] at hj; simp [hj]) hp (by rw [hlt]; exact hB) h (fun a' ha' => ?_)
  · rw [hlt] at key
    exact key
  · rw [hlt]
    refine wpAnyH_all r1 (by simp) (fun i hi => ?_)
    obtain rfl : i = n := by simpa using hi
    refine wpOp_of_list h1 ?_ ha'
    rintro e a2 w2 ⟨he, hs2, hl2⟩
    refine ⟨he, hs2, wpAnyH_all r2 (by simp) (fun j hj => ?_)⟩
    obtain rfl : j = i + 1 := by simpa using hj
    refine wpOp_of_list h2 ?_ hl2
    rintro e3 a3 w3 ⟨he3, hs3, hq3⟩
    exact ⟨he3, hs3, wpAnyH_done r3 ⟨rfl, hq3⟩ _⟩
/-- What is asked at the regular end, and no other end. -/
def calmPost (Q : Exit → Act → World → Prop) : Exit → Act → World → Prop
  | .normal, a, w => Q .normal a w
  | _, _, _ => False
theorem calm_normal {Q : Exit → Act → World → Prop} {a : Act} {w : World} (h : Q .normal a w) : calmPost Q .normal a w := h
/-- A region outside every round, walked as anywhere: it ends as it should, or not at all. -/
theorem region_calm {c : Code} {Q : Exit → Act → World → Prop} {a : Act} {w : World} (h : c.wp P (calmPost Q) a w) : c.wpIn Fence.wide 0 P Q a w :=
  wpIn_mono (wpIn_wide.2 h) (fun e a2 w2 hq => by cases e <;> first | exact hq | exact hq.elim)
end
end Go.KP
namespace Go.Proofs.YthkioajalhglfaaGreatDoor
open Go.RowKit Go.KP Go.KI Go.Shelf
attribute [local go_sem] Oper.semAt_some

/-- What a division returns: quotient and remainder, with their limbs. -/
def DivRes (x y : List Nat) (w : World) (e : Ending) (w' : World) : Prop := ∃ (vq vr : Value) (q r : List Nat), e = .returned (.tuple #[vq, vr]) ∧ Below w.heap.size w w' ∧ LimbAt w'.heap.size w' vq q ∧ LimbAt w'.heap.size w' vr r ∧
  Norm 1000000000 q ∧ Norm 1000000000 r ∧ lv 1000000000 q = lv 1000000000 x / lv 1000000000 y ∧ lv 1000000000 r = lv 1000000000 x % lv 1000000000 y ∧ q.length ≤ x.length ∧ r.length ≤ x.length
/-- The same, both rows of the call's own. -/
def ShortRes (x y : List Nat) (w : World) (e : Ending) (w' : World) : Prop := ∃ (vq vr : Value) (q r : List Nat), e = .returned (.tuple #[vq, vr]) ∧ Below w.heap.size w w' ∧ OwnL w.heap.size w' vq q ∧ OwnL w.heap.size w' vr r ∧
  Norm 1000000000 q ∧ Norm 1000000000 r ∧ lv 1000000000 q = lv 1000000000 x / lv 1000000000 y ∧ lv 1000000000 r = lv 1000000000 x % lv 1000000000 y ∧ q.length ≤ x.length ∧ r.length ≤ x.length
theorem OwnL.other {base : Nat} {w : World} {v : Value} {l : List Nat} (h : OwnL base w v l) {p : Addr} (hp : p.block < base) (u : Value) : OwnL base (w.setCell p u) v l :=
  owns_stay h (fun r hr => Below.heap_setCell _ _ _ _ (by have := owns_ge h (Nat.le_refl _) r hr; omega))
/-- The short division, k limbs over. -/
structure ShortAt (x : List Nat) (d k : Nat) (Q : List Nat) (R : Nat) : Prop where
  len : Q.length = x.length
  lt : Lt 1000000000 Q
  rest : R < d
  val : lv 1000000000 (x.drop (x.length - k)) = lv 1000000000 (Q.drop (x.length - k)) * d + R
theorem ShortAt.start (x : List Nat) {d : Nat} (hd : 1 ≤ d) : ShortAt x d 0 (zeros x.length) 0 :=
  ⟨zeros_len _, zeros_lt _ _ (by omega), hd, by rw [Nat.sub_zero, List.drop_length, List.drop_of_length_le (by rw [zeros_len]; exact Nat.le_refl _)]; simp [lv]⟩
theorem ShortAt.step {x : List Nat} {d k R : Nat} {Q : List Nat} (h : ShortAt x d k Q R) (hx : Lt 1000000000 x) (hd2 : d < 1000000000) (hk : k < x.length) {i : Nat} (hi : i = x.length - 1 - k) :
    lat x i + R * 1000000000 < d * 1000000000 ∧ (lat x i + R * 1000000000) / d < 1000000000 ∧ ShortAt x d (k + 1) (Q.set i ((lat x i + R * 1000000000) / d)) ((lat x i + R * 1000000000) % d) := by
  have hr := h.rest
  have hxi := lat_lt (by omega) hx i
  have h1 : (R + 1) * 1000000000 ≤ d * 1000000000 := Nat.mul_le_mul_right _ hr
  have h2 : lat x i + R * 1000000000 < d * 1000000000 := by omega
  have hdp : 0 < d := by omega
  have h3 : (lat x i + R * 1000000000) / d < 1000000000 := by
    rw [Nat.div_lt_iff_lt_mul hdp]
    omega
  refine ⟨h2, h3, by rw [List.length_set]; exact h.len, lt_set h.lt h3, Nat.mod_lt _ hdp, ?_⟩
  have e1 : x.length - (k + 1) = i := by omega
  have e2 : x.length - k = i + 1 := by omega
  have hv := h.val
  rw [e2] at hv
  rw [e1]
  have hl : i < x.length := by omega
  have hlq : i < Q.length := by rw [h.len]; exact hl
  have f1 : lv 1000000000 (x.drop i) = lat x i + 1000000000 * lv 1000000000 (x.drop (i + 1)) := by
    rw [List.drop_eq_getElem_cons hl, lat_at hl]
    rfl
  have f2 : (Q.set i ((lat x i + R * 1000000000) / d)).drop i = ((lat x i + R * 1000000000) / d) :: Q.drop (i + 1) := by
    rw [List.drop_eq_getElem_cons (by rw [List.length_set]; exact hlq), List.getElem_set_self, List.drop_set_of_lt (by omega)]
  rw [f1, f2, hv]
  show lat x i + 1000000000 * (lv 1000000000 (Q.drop (i + 1)) * d + R) = ((lat x i + R * 1000000000) / d + 1000000000 * lv 1000000000 (Q.drop (i + 1))) * d + (lat x i + R * 1000000000) % d
  have h4 := Nat.div_add_mod (lat x i + R * 1000000000) d
  rw [Nat.add_mul, Nat.mul_comm (_ / d) d]
  have e5 : 1000000000 * lv 1000000000 (Q.drop (i + 1)) * d = 1000000000 * (lv 1000000000 (Q.drop (i + 1)) * d) := by rw [Nat.mul_assoc]
  rw [e5]
  omega
theorem ShortAt.done {x : List Nat} {d R : Nat} {Q : List Nat} (h : ShortAt x d x.length Q R) : lv 1000000000 Q = lv 1000000000 x / d ∧ R = lv 1000000000 x % d := by
  have hv := h.val
  rw [Nat.sub_self, List.drop_zero, List.drop_zero] at hv
  have hr := h.rest
  rw [hv]
  constructor
  · rw [Nat.add_comm, Nat.add_mul_div_right _ _ (by omega), Nat.div_eq_of_lt hr, Nat.zero_add]
  · rw [Nat.add_comm, Nat.add_mul_mod_self_right, Nat.mod_eq_of_lt hr]
theorem short_nums {X R d : Nat} (hX : X < 1000000000) (hR : R < d) (hd : d < 1000000000) :
    ∃ T q r : Nat, T = X + R * 1000000000 ∧ q = T / d ∧ r = T % d ∧ IntKind.i64.wrap ((R : Int) * 1000000000) = (R : Int) * 1000000000 ∧ IntKind.i64.wrap ((X : Int) + (R : Int) * 1000000000) = (T : Int) ∧ (T : Int) / (d : Int) = (q : Int) ∧ (T : Int) % (d : Int) = (r : Int) ∧ (T : Int) < 1000000000000000000 ∧ ((d : Int) == 0) = false ∧ r < d := by
  have h1 : X + R * 1000000000 < 1000000000000000000 := by omega
  have h2 : (d : Int) ≠ 0 := by omega
  obtain ⟨T, hT⟩ : ∃ T, T = X + R * 1000000000 := ⟨_, rfl⟩
  have h3 : (X : Int) + (R : Int) * 1000000000 = (T : Int) := by omega
  exact ⟨T, T / d, T % d, hT, rfl, rfl, IntWalk.i64_in _ (by omega), by rw [h3]; exact IntWalk.i64_in _ (by omega), Int.natCast_ediv .., Int.natCast_emod .., by omega, by simpa using h2, Nat.mod_lt _ (by omega)⟩
theorem LimbAt.of_own' {base : Nat} {w : World} {v : Value} {l : List Nat} (h : OwnL base w v l) : LimbAt w.heap.size w v l := SlAt.of_owns h
/-- The blocks of divideShort. -/
structure ShSt (w : World) (d : Nat) (a0 : Option Addr) (n c0 : Nat) (Q : List Nat) (R : Nat) (W : World) : Prop where
  dv : W.heap[w.heap.size]? = some (.cells #[.int .i64 d] 3 (0, 0))
  qv : W.heap[w.heap.size + 1]? = some (.cells #[.slice (some ⟨w.heap.size + 2, 0, none⟩) n n] 46 (0, 0))
  row : W.heap[w.heap.size + 2]? = some (rowO Q)
  rv : W.heap[w.heap.size + 3]? = some (.cells #[.int .i64 R] 3 (0, 0))
  sv : W.heap[w.heap.size + 4]? = some (.cells #[.slice a0 n c0] 46 (0, 0))
  below : Below w.heap.size w W
theorem short_end {x Q : List Nat} {d n R g g2 : Nat} {w W : World} (h : ShortAt x d n Q R) (hQ : Q.length = n) (hd : d < 1000000000) (h1 : W.heap[g]? = some (rowO Q)) (h2 : W.heap[g2]? = some (rowO [R])) (hb : Below w.heap.size w W) (hn : n = x.length) (hl : n ≤ 200000) (hg1 : w.heap.size ≤ g) (hg2 : w.heap.size ≤ g2) :
    ShortRes x [d] w (.returned (.tuple #[.slice (some ⟨g, 0, none⟩) (trimTo Q n) n, .slice (some ⟨g2, 0, none⟩) (trimTo [R] 1) 1])) W := by
  subst hn
  obtain ⟨e1, e2⟩ := h.done
  have hR : Lt 1000000000 [R] := fun z hz => by
    simp only [List.mem_singleton] at hz
    have := h.rest
    omega
  have o1 := (row_owns (base := w.heap.size) h1 hg1 (by unfold maxLen; omega)).cut (k := trimTo Q Q.length) (trimTo_le _ _)
  have o2 := (row_owns (base := w.heap.size) h2 hg2 (by unfold maxLen; simp)).cut (k := trimTo [R] 1) (trimTo_le _ _)
  rw [hQ] at o1
  have hv : lv 1000000000 [d] = d := by simp [lv]
  have hr1 : lv 1000000000 [R] = R := by simp [lv]
  refine ⟨_, _, trimL Q, trimL [R], rfl, hb, ?_, ?_, trimL_norm h.lt, trimL_norm hR, by rw [trimL_lv, e1, hv], by rw [trimL_lv, hr1, hv, e2], ?_, ?_⟩
  · unfold trimL
    rw [hQ]
    exact o1
  · exact o2
  · rw [trimL_len]
    have := trimTo_le Q Q.length
    omega
  · rw [trimL_len]
    have h3 := trimTo_le [R] 1
    show trimTo [R] 1 ≤ x.length
    rcases Nat.eq_zero_or_pos x.length with h0 | h0
    · have hx : x = [] := List.eq_nil_of_length_eq_zero h0
      rw [hx] at e2
      have hR0 : R = 0 := by rw [e2]; simp [lv]
      rw [hR0]
      have : trimTo [0] 1 = 0 := rfl
      omega
    · omega
/-- What the operations of a round read. -/
def ShC (h d n : Nat) (w' : World) : Prop := w'.cell? ⟨h, 0, none⟩ = some (.int .i64 d) ∧ w'.cell? ⟨h + 1, 0, none⟩ = some (.slice (some ⟨h + 1 + 1, 0, none⟩) n n)
set_option maxRecDepth 100000 in
set_option maxHeartbeats 4000000 in
theorem divideShort_any (va : Value) (x : List Nat) (d : Nat) (B : Nat) (w : World) (ha : LimbAt B w va x) (hB : B ≤ w.heap.size) (hx : Lt 1000000000 x) (lx : x.length ≤ 200000) (hd : 1 ≤ d) (hd2 : d < 1000000000) :
    Calls Tryz.prog 73 #[va, .int .i64 d] w (ShortRes x [d] w) := by
  obtain ⟨a0, c0, hva⟩ := ha.form
  subst hva
  have HA := hide ha; have HX := hide hx
  clear ha hx
  obtain ⟨n, hn⟩ : ∃ n, n = x.length := ⟨_, rfl⟩
  have HN := hide hn
  have hmk := make_ints n (by omega)
  rw [← hn] at lx ⊢
  clear hn
  obtain ⟨b0, b1, b2, hs0, hB0⟩ := heap3 w (.cells #[.int .i64 d] 3) (.cells #[.slice none 0 0] 46) (rowO (zeros n))
  refine (callsIn_wide (n := 0)).1 ?_
  refine callsIn_of_wp_marks Tryz.func73 rfl trivial ?_ rfl
  simp only [Tryz.ntmps73, List.size_toArray, List.length_cons, List.length_nil, Nat.reduceAdd, Nat.reduceSub, Array.replicate_succ, Array.replicate_zero, List.push_toArray, List.append_toArray, List.nil_append, List.cons_append]
  gi_wp2_with fail
  clear hmk b0 b1 b2 hs0 hB0
  obtain ⟨r0, rs0, rb0⟩ := heap1 w (.cells #[.int .i64 d] 3)
  obtain ⟨a1, as1, ab1⟩ := heap1 (w.alloc (.cells #[.int .i64 d] 3)) (.cells #[.slice (some ⟨w.heap.size + 1 + 1, 0, none⟩) n n] 46)
  obtain ⟨a2, as2, ab2⟩ := heap1 ((w.alloc (.cells #[.int .i64 d] 3)).alloc (.cells #[.slice (some ⟨w.heap.size + 1 + 1, 0, none⟩) n n] 46)) (rowO (zeros n))
  obtain ⟨a3, as3, ab3⟩ := heap1 (((w.alloc (.cells #[.int .i64 d] 3)).alloc (.cells #[.slice (some ⟨w.heap.size + 1 + 1, 0, none⟩) n n] 46)).alloc (rowO (zeros n))) (.cells #[.int .i64 0] 3)
  obtain ⟨a4, as4, ab4⟩ := heap1 ((((w.alloc (.cells #[.int .i64 d] 3)).alloc (.cells #[.slice (some ⟨w.heap.size + 1 + 1, 0, none⟩) n n] 46)).alloc (rowO (zeros n))).alloc (.cells #[.int .i64 0] 3)) (.cells #[.slice a0 n c0] 46)
  rw [rs0] at a1 as1 ab1
  rw [as1] at a2 as2 ab2
  rw [as2] at a3 as3 ab3
  rw [as3] at a4 as4 ab4
  have e0 := below_blk ab4 (below_blk ab3 (below_blk ab2 (below_blk ab1 r0 (by omega)) (by omega)) (by omega)) (by omega)
  have e1 := below_blk ab4 (below_blk ab3 (below_blk ab2 a1 (by omega)) (by omega)) (by omega)
  have e2 := below_blk ab4 (below_blk ab3 a2 (by omega)) (by omega)
  have e3 := below_blk ab4 a3 (by omega)
  have hbw := rb0.trans ((ab1.trans ((ab2.trans ((ab3.trans (ab4.mono (by omega))).mono (by omega))).mono (by omega))).mono (by omega))
  refine ⟨trivial, rfl, (callsIn_wide.2 (backward_any a0 n c0 _)).mono ?_⟩
  rintro e w1 ⟨rfl, hw1⟩
  rw [hw1] at e0 e1 e2 e3 a4 as4 hbw
  have HS := hide (show ShSt w d a0 n c0 (zeros n) 0 w1 from ⟨e0, e1, e2, e3, a4, hbw⟩)
  have hs1 : w.heap.size + 5 = w1.heap.size := by omega
  clear r0 rs0 rb0 a1 as1 ab1 a2 as2 ab2 a3 as3 ab3 a4 as4 ab4 e0 e1 e2 e3 hbw
  gi_wp2_with fail
  clear hw1
  refine wp_iter_on (gf := 102) (lb := #[.pointer (some ⟨w.heap.size + 1 + 1 + 1 + 1, 0, none⟩)]) rfl (enters_of Tryz.func102 (by kernel_rfl) rfl) (backSeq_any (w.heap.size + 4) n c0 a0 (fun k => ((lat x (n - 1 - k) : Nat) : Int)) (by omega)) (fun _ => rfl)
    (fun k S W => S = (fun _ => False) ∧ ∃ Q R, ShortAt x d k Q R ∧ ShSt w d a0 n c0 Q R W)
    (fun _ _ _ => False) ?hI (fun _ _ _ _ h _ => h) ?h0 ?hke
    (fun k S a1' W => a1' = { tmps := #[.slice a0 n c0, .int .i64 d, undef, .pointer (some ⟨w.heap.size, 0, none⟩), .pointer (some ⟨w.heap.size + 1, 0, none⟩), .slice none 0 0, .pointer (some ⟨w.heap.size + 1 + 1 + 1, 0, none⟩), .int .i64 ((n : Int) - 1 - k), .int .i64 ((lat x (n - 1 - k) : Nat) : Int), .slice a0 n c0, .int .i64 n, .slice (some ⟨w.heap.size + 1 + 1, 0, none⟩) n n, .slice a0 n c0, .func (.func 102) #[] #[.pointer (some ⟨w.heap.size + 1 + 1 + 1 + 1, 0, none⟩)], .int .i64 ((n : Int) - 1 - k), .int .i64 ((lat x (n - 1 - k) : Nat) : Int), undef, undef, undef, undef, undef, undef, undef, undef, undef, undef, undef, undef, undef, undef, undef, undef, undef, undef], defers := [] })
    ?hAx ?hassign ?hS ?hbody ?hdone ?hstop
  case hI =>
    rintro k S W W2 ⟨rfl, Q, R, h1, ⟨g0, g1, g2, g3, g4, gb⟩⟩ hq
    exact ⟨rfl, Q, R, h1, hq.at_ g0 (.inl (by omega)), hq.at_ g1 (.inl (by omega)), hq.at_ g2 (.inl (by omega)), hq.at_ g3 (.inl (by omega)), hq.at_ g4 (.inl (by omega)), Quiet.below gb hq (by omega) gb.size⟩
  case h0 => exact ⟨rfl, zeros n, 0, by have := ShortAt.start x hd; rw [← HN.out] at this; exact this, HS.out⟩
  case hke =>
    rintro k S W hk ⟨rfl, Q, R, h1, ⟨g0, g1, g2, g3, g4, gb⟩⟩
    refine ⟨g4, fun hlt => ?_⟩
    rcases (HA.out.below gb hB).cases with ⟨_, _, _, hnil⟩ | ⟨g, o, cap, hv, hg, hc⟩
    · rw [HN.out, hnil] at hlt
      simp at hlt
    · injection hv with hv1 hv2 hv3
      exact ⟨g, o, hv1, hc _ (by have := HN.out; omega)⟩
  case hAx =>
    rintro k S a1' W l r r2 h _
    exact h
  case hassign =>
    intro l k S W K hsz hSlt hK
    gi_wp2
    exact hK _ _ (Quiet.refl _ _ _) (Upd.refl _ _ _) rfl
  case hS =>
    rintro k S W ⟨rfl, _⟩ b hb
    exact hb.elim
  case hstop =>
    intro D c S W _ h
    exact h.elim
  case hbody =>
    rintro l k S a1' W hk ⟨rfl, Q, R, h1, ⟨g0, g1, g2, g3, g4, gb⟩⟩ rfl hsz
    obtain ⟨m, hm⟩ : ∃ m : Nat, (n : Int) - 1 - (k : Int) = m := ⟨n - 1 - k, by omega⟩
    have hm2 : n - 1 - k = m := by omega
    have hst := h1.step HX.out hd2 (by have := HN.out; omega) (show m = x.length - 1 - k by have := HN.out; omega)
    obtain ⟨t1, t2, t3⟩ := hst
    have hxm := lat_lt (by omega) HX.out m
    rw [hm, hm2]
    obtain ⟨X, hX⟩ : ∃ X, X = lat x m := ⟨_, rfl⟩
    rw [← hX] at hxm t1 t2 t3 ⊢
    obtain ⟨T, q, r, hT, hq, hr, hw1, hwt, hqi, hri, hTl, hd0, hrl⟩ := short_nums hxm h1.rest hd2
    rw [← hT] at t1 t2 t3
    rw [← hq, ← hr] at t3
    rw [← hq] at t2
    have hml : m < n := by omega
    have hmq : m < Q.length := by rw [h1.len, ← HN.out]; exact hml
    have c1 := cell_blk g0 0
    have c2 := cell_blk g1 0
    have c3 := row_cell g2 hmq
    have f3 := row_froz g2 m
    have c4 := cell_blk g3 0
    have f4 := froz_blk g3 0
    have hmi : (m : Int) < (n : Int) := by omega
    have T3 := hide t3; have G0 := hide g0; have G1 := hide g1; have G2 := hide g2; have G3 := hide g3; have G4 := hide g4; have GB := hide gb
    have HQI := hide hqi; have HRI := hide hri
    have hl3 := lt_blk g3
    clear hm hm2 t3 g0 g1 g2 g3 g4 gb h1 hX hT hq hr t1 HS
    gi_wp2_with fail
    have C1 := hide c1; have C2 := hide c2
    have k1 : ∀ y : Of (ShC w.heap.size d n), y.w.cell? ⟨w.heap.size, 0, none⟩ = some (.int .i64 d) := fun y => y.h.1
    have k2 : ∀ y : Of (ShC w.heap.size d n), y.w.cell? ⟨w.heap.size + 1, 0, none⟩ = some (.slice (some ⟨w.heap.size + 1 + 1, 0, none⟩) n n) := fun y => y.h.2
    have kn : Nonempty (Of (ShC w.heap.size d n)) := ⟨⟨_, C1.out, C2.out⟩⟩
    refine round_two (S := Cls (ShC w.heap.size d n)) 9 _ _ (by kernel_rfl) rfl rfl rfl (by kernel_rfl) (by kernel_rfl) (by kernel_rfl) (by kernel_rfl) (by kernel_rfl) (by kernel_rfl) (by kernel_rfl) (Cls.mk ⟨C1.out, C2.out⟩) ?_
    simp only [List.take_succ_cons, List.take_zero]
    repeat (go_big_quiet_step (fail))
    refine wpQuiet_nil ?_
    go_wp2_with fail
    obtain ⟨Wy, hWy⟩ : ∃ Wy, Wy = (W.setCell ⟨w.heap.size + 1 + 1, m, none⟩ (.int .i64 q)).drew := ⟨_, rfl⟩
    rw [← hWy]
    have Y0 := hide (show Wy.heap[w.heap.size]? = some (.cells #[.int .i64 d] 3 (0, 0)) by rw [hWy]; exact (setCell_other (by omega)).trans G0.out)
    have Y1 := hide (show Wy.heap[w.heap.size + 1]? = some (.cells #[.slice (some ⟨w.heap.size + 1 + 1, 0, none⟩) n n] 46 (0, 0)) by rw [hWy]; exact (setCell_other (by omega)).trans G1.out)
    have Y2 := hide (show Wy.heap[w.heap.size + 1 + 1]? = some (rowO (Q.set m q)) by rw [hWy]; exact row_set G2.out m q)
    have Y3 := hide (show Wy.heap[w.heap.size + 1 + 1 + 1]? = some (.cells #[.int .i64 R] 3 (0, 0)) by rw [hWy]; exact (setCell_other (by omega)).trans G3.out)
    have Y4 := hide (show Wy.heap[w.heap.size + 1 + 1 + 1 + 1]? = some (.cells #[.slice a0 n c0] 46 (0, 0)) by rw [hWy]; exact (setCell_other (by omega)).trans G4.out)
    have YB := hide (show Below w.heap.size w Wy by rw [hWy]; exact (GB.out.setCell (p := ⟨w.heap.size + 1 + 1, m, none⟩) (by simp; omega) _).drew)
    have YU := hide (show Upd w1.heap.size (fun _ => False) (fun _ => False) W Wy by rw [hWy]; exact ((Upd.refl _ _ W).setBox (p := ⟨w.heap.size + 1 + 1, m, none⟩) (by simp; omega) _).drew)
    refine ⟨Cls.mk ⟨cell_blk Y0.out 0, cell_blk Y1.out 0⟩, ?_⟩
    clear hWy c1 c2 c3 f3 c4 f4 k1 k2 kn hw1 hwt hqi hri hTl hd0 t2 hxm
    have c4 := cell_blk Y3.out 0
    have f4 := froz_blk Y3.out 0
    have l4 := lt_blk Y3.out
    go_wp2_with fail
    refine ⟨Cls.mk ⟨cell_blk ((setCell_other (by omega)).trans Y0.out) 0, cell_blk ((setCell_other (by omega)).trans Y1.out) 0⟩, fun _ => False, YU.out.setBox (by simp; omega) _, rfl, Q.set m q, r, T3.out, (setCell_other (by omega)).trans Y0.out, (setCell_other (by omega)).trans Y1.out, (setCell_other (by omega)).trans Y2.out, ?_, (setCell_other (by omega)).trans Y4.out, YB.out.setCell (p := ⟨w.heap.size + 1 + 1 + 1, 0, none⟩) (by simp; omega) _⟩
    exact Boxed.set (.int .i64 (r : Int)) Y3.out
  case hdone =>
    rintro D S W hD ⟨rfl, Q, R, h1, ⟨g0, g1, g2, g3, g4, gb⟩⟩ hK
    have hQn : Q.length = n := h1.len.trans HN.out.symm
    have HTq := hide (fun (w' : World) (h : w'.heap[w.heap.size + 1 + 1]? = some (rowO Q)) => trim_any (some ⟨w.heap.size + 1 + 1, 0, none⟩) n Q w'.heap.size w' (by
      have := row_limbs h (by unfold maxLen; omega)
      rw [hQn] at this ⊢
      exact this) (by omega) (by omega))
    rw [hQn] at HTq
    have HTr := hide (fun (w' : World) (h : w'.heap[W.heap.size]? = some (rowO [R])) => show Calls Tryz.prog 68 #[.slice (some ⟨W.heap.size, 0, none⟩) 1 1] w' (fun e w'' => e = .returned (.slice (some ⟨W.heap.size, 0, none⟩) (trimTo [R] 1) 1) ∧ w' = w'') from trim_any (some ⟨W.heap.size, 0, none⟩) 1 [R] w'.heap.size w' (row_limbs h (by unfold maxLen; simp)) (by simp) (by simp))
    have c2 := cell_blk g1 0
    have f2 := froz_blk g1 0
    have c4 := cell_blk g3 0
    have hl1 := lt_blk g1
    have hl3 := lt_blk g3
    have G0 := hide g0; have G1 := hide g1; have G2 := hide g2; have G3 := hide g3; have GB := hide gb; have HK := hide hK; have H1 := hide h1
    clear g0 g1 g2 g3 g4 gb hK h1 HS
    have HTs := hide (fun m : Nat => (HTq.out (W.drewN m) G2.out).mono (fun _ _ h => And.intro h.1 h.2.symm))
    gi_wp2_with fail
    refine region_calm ?_
    have C2 := hide c2; have C4 := hide c4
    have D2 := hide (show W.drew.heap[w.heap.size + 1 + 1]? = some (rowO Q) from G2.out)
    have A2 := hide (fun o => show (W.alloc o).drew.heap[w.heap.size + 1 + 1]? = some (rowO Q) from (Below.heap_alloc _ _ _ (lt_blk G2.out)).trans G2.out)
    have TQ1 := hide (HTq.out W.drew D2.out)
    have TQ2 := hide (fun o => HTq.out (W.alloc o).drew (A2.out o))
    have TR := hide (HTr.out (W.alloc (.cells #[.int .i64 R] 3)).drew (World.alloc_heap_new _ _))
    have CD := hide (show W.drew.cell? ⟨w.heap.size + 1 + 1 + 1, 0, none⟩ = some (.int .i64 R) from C4.out)
    have CA := hide (fun o => show (W.alloc o).drew.cell? ⟨w.heap.size + 1 + 1 + 1, 0, none⟩ = some (.int .i64 R) from cell_blk (w := W.alloc o) ((Below.heap_alloc _ _ _ hl3).trans G3.out) 0)
    have CS := hide (fun o u => show ((W.alloc o).setCell ⟨w.heap.size + 1, 0, none⟩ u).drew.cell? ⟨w.heap.size + 1 + 1 + 1, 0, none⟩ = some (.int .i64 R) from cell_blk (w := (W.alloc o).setCell ⟨w.heap.size + 1, 0, none⟩ u) ((setCell_other (by omega)).trans ((Below.heap_alloc _ _ _ hl3).trans G3.out)) 0)
    clear HTq HTr HTs C2 C4
    go_region_with
      (first
        | (go_at_call 68
           with_reducible refine TQ1.out.mono ?_
           rintro e w2 ⟨rfl, rfl⟩)
        | (go_at_call 68
           with_reducible refine (TQ2.out _).mono ?_
           rintro e w2 ⟨rfl, rfl⟩)
        | (go_at_call 68
           with_reducible refine TR.out.mono ?_
           rintro e w2 ⟨rfl, rfl⟩)
        | fail)
    all_goals
      refine calm_normal ?_
      gi_wp2_with fail
      obtain ⟨Wf, hWf⟩ : ∃ Wf, Wf = ((W.setCell ⟨w.heap.size + 1, 0, none⟩ (.slice (some ⟨w.heap.size + 1 + 1, 0, none⟩) (trimTo Q n) n)).alloc (.cells #[.int .i64 R] 3)).drew := ⟨_, rfl⟩
      rw [← hWf]
      have hz : (W.setCell ⟨w.heap.size + 1, 0, none⟩ (.slice (some ⟨w.heap.size + 1 + 1, 0, none⟩) (trimTo Q n) n)).heap.size = W.heap.size := setCell_size _ _ _
      have E1 : Wf.heap[w.heap.size + 1]? = some (.cells #[.slice (some ⟨w.heap.size + 1 + 1, 0, none⟩) (trimTo Q n) n] 46 (0, 0)) := by
        rw [hWf]; exact (Below.heap_alloc _ _ _ (by rw [hz]; omega)).trans (Boxed.set _ G1.out)
      have E2 : Wf.heap[w.heap.size + 1 + 1]? = some (rowO Q) := by
        rw [hWf]; exact (Below.heap_alloc _ _ _ (by rw [hz]; exact lt_blk G2.out)).trans ((setCell_other (by omega)).trans G2.out)
      have ED : Wf.heap[D]? = some (.deferred (some [])) := by
        rw [hWf]; exact (Below.heap_alloc _ _ _ (by rw [hz]; exact lt_blk HK.out)).trans ((setCell_other (by omega)).trans HK.out)
      have ER : Wf.heap[W.heap.size]? = some (rowO [R]) := by
        rw [hWf, ← hz]; exact World.alloc_heap_new _ _
      have EB : Below w.heap.size w Wf := by
        rw [hWf]; exact ((GB.out.setCell (p := ⟨w.heap.size + 1, 0, none⟩) (by simp) _).alloc (by rw [hz]; omega) _).drew
      have hDW : D < W.heap.size := lt_blk HK.out
      clear hWf
      refine ⟨by simp, .inl ⟨_, _, rfl, run_takeDeferred ED, ?_⟩⟩
      have F1 : (Wf.putObj D (.deferred none)).heap[w.heap.size + 1]? = some (.cells #[.slice (some ⟨w.heap.size + 1 + 1, 0, none⟩) (trimTo Q n) n] 46 (0, 0)) := (World.putObj_heap_other (by omega)).trans E1
      have hc := cell_blk F1 0
      refine ⟨.tuple #[.slice (some ⟨w.heap.size + 1 + 1, 0, none⟩) (trimTo Q n) n, .slice (some ⟨W.heap.size, 0, none⟩) (trimTo [R] 1) 1], by simp [results, go_sem, hc, Act.put], ?_⟩
      exact short_end H1.out hQn hd2 ((World.putObj_heap_other (by omega)).trans E2) ((World.putObj_heap_other (by omega)).trans ER) (EB.trans (belowK_b (w := w) (Nat.le_refl _) _ D _ _ (by omega) ED rfl rfl)) HN.out (by omega) (by omega) (by have := GB.out.size; omega)
end Go.Proofs.YthkioajalhglfaaGreatDoor
