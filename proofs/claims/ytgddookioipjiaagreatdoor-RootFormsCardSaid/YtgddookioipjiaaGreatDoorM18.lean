/-
  Roots: the normal form of long numbers walked.; Roots: the normal form of any positive number.; Roots: Compare and Exact at good numbers walked.; Roots: what the walks of the laws share: sizes, signs, products.; Roots: check at any texts walked.; The reference's rational numbers: Parts and Div walked; products, quotients, sizes, signs, checks of the reference's roots.; The reference's integers: read once more, with the sign.
-/
import Derived.Test.YtgddookioipjiaaGreatDoorM16
import Derived.Test.YtgddookioipjiaaGreatDoorM17
import Derived.Test.YtgddookioipjiaaGreatDoorM15
import Derived.Test.YtgddookioipjiaaGreatDoorM12
namespace Go.KI
open Go
theorem long_fits {q : Rat} (h1 : (Lib.decDigits q.num.natAbs).length ≤ 90) (h2 : (Lib.decDigits q.den).length ≤ 90) (h0 : 0 < q.num) : fits ((q.num.toNat * q.den : Nat) : Int) := by
  refine fits_small (n := 180) (by rw [most_eq]; omega) ?_
  rw [Int.natAbs_natCast]
  have a := (dec_len_le (n := 90) (by omega)).1 h1
  have b := (dec_len_le (n := 90) (by omega)).1 h2
  have e : q.num.toNat = q.num.natAbs := by omega
  rw [e]
  exact mul_pow_lt a b
end Go.KI
namespace Go.Proofs.YtgddookioipjiaaGreatDoor
open Go.RowKit Go.KP Go.KI Go.Shelf
attribute [local go_sem] Oper.semAt_some

theorem cls_retQ {g : Nat} {args : Array Value} {v : Value} {B m : Nat} {w0 : World} (h : ∀ w, B ≤ w.heap.size → PQ B w → Calls Tryz.prog g args w (Ret w v)) (hT : PQ B w0) (hB : B ≤ m) (hm : m ≤ w0.heap.size) (x : Of (Below m w0)) :
    Calls Tryz.prog g args x.w fun e w' => e = .returned v ∧ Cls (Below m w0) w' :=
  (h x.w (by have := x.h.size; omega) (hT.on x.h hB)).mono fun _ _ ⟨h, hb⟩ => ⟨h, Cls.mk (x.h.trans (hb.mono (by have := x.h.size; omega)))⟩
instance ofBelow (n : Nat) (w : World) : Nonempty (Of (Below n w)) := ⟨⟨w, Below.refl n w⟩⟩
theorem set_off {w : World} {b c o : Nat} {x : Obj} (h : w.heap[b]? = some x) (hne : c ≠ b) (v : Value) : (w.setCell ⟨c, o, none⟩ v).heap[b]? = some x := by
  simp only [World.setCell]
  rw [Array.getElem?_modify, if_neg hne]
  exact h
theorem below_set2 {n b c : Nat} {w w1 : World} (h : Below n w w1) (hb : n ≤ b) (hc : n ≤ c) (u v : Value) : Below n w ((w1.setCell ⟨b, 0, none⟩ u).setCell ⟨c, 0, none⟩ v) :=
  h.trans ⟨rfl, rfl, rfl, by simp [World.setCell], fun j hj => (Below.heap_setCell _ _ _ _ (by show j ≠ c; omega)).trans (Below.heap_setCell _ _ _ _ (by show j ≠ b; omega))⟩
set_option maxRecDepth 100000 in
set_option maxHeartbeats 16000000 in
theorem rNormal_long {q : Rat} (fq : roomy q) (h0 : 0 < q.num) (hs : 17 < (numB q).size + (denB q).size) (B : Nat) (w : World) (hB : B ≤ w.heap.size) (hT : PR B w) :
    Calls Tryz.prog 14 #[.string (T q)] w (Ret w (.tuple #[.string (T (normC q)), .string (iB (normL q : Nat)), .int .i64 0])) := by
  have HT := hide hT
  have X0 := hide (heap2 w (.cells #[.string (T q)] 22) (.cells #[.string (T q)] 22))
  have HC := hide (rCheck_ok w.heap.size (w.heap.size + 1) [q] [q] (by simp) (by simp) (fun x hx => by simp at hx; rw [hx]; exact fq) (fun x hx => by simp at hx; rw [hx]; omega) B _ (nums1 X0.out.1) (nums1 X0.out.2.1) (Nat.le_trans hB X0.out.2.2.2.size) (hT.pq.on X0.out.2.2.2 hB))
  have HO := hide (fun w hB hT => rOf_T fq.1 B w hB hT)
  obtain ⟨m, hm⟩ : ∃ m, m = q.num.toNat * q.den := ⟨_, rfl⟩
  have fm : fits (m : Int) := by rw [hm]; exact long_fits fq.2.1 fq.2.2 h0
  have hm0 : 0 < m := by rw [hm]; exact Nat.mul_pos (by omega) q.den_pos
  have hN : numB q = iB q.num := rfl
  have hD : denB q = iB (q.den : Int) := rfl
  have hnd : q.num * (q.den : Int) = (m : Int) := by
    rw [hm, Int.natCast_mul]
    congr 1
    omega
  have HM := hide (fun w hB hT => rmul_I fq.1.1 fq.1.2 (by rw [hnd]; exact fm) B w hB hT)
  rw [hnd] at HM
  have hz : ((iB q.num).toList == [48]) = false := by
    rw [iB_zero_test, decide_eq_false_iff_not]
    omega
  have hsz : ((((numB q).size : Int) + ((denB q).size : Int)) ≤ 17) = False := eq_false (by omega)
  have fN := iB_size fq.1.1
  have fD := iB_size fq.1.2
  have hnorm : T (normC q) = T (((normN m).1 : Rat) / (q.den : Rat)) ∧ iB (normL q : Nat) = iB ((normN m).2 : Nat) := by
    unfold normC normL
    rw [← hm, Rat.divInt_eq_div]
    exact ⟨rfl, rfl⟩
  rw [hnorm.1, hnorm.2]
  obtain ⟨V1, hV1⟩ : ∃ V, V = T (((normN m).1 : Rat) / (q.den : Rat)) := ⟨_, rfl⟩
  obtain ⟨V2, hV2⟩ : ∃ V, V = iB ((normN m).2 : Nat) := ⟨_, rfl⟩
  rw [← hV1, ← hV2]
  have fd := fq.1.2
  have hd0 := q.den_pos
  rw [hN, hD] at HO hsz
  generalize hNN : iB q.num = N at HM HO hz hsz fN
  generalize hDD : iB (q.den : Int) = D at HM HO hsz fD
  generalize hXX : T q = X at HC HO X0 ⊢
  obtain ⟨dd, hdd⟩ : ∃ d, d = q.den := ⟨_, rfl⟩
  rw [← hdd] at fd hd0 hDD hV1
  have HV1 := hide hV1
  have HV2 := hide hV2
  have FM := hide fm
  have FD := hide fd
  have HDD := hide hDD
  clear hV1 hV2 fm fd hDD
  clear hdd hXX hNN hm hN hD hnd hnorm hs h0 fq hT
  refine (callsIn_wide (n := 0)).1 ?_
  refine callsIn_of_wp_marks Tryz.func14 rfl trivial ?_ rfl
  simp only [Tryz.ntmps14, List.size_toArray, List.length_cons, List.length_nil, Nat.reduceAdd, Nat.reduceSub, Array.replicate_succ, Array.replicate_zero, List.push_toArray, List.append_toArray, List.nil_append, List.cons_append]
  gi_wp2_with fail
  refine ⟨trivial, rfl, (callsIn_wide.2 HC.out).mono ?_⟩
  rintro e w1 ⟨rfl, hb1⟩
  have HB1 := hide (X0.out.2.2.2.trans (hb1.mono X0.out.2.2.2.size))
  clear hb1 HC X0
  gi_wp2_with fail
  refine ⟨trivial, rfl, (callsIn_wide.2 (HO.out _ (Nat.le_trans hB HB1.out.size) (HT.out.on HB1.out hB).pq)).mono ?_⟩
  rintro e w2 ⟨rfl, hb2⟩
  have X2 := hide (heap1 w2 (rpairO N D))
  have G2 := hide X2.out.1
  have HB2 := hide (HB1.out.trans ((hb2.trans (X2.out.2.2.mono hb2.size)).mono HB1.out.size))
  have hsz2 := HB1.out.size
  have hsz2b := hb2.size
  clear hb2 X2
  have k0 := cell_blk G2.out 0
  have k1 := cell_blk G2.out 1
  have kl := lt_blk G2.out
  gi_wp2_with fail
  refine ⟨trivial, rfl, (callsIn_wide.2 (HM.out _ (Nat.le_trans hB HB2.out.size) (HT.out.on HB2.out hB).pq.p10)).mono ?_⟩
  rintro e w3 ⟨rfl, hb3⟩
  have G3 := hide (below_blk hb3 G2.out (lt_blk G2.out))
  have HB3 := hide (HB2.out.trans (hb3.mono HB2.out.size))
  have hsz3 : w2.heap.size < w3.heap.size := Nat.lt_of_lt_of_le kl hb3.size
  clear hb3 k0 k1 kl G2
  gi_wp2_with fail
  refine ⟨trivial, rfl, (callsIn_wide.2 (squares_any (iB (m : Int)) _)).mono ?_⟩
  rintro e w4 ⟨rfl, hw4⟩
  obtain ⟨Y1, Y2, Y3, Y4, Y5⟩ := heap3 w3 (boxS ⟨#[49]⟩) (boxS (iB (m : Int))) (boxS (iB (m : Int)))
  rw [← hw4] at Y1 Y2 Y3 Y4 Y5
  have y4 := Y4
  have C0 := hide Y1; have L0 := hide Y2; have B0 := hide Y3
  have P0 := hide (below_blk Y5 G3.out (lt_blk G3.out))
  have HB4 := hide (HB3.out.trans (Y5.mono HB3.out.size))
  clear Y1 Y2 Y3 Y4 Y5 hw4 G3
  have B4 := hide (Nat.le_trans hB HB3.out.size)
  gi_wp2_with fail
  refine wp_iter_own (gf := 98) (lb := #[.pointer (some ⟨w3.heap.size + 1 + 1, 0, none⟩)]) rfl (enters_of Tryz.func98 (by kernel_rfl) rfl)
    (squaresSeq_any m hm0 FM.out (w3.heap.size + 2) B w4 B0.out (Nat.le_trans B4.out (by omega))) (fun b hb => ⟨by rw [hb, y4]; omega, rfl⟩) (fun _ => rfl)
    (fun k S W => S = (fun _ => False) ∧ W.heap[w2.heap.size]? = some (rpairO N D) ∧ W.heap[w3.heap.size]? = some (boxS (iB ((prodK m k : Nat) : Int))) ∧ W.heap[w3.heap.size + 1]? = some (boxS (iB ((leftK m k : Nat) : Int))) ∧ Below w.heap.size w W)
    (fun _ _ _ => False) ?hI (fun _ _ _ _ h _ => h) ?h0 ?hke
    (fun k S a1' W => a1' = { tmps := #[.string X, undef, .string ⟨#[]⟩, .string ⟨#[]⟩, .int .i64 0, .int .i64 0, .pointer (some ⟨w2.heap.size, 0, none⟩), undef, undef, undef, undef, undef, undef, .pointer (some ⟨w3.heap.size, 0, none⟩), .pointer (some ⟨w3.heap.size + 1, 0, none⟩), .string (iB ((stepAt m k).1 : Int)), .string (iB ((stepAt m k).2 : Int)), undef, undef, .string X, .slice (some ⟨w.heap.size, 0, none⟩) 1 1, .string X, .slice (some ⟨w.heap.size + 1, 0, none⟩) 1 1, .int .i64 0, .int .i64 0, .bool false, undef, .string X, rpairV N D, .pointer (some ⟨w2.heap.size, 0, none⟩), .string N, .bool false, .pointer (some ⟨w2.heap.size, 0, none⟩), .string N, .int .i64 N.size, .pointer (some ⟨w2.heap.size, 1, none⟩), .string D, .int .i64 D.size, .int .i64 ((N.size : Int) + (D.size : Int)), .bool false, undef, undef, undef, undef, undef, undef, undef, undef, undef, undef, undef, undef, undef, undef, undef, undef, undef, undef, undef, undef, .pointer (some ⟨w2.heap.size, 0, none⟩), .string N, .pointer (some ⟨w2.heap.size, 1, none⟩), .string D, .string (iB (m : Int)), .string (iB (m : Int)), .func (.func 98) #[] #[.pointer (some ⟨w3.heap.size + 1 + 1, 0, none⟩)], .string (iB ((stepAt m k).1 : Int)), .string (iB ((stepAt m k).2 : Int)), undef, undef, undef, undef, undef, undef, undef, undef, undef, undef, undef, undef, undef, undef, undef, undef, undef, undef], defers := [] })
    ?hAx ?hassign ?hS ?hbody ?hdone ?hstop
  case hI =>
    rintro k S W W2 ⟨rfl, h1, h2, h3, h4⟩ hq
    have e : ∀ {b : Nat} {o : Obj}, b < w3.heap.size + 2 → W.heap[b]? = some o → W2.heap[b]? = some o := fun {b} {o} hb h => (hq.block b (by omega) (.inl (by omega)) (lt_blk h)).trans h
    have hs1 := HB3.out.size
    exact ⟨rfl, e (by omega) h1, e (by omega) h2, e (by omega) h3, ⟨hq.os.trans h4.os, hq.tape.trans h4.tape, hq.output.trans h4.output, Nat.le_trans h4.size hq.size, fun j hj => (hq.block j (by omega) (.inl (by omega)) (by have := h4.size; omega)).trans (h4.block j hj)⟩⟩
  case h0 => exact ⟨rfl, P0.out, by rw [(prodK_zero m).1, show ((1 : Nat) : Int) = 1 from rfl, iB1]; exact C0.out, by rw [(prodK_zero m).2]; exact L0.out, HB4.out⟩
  case hke =>
    rintro k S W _ ⟨rfl, _, _, _, h4⟩
    exact HT.out.on h4 hB
  case hAx =>
    rintro k S a1' W l r r2 h _
    exact h
  case hassign =>
    intro lp k S W K hsz hSlt hK
    have HK := hide hK
    clear hK
    gi_wp2
    exact HK.out _ _ (Quiet.refl _ _ _) (Upd.refl _ _ _) rfl
  case hS =>
    rintro k S W ⟨rfl, _⟩ b hb
    exact hb.elim
  case hstop =>
    intro D c S W _ h
    exact h.elim
  case hbody =>
    rintro lp k S a1' W hk ⟨rfl, h1, h2, h3, h4⟩ rfl hsz
    obtain ⟨s1, s2⟩ := prodK_succ hk
    have hmul : ((prodK m k : Nat) : Int) * (((stepAt m k).1 : Nat) : Int) = ((prodK m (k + 1) : Nat) : Int) := by rw [s1, Int.natCast_mul]
    have HMU := hide (fun w hB hT => rmul_I (x := ((prodK m k : Nat) : Int)) (y := (((stepAt m k).1 : Nat) : Int)) (fits_of_le FM.out (by have := (prodK_le hm0 k).1; omega)) (fits_of_le FM.out (by have := step_le hm0 hk; omega)) (by rw [hmul]; exact fits_of_le FM.out (by have := (prodK_le hm0 (k + 1)).1; omega)) B w hB hT)
    rw [hmul] at HMU
    have S2 := hide s2
    have G1 := hide h1; have G2 := hide h2; have G3 := hide h3; have G4 := hide h4
    have c0 := cell_blk h2 0
    have cl := lt_blk h2
    clear hmul s1 s2 h1 h2 h3 h4 C0 L0 B0 P0
    gi_wp2
    refine ⟨trivial, rfl, (CallsIn.inRound lp (callsIn_wide.2 (HMU.out W (Nat.le_trans hB G4.out.size) (HT.out.on G4.out hB).pq.p10))).mono ?_⟩
    rintro e W2 ⟨rfl, hb2⟩
    have K1 := hide (below_blk hb2 G1.out (lt_blk G1.out)); have K2 := hide (below_blk hb2 G2.out (lt_blk G2.out)); have K3 := hide (below_blk hb2 G3.out (lt_blk G3.out)); have K4 := hide (G4.out.trans (hb2.mono G4.out.size))
    have BB := hide hb2
    clear hb2 c0 cl
    have c0 := cell_blk K2.out 0
    have cl := lt_blk K2.out
    have d0 := cell_blk K3.out 0
    have dl := lt_blk K3.out
    have f0 := froz_blk K2.out 0
    have g0 := froz_blk K3.out 0
    have hs1 := HB3.out.size
    gi_wp2
    refine ⟨_, (((Upd.refl _ _ W).of_below BB.out (Nat.le_refl _)).setBox (p := ⟨w3.heap.size, 0, none⟩) (show w3.heap.size < w4.heap.size by omega) _).setBox (p := ⟨w3.heap.size + 1, 0, none⟩) (show w3.heap.size + 1 < w4.heap.size by omega) _, ?_, rfl, ?_, ?_, ?_, ?_⟩
    · rintro b rfl
      rw [Below.heap_setCell _ _ _ _ (show w3.heap.size + 2 ≠ w3.heap.size + 1 by omega), Below.heap_setCell _ _ _ _ (show w3.heap.size + 2 ≠ w3.heap.size by omega)]
      exact BB.out.block _ (by omega)
    · exact set_off (set_off K1.out (by omega) _) (by omega) _
    · exact set_off (box_set K2.out _) (by omega) _
    · rw [S2.out]
      exact box_set (set_off K3.out (by omega) _) _
    · exact below_set2 K4.out (by omega) (by omega) _ _
  case hdone =>
    rintro D' S W hD' ⟨rfl, h1, h2, h3, h4⟩ hDf
    obtain ⟨n, hn⟩ : ∃ n, n = (allS m).length := ⟨_, rfl⟩
    rw [← hn] at h2 h3
    obtain ⟨q1, q2, q3⟩ := prodK_law hm0 n
    obtain ⟨q4, q5⟩ := prodK_le hm0 n
    have hNS := normN_steps hm0
    rw [← hn] at hNS
    obtain ⟨c, hc⟩ : ∃ c, c = prodK m n := ⟨_, rfl⟩
    obtain ⟨l, hl⟩ : ∃ c, c = leftK m n := ⟨_, rfl⟩
    rw [← hc] at h2 q1 q3 q4 hNS
    rw [← hl] at h3 q1 q2 q5 hNS
    have fl : fits (l : Int) := fits_of_le FM.out (by omega)
    have HE := hide (fun w hB hT => rexact_I fl B w hB hT)
    have hdz : ((dd : Nat) : Int) ≠ 0 := by omega
    have hs1 := HB3.out.size
    have hld := lt_blk hDf
    have G1 := hide h1; have G2 := hide h2; have G3 := hide h3; have G4 := hide h4; have GD := hide hDf
    have d0 := cell_blk h3 0
    have dl := lt_blk h3
    clear h1 h2 h3 h4 hDf C0 L0 B0 P0 hc hl hn
    obtain ⟨b, hb⟩ : ∃ b, b = sqI l := ⟨_, rfl⟩
    rw [← hb] at HE hNS
    cases b
    · rw [if_neg (by simp)] at hNS
      have e1 : T (((c : Nat) : Rat) / (dd : Rat)) = V1 := by rw [HV1.out, hNS]
      have e2 : iB (l : Int) = V2 := by rw [HV2.out, hNS]
      have HFR := hide (fun w hB hT => rfraction_I (x := ((c : Nat) : Int)) (y := ((dd : Nat) : Int)) (fits_of_le FM.out (by omega)) FD.out hdz B w hB hT)
      rw [show (((c : Nat) : Int) : Rat) = ((c : Nat) : Rat) from rfl, show (((dd : Nat) : Int) : Rat) = ((dd : Nat) : Rat) from rfl, e1, HDD.out] at HFR
      rw [e2] at HE G3 d0
      generalize iB ((c : Nat) : Int) = CB at HFR G2
      generalize iB ((rootN l : Nat) : Int) = RB at HE
      clear e1 e2 hNS hb q1 q2 q3 q4 q5 fl hdz
      gi_wp2
      refine ⟨trivial, rfl, (callsIn_wide.2 (HE.out W (Nat.le_trans hB G4.out.size) (HT.out.on G4.out hB).pq.p10)).mono ?_⟩
      rintro e W2 ⟨rfl, hb2⟩
      have K1 := hide (below_blk hb2 G1.out (lt_blk G1.out)); have K2 := hide (below_blk hb2 G2.out (lt_blk G2.out)); have K3 := hide (below_blk hb2 G3.out dl); have K4 := hide (G4.out.trans (hb2.mono G4.out.size)); have KD := hide (below_blk hb2 GD.out hld)
      have ld2 : D' < W2.heap.size := Nat.lt_of_lt_of_le hld hb2.size
      clear hb2 d0 dl G1 G2 G3 HE
      gi_wp2
      have hTn := HT.out.on K4.out hB
      have hBn := Nat.le_trans hB K4.out.size
      have KF := hide (fun x => cls_retQ (m := W2.heap.size) (w0 := W2) HFR.out hTn.pq hBn (Nat.le_refl _) x)
      have hx1 : ∀ x : Of (Below W2.heap.size W2), ∀ o, x.w.cell? ⟨w2.heap.size, o, none⟩ = W2.cell? ⟨w2.heap.size, o, none⟩ := fun x o => x.h.cell (p := ⟨w2.heap.size, o, none⟩) (lt_blk K1.out)
      have hx2 : ∀ x : Of (Below W2.heap.size W2), ∀ o, x.w.cell? ⟨w3.heap.size, o, none⟩ = W2.cell? ⟨w3.heap.size, o, none⟩ := fun x o => x.h.cell (p := ⟨w3.heap.size, o, none⟩) (lt_blk K2.out)
      have hx3 : ∀ x : Of (Below W2.heap.size W2), ∀ o, x.w.cell? ⟨w3.heap.size + 1, o, none⟩ = W2.cell? ⟨w3.heap.size + 1, o, none⟩ := fun x o => x.h.cell (p := ⟨w3.heap.size + 1, o, none⟩) (lt_blk K3.out)
      have c1 := fun o => cell_blk K1.out o
      have c2 := fun o => cell_blk K2.out o
      have c3 := fun o => cell_blk K3.out o
      clear hTn hBn
      refine region_calm ?_
      refine region_class (C := Cls (Below W2.heap.size W2)) (by kernel_rfl) (by kernel_rfl) (by kernel_rfl) (Cls.mk (Below.refl _ _).drew) ?_
      repeat (go_big_quiet_step (with_reducible exact KF.out _))
      refine wpQuiet_nil ?_
      intro W5 hcl
      have HB5 := hide (K4.out.trans (hcl.out.mono K4.out.size))
      have GD5 := hide (below_blk hcl.out KD.out (lt_blk KD.out))
      clear hcl hx1 hx2 hx3 c1 c2 c3
      refine calm_normal ?_
      gi_wp2
      refine ⟨by simp, .inl ⟨_, _, rfl, run_takeDeferred GD5.out, ?_⟩⟩
      refine ⟨_, results_tmp3 rfl _ _ _, rfl, ?_⟩
      exact HB5.out.trans (belowK_b (w := w) (Nat.le_refl _) _ D' _ _ (by have := HB5.out.size; omega) GD5.out rfl rfl)
    · rw [if_pos rfl] at hNS
      have e1 : T ((((c * rootN l : Nat) : Nat) : Rat) / (dd : Rat)) = V1 := by rw [HV1.out, hNS]
      have e2 : (⟨#[49]⟩ : ByteArray) = V2 := by rw [HV2.out, hNS, ← iB1]; rfl
      have hr0 : rootN l ≤ l := Nat.le_trans (Nat.le_mul_of_pos_left _ (root_pos q2)) (rootN_spec l).1
      have hcr : c * rootN l ≤ m := by
        have h1 : c * rootN l ≤ c * l := Nat.mul_le_mul (Nat.le_refl _) hr0
        have h2 : 1 * (c * l) ≤ c * (c * l) := Nat.mul_le_mul q3 (Nat.le_refl _)
        rw [Nat.one_mul, ← Nat.mul_assoc, q1] at h2
        omega
      have hmul : ((c : Nat) : Int) * ((rootN l : Nat) : Int) = ((c * rootN l : Nat) : Int) := (Int.natCast_mul _ _).symm
      have HMU := hide (fun w hB hT => rmul_I (x := ((c : Nat) : Int)) (y := ((rootN l : Nat) : Int)) (fits_of_le FM.out (by omega)) (fits_of_le FM.out (by omega)) (by rw [hmul]; exact fits_of_le FM.out (by omega)) B w hB hT)
      rw [hmul] at HMU
      have HFR := hide (fun w hB hT => rfraction_I (x := ((c * rootN l : Nat) : Int)) (y := ((dd : Nat) : Int)) (fits_of_le FM.out (by omega)) FD.out hdz B w hB hT)
      rw [show (((c * rootN l : Nat) : Int) : Rat) = ((c * rootN l : Nat) : Rat) from rfl, show (((dd : Nat) : Int) : Rat) = ((dd : Nat) : Rat) from rfl, e1, HDD.out] at HFR
      subst e2
      generalize iB ((c * rootN l : Nat) : Int) = CR at HFR HMU
      generalize iB ((c : Nat) : Int) = CB at HMU G2
      generalize iB ((rootN l : Nat) : Int) = RB at HE HMU
      generalize iB (l : Int) = LB at HE G3 d0
      clear e1 hNS hb q1 q2 q3 q4 q5 fl hdz hr0 hcr hmul
      gi_wp2
      refine ⟨trivial, rfl, (callsIn_wide.2 (HE.out W (Nat.le_trans hB G4.out.size) (HT.out.on G4.out hB).pq.p10)).mono ?_⟩
      rintro e W2 ⟨rfl, hb2⟩
      have K1 := hide (below_blk hb2 G1.out (lt_blk G1.out)); have K2 := hide (below_blk hb2 G2.out (lt_blk G2.out)); have K3 := hide (below_blk hb2 G3.out dl); have K4 := hide (G4.out.trans (hb2.mono G4.out.size)); have KD := hide (below_blk hb2 GD.out hld)
      have ld2 : D' < W2.heap.size := Nat.lt_of_lt_of_le hld hb2.size
      clear hb2 d0 dl G1 G2 G3 HE
      have c0 := cell_blk K2.out 0
      have cl := lt_blk K2.out
      gi_wp2
      refine ⟨trivial, rfl, (callsIn_wide.2 (HMU.out W2 (Nat.le_trans hB K4.out.size) (HT.out.on K4.out hB).pq.p10)).mono ?_⟩
      rintro e W3 ⟨rfl, hb3⟩
      have M1 := hide (below_blk hb3 K1.out (lt_blk K1.out)); have M2 := hide (below_blk hb3 K2.out (lt_blk K2.out)); have M3 := hide (below_blk hb3 K3.out (lt_blk K3.out)); have M4 := hide (K4.out.trans (hb3.mono K4.out.size)); have MD := hide (below_blk hb3 KD.out ld2)
      clear hb3 c0 cl K1 K2 K3 K4 KD ld2
      have c0 := cell_blk M2.out 0
      have cl := lt_blk M2.out
      have d0 := cell_blk M3.out 0
      have dl := lt_blk M3.out
      have f0 := froz_blk M2.out 0
      have g0 := froz_blk M3.out 0
      gi_wp2
      clear c0 cl d0 dl f0 g0
      obtain ⟨W4, hW4⟩ : ∃ W4, W4 = (W3.setCell ⟨w3.heap.size, 0, none⟩ (.string CR)).setCell ⟨w3.heap.size + 1, 0, none⟩ (.string ⟨#[49]⟩) := ⟨_, rfl⟩
      rw [← hW4]
      have K1 := hide (show W4.heap[w2.heap.size]? = some (rpairO N D) from by rw [hW4]; exact set_off (set_off M1.out (by omega) _) (by omega) _)
      have K2 := hide (show W4.heap[w3.heap.size]? = some (boxS CR) from by rw [hW4]; exact set_off (box_set M2.out _) (by omega) _)
      have K3 := hide (show W4.heap[w3.heap.size + 1]? = some (boxS ⟨#[49]⟩) from by rw [hW4]; exact box_set (set_off M3.out (by omega) _) _)
      have K4 := hide (show Below w.heap.size w W4 from by rw [hW4]; exact below_set2 M4.out (by omega) (by omega) _ _)
      have KD := hide (show W4.heap[D']? = some (.deferred (some [])) from by rw [hW4]; exact set_off (set_off MD.out (by omega) _) (by omega) _)
      clear hW4 M1 M2 M3 M4 MD
      have hTn := HT.out.on K4.out hB
      have hBn := Nat.le_trans hB K4.out.size
      have KF := hide (fun x => cls_retQ (m := W4.heap.size) (w0 := W4) HFR.out hTn.pq hBn (Nat.le_refl _) x)
      have hx1 : ∀ x : Of (Below W4.heap.size W4), ∀ o, x.w.cell? ⟨w2.heap.size, o, none⟩ = W4.cell? ⟨w2.heap.size, o, none⟩ := fun x o => x.h.cell (p := ⟨w2.heap.size, o, none⟩) (lt_blk K1.out)
      have hx2 : ∀ x : Of (Below W4.heap.size W4), ∀ o, x.w.cell? ⟨w3.heap.size, o, none⟩ = W4.cell? ⟨w3.heap.size, o, none⟩ := fun x o => x.h.cell (p := ⟨w3.heap.size, o, none⟩) (lt_blk K2.out)
      have hx3 : ∀ x : Of (Below W4.heap.size W4), ∀ o, x.w.cell? ⟨w3.heap.size + 1, o, none⟩ = W4.cell? ⟨w3.heap.size + 1, o, none⟩ := fun x o => x.h.cell (p := ⟨w3.heap.size + 1, o, none⟩) (lt_blk K3.out)
      have c1 := fun o => cell_blk K1.out o
      have c2 := fun o => cell_blk K2.out o
      have c3 := fun o => cell_blk K3.out o
      clear hTn hBn
      refine region_calm ?_
      refine region_class (C := Cls (Below W4.heap.size W4)) (by kernel_rfl) (by kernel_rfl) (by kernel_rfl) (Cls.mk (Below.refl _ _).drew) ?_
      repeat (go_big_quiet_step (with_reducible exact KF.out _))
      refine wpQuiet_nil ?_
      intro W5 hcl
      have HB5 := hide (K4.out.trans (hcl.out.mono K4.out.size))
      have GD5 := hide (below_blk hcl.out KD.out (lt_blk KD.out))
      clear hcl hx1 hx2 hx3 c1 c2 c3
      refine calm_normal ?_
      gi_wp2
      refine ⟨by simp, .inl ⟨_, _, rfl, run_takeDeferred GD5.out, ?_⟩⟩
      refine ⟨_, results_tmp3 rfl _ _ _, rfl, ?_⟩
      exact HB5.out.trans (belowK_b (w := w) (Nat.le_refl _) _ D' _ _ (by have := HB5.out.size; omega) GD5.out rfl rfl)
end Go.Proofs.YtgddookioipjiaaGreatDoor
namespace Go.Proofs.YtgddookioipjiaaGreatDoor
open Go.RowKit Go.KP Go.KI Go.Shelf
attribute [local go_sem] Oper.semAt_some

theorem rNormal_pos {q : Rat} (fq : roomy q) (h0 : 0 < q.num) (B : Nat) (w : World) (hB : B ≤ w.heap.size) (hT : PR B w) :
    Calls Tryz.prog 14 #[.string (T q)] w (Ret w (.tuple #[.string (T (normC q)), .string (iB (normL q : Nat)), .int .i64 0])) := by
  by_cases hs : (numB q).size + (denB q).size ≤ 17
  · exact rNormal_small fq h0 hs B w hB hT
  · exact rNormal_long fq h0 (by omega) B w hB hT
/-- What the normal form is. -/
theorem norm_law {q : Rat} (h0 : 0 < q.num) : normC q * normC q * (normL q : Rat) = q ∧ 0 < normC q ∧ 0 < normL q ∧ (∀ p ∈ primes25, ¬ normL q % (p * p) = 0) := by
  have hm : 0 < q.num.toNat * q.den := Nat.mul_pos (by omega) q.den_pos
  obtain ⟨n1, n2, n3, n4, _⟩ := normN_spec hm
  have e1 : ((normN (q.num.toNat * q.den)).1 : Rat) * ((normN (q.num.toNat * q.den)).1 : Rat) * ((normN (q.num.toNat * q.den)).2 : Rat) = ((q.num.toNat : Nat) : Rat) * ((q.den : Nat) : Rat) := by
    rw [← Rat.natCast_mul, ← Rat.natCast_mul, n1, Rat.natCast_mul]
  have e2 : ((q.num.toNat : Nat) : Rat) = (q.num : Rat) := by
    have e : ((q.num.toNat : Nat) : Int) = q.num := by omega
    rw [← Rat.intCast_natCast, e]
  have hq := rat_quot q
  have hd : (0 : Rat) < ((q.den : Nat) : Rat) := by exact_mod_cast q.den_pos
  have hc : (0 : Rat) < ((normN (q.num.toNat * q.den)).1 : Rat) := by exact_mod_cast n3
  unfold normC normL
  rw [Rat.divInt_eq_div]
  show ((normN (q.num.toNat * q.den)).1 : Rat) / ((q.den : Nat) : Rat) * (((normN (q.num.toNat * q.den)).1 : Rat) / ((q.den : Nat) : Rat)) * ((normN (q.num.toNat * q.den)).2 : Rat) = q ∧ 0 < ((normN (q.num.toNat * q.den)).1 : Rat) / ((q.den : Nat) : Rat) ∧ _ ∧ _
  refine ⟨?_, ?_, n2, n4⟩
  · rw [e2] at e1
    have hdi : (q.num : Rat) = q * ((q.den : Nat) : Rat) := by
      have h2 : ((q.den : Nat) : Rat) ≠ 0 := fun e => by rw [e] at hd; exact absurd hd Rat.lt_irrefl
      generalize hx : (q.num : Rat) = x at hq
      generalize hy : ((q.den : Nat) : Rat) = y at hq h2
      rw [← hq, Rat.div_def, Rat.mul_assoc, Rat.inv_mul_cancel _ h2, Rat.mul_one]
    generalize ((normN (q.num.toNat * q.den)).1 : Rat) = c at e1 ⊢
    generalize ((normN (q.num.toNat * q.den)).2 : Rat) = l at e1 ⊢
    generalize ((q.den : Nat) : Rat) = d at e1 hdi hd ⊢
    rw [hdi] at e1
    rw [Rat.div_def]
    have h1 : d * d⁻¹ = 1 := Rat.mul_inv_cancel _ (fun e => by rw [e] at hd; exact absurd hd Rat.lt_irrefl)
    grind
  · rw [Rat.div_def]
    exact Rat.mul_pos hc (Rat.inv_pos.2 hd)
end Go.Proofs.YtgddookioipjiaaGreatDoor
namespace Go.Proofs.YtgddookioipjiaaGreatDoor
open Go.RowKit Go.KP Go.KI Go.Shelf
attribute [local go_sem] Oper.semAt_some

set_option maxRecDepth 100000 in
theorem rExact_T {q : Rat} (rq : roomy q) (hq : 0 ≤ q.num) (B : Nat) (w : World) (hB : B ≤ w.heap.size) (hT : PQ B w) :
    Calls Tryz.prog 16 #[.string (T q)] w (Ret w (.tuple #[.string (rootT (sqR q)), .bool (rootB (sqR q)), .int .i64 0])) := by
  have HT := hide hT
  have X0 := hide (heap2 w (.cells #[.string (T q)] 22) (.cells #[.string (T q)] 22))
  have HC := hide (rCheck_ok w.heap.size (w.heap.size + 1) [q] [q] (by simp) (by simp) (fun x hx => by simp at hx; subst hx; exact rq) (fun x hx => by simp at hx; subst hx; omega) B _ (nums1 X0.out.1) (nums1 X0.out.2.1) (Nat.le_trans hB X0.out.2.2.2.size) (hT.on X0.out.2.2.2 hB))
  have HO := hide (fun w hB hT => rOf_T rq.1 B w hB hT)
  have HR := hide (fun w hB hT => rrootOf_T rq.1 hq B w hB hT)
  generalize rootT (sqR q) = RT at HR ⊢
  generalize rootB (sqR q) = RB at HR ⊢
  generalize numB q = N at HO HR
  generalize denB q = D at HO HR
  generalize T q = X at *
  clear rq hq hT
  go_enter Tryz.func16, Tryz.ntmps16
  go_wp2_with fail
  refine HC.out.mono ?_
  rintro e w1 ⟨rfl, hb1⟩
  have HB1 := hide (X0.out.2.2.2.trans (hb1.mono X0.out.2.2.2.size))
  clear hb1
  go_wp2_with fail
  refine (HO.out _ (Nat.le_trans hB HB1.out.size) (HT.out.on HB1.out hB)).mono ?_
  rintro e w2 ⟨rfl, hb2⟩
  have HB2 := hide (HB1.out.trans (hb2.mono HB1.out.size))
  clear hb2
  go_wp2_with fail
  refine (HR.out _ (Nat.le_trans hB HB2.out.size) (HT.out.on HB2.out hB)).mono ?_
  rintro e w3 ⟨rfl, hb3⟩
  have HB3 := hide (HB2.out.trans (hb3.mono HB2.out.size))
  clear hb3
  go_wp2_with fail
  refine bodyPost_ret (results_tmp3 rfl _ _ _) rfl ?_
  exact ⟨rfl, HB3.out⟩
end Go.Proofs.YtgddookioipjiaaGreatDoor
namespace Go.KI
open Go
/-- A text of the laws: at most 20 bytes, a number. -/
def okS (s : ByteArray) : Prop := s.size ≤ 20 ∧ chkQ s.data.toList = 0
instance (s : ByteArray) : Decidable (okS s) := inferInstanceAs (Decidable (_ ∧ _))
end Go.KI
namespace Go.Proofs.YtgddookioipjiaaGreatDoor
open Go.RowKit Go.KP Go.KI Go.Shelf
attribute [local go_sem] Oper.semAt_some

/-- A row of texts in the memory. -/
def StrsAt (w : World) (b : Nat) (l : List ByteArray) : Prop := b < w.heap.size ∧ ∀ (i : Nat) s, l[i]? = some s → w.cell? ⟨b, i, none⟩ = some (.string s)
theorem StrsAt.below {w w2 : World} {b : Nat} {l : List ByteArray} {n : Nat} (h : StrsAt w b l) (hb : Below n w w2) (hn : b < n) : StrsAt w2 b l :=
  ⟨Nat.lt_of_lt_of_le h.1 hb.size, fun i q hq => by rw [← h.2 i q hq]; exact hb.cell (p := ⟨b, i, none⟩) hn⟩
theorem strs1 {w : World} {b : Nat} {p : ByteArray} (h : w.heap[b]? = some (.cells #[.string p] 22 (0, 0))) : StrsAt w b [p] := by
  refine ⟨lt_blk h, fun i x hx => ?_⟩
  match i with
  | 0 => simp at hx; rw [← hx]; exact cell_blk h 0
  | i + 1 => simp at hx
theorem strs2 {w : World} {b : Nat} {p q : ByteArray} (h : w.heap[b]? = some (.cells #[.string p, .string q] 22 (0, 0))) : StrsAt w b [p, q] := by
  refine ⟨lt_blk h, fun i x hx => ?_⟩
  match i with
  | 0 => simp at hx; rw [← hx]; exact cell_blk h 0
  | 1 => simp at hx; rw [← hx]; exact cell_blk h 1
  | i + 2 => simp at hx
theorem T1 : T 1 = ⟨#[49]⟩ := by
  rw [show T 1 = iB ((1 : Nat) : Int) from (iB_T _).symm]
  exact lit1
end Go.Proofs.YtgddookioipjiaaGreatDoor
namespace Go.KI
open Go
/-- Why a text is no number, or one too long for roots. -/
def chk90 (l : List UInt8) : Int := if chkQ l ≠ 0 then chkQ l else if 90 < max (Lib.decDigits (valQ l).num.natAbs).length (Lib.decDigits (valQ l).den).length then 4 else 0
/-- The first error of texts. -/
def firstE : List ByteArray → Int
  | [] => 0
  | s :: r => if chk90 s.data.toList ≠ 0 then chk90 s.data.toList else firstE r
/-- Whether a text has a minus sign. -/
def negS (s : ByteArray) : Bool := s.data.toList.head? == some 45
def checkE (l1 l2 : List ByteArray) : Int := if firstE l1 ≠ 0 then firstE l1 else if l2.any negS then 2 else 0
theorem firstE_take {l : List ByteArray} : ∀ {k : Nat} {s : ByteArray}, l[k]? = some s → (∀ x ∈ l.take k, chk90 x.data.toList = 0) → chk90 s.data.toList ≠ 0 → firstE l = chk90 s.data.toList := by
  induction l with
  | nil => intro k s h; simp at h
  | cons x r ih =>
    intro k s h hk hs
    cases k with
    | zero =>
      simp at h
      subst h
      exact if_pos hs
    | succ k =>
      simp at h
      have h0 := hk x (by simp)
      show (if chk90 x.data.toList ≠ 0 then _ else firstE r) = _
      rw [if_neg (by simp [h0])]
      exact ih h (fun y hy => hk y (by simp [hy])) hs
theorem firstE_zero {l : List ByteArray} (h : ∀ x ∈ l, chk90 x.data.toList = 0) : firstE l = 0 := by
  induction l with
  | nil => rfl
  | cons x r ih =>
    show (if chk90 x.data.toList ≠ 0 then _ else firstE r) = 0
    rw [if_neg (by simp [h x (by simp)])]
    exact ih (fun y hy => h y (by simp [hy]))
theorem chk90_zero {l : List UInt8} (h : chk90 l = 0) : chkQ l = 0 ∧ (Lib.decDigits (valQ l).num.natAbs).length ≤ 90 ∧ (Lib.decDigits (valQ l).den).length ≤ 90 := by
  unfold chk90 at h
  by_cases h1 : chkQ l = 0
  · rw [if_neg (by simp [h1])] at h
    by_cases h2 : 90 < max (Lib.decDigits (valQ l).num.natAbs).length (Lib.decDigits (valQ l).den).length
    · rw [if_pos h2] at h; cases h
    · exact ⟨h1, by omega, by omega⟩
  · rw [if_pos h1] at h; exact absurd h h1
theorem chk90_none {l : List UInt8} (h : chkQ l ≠ 0) : chk90 l = chkQ l := if_pos h
end Go.KI
namespace Go.Proofs.YtgddookioipjiaaGreatDoor
open Go.RowKit Go.KP Go.KI Go.Shelf
attribute [local go_sem] Oper.semAt_some

theorem chk90_roomy {s : ByteArray} (h : chk90 s.data.toList = 0) : ∃ q, roomy q ∧ s = T q := by
  obtain ⟨h1, h2, h3⟩ := chk90_zero h
  obtain ⟨e, f, _, _⟩ := chkQ_ok h1
  exact ⟨valQ s.data.toList, ⟨f, h2, h3⟩, T_of e⟩
theorem roomy_chk90 {q : Rat} (h : roomy q) : chk90 (T q).data.toList = 0 := by
  unfold chk90
  rw [T_list, ratS_num, if_neg (by simp [chkQ_fits h.1]), if_neg]
  have := h.2.1
  have := h.2.2
  omega
theorem negS_T (q : Rat) : negS (T q) = decide (q.num < 0) := T_head q
set_option maxRecDepth 100000 in
set_option maxHeartbeats 16000000 in
theorem rCheck_any (b1 b2 : Nat) (l1 l2 : List ByteArray) (n1 : l1.length ≤ 1000) (n2 : l2.length ≤ 1000) (h1 : ∀ s ∈ l1, s.size ≤ 1000000) (B : Nat) (w : World) (c1 : StrsAt w b1 l1) (c2 : StrsAt w b2 l2) (hB : B ≤ w.heap.size) (hT : PQ B w) :
    Calls Tryz.prog 39 #[.slice (some ⟨b1, 0, none⟩) l1.length l1.length, .slice (some ⟨b2, 0, none⟩) l2.length l2.length] w (Ret w (.int .i64 (checkE l1 l2))) := by
  have HT := hide hT
  obtain ⟨n, hn⟩ : ∃ n, n = l1.length := ⟨_, rfl⟩
  obtain ⟨m, hm⟩ : ∃ n, n = l2.length := ⟨_, rfl⟩
  rw [← hn] at n1 ⊢
  rw [← hm] at n2 ⊢
  have C1 := hide c1
  have C2 := hide c2
  have N1 := hide hn
  have N2 := hide hm
  have R1 := hide h1
  obtain ⟨R, hR⟩ : ∃ R, R = checkE l1 l2 := ⟨_, rfl⟩
  rw [← hR]
  have HR := hide hR
  clear c1 c2 hn hm h1 hT hR
  go_enter Tryz.func39, Tryz.ntmps39
  go_wp2_with fail
  go_loopw [13] (fun i wr => ∃ k : Nat, k ≤ n ∧ i = .int .i64 k ∧ Hid ((∀ x ∈ l1.take k, chk90 x.data.toList = 0) ∧ Below w.heap.size w wr)) (fun i _ => n - (intOf i).toNat)
  case atStart => exact ⟨0, Nat.zero_le _, rfl, by simp, Below.refl _ _⟩
  case round =>
    obtain ⟨k, hk, rfl, hin⟩ := hrel
    obtain ⟨wo, hwo⟩ : ∃ wo, wo = wr := ⟨_, rfl⟩
    subst hwo
    have IN := hide hin.out.1
    have HB0 := hide hin.out.2
    by_cases hlt : k < n
    · have hki : (k : Int) < (n : Int) := by omega
      have hk0 : (0 : Int) ≤ (k : Int) := by omega
      obtain ⟨s, hs⟩ : ∃ s, l1[k]? = some s := ⟨_, List.getElem?_eq_getElem (by rw [← N1.out]; exact hlt)⟩
      have hss := R1.out s (List.mem_of_getElem? hs)
      have hcell := (C1.out.below HB0.out C1.out.1).2 k s hs
      have HC := hide (qCheck_any s hss B wo (Nat.le_trans hB HB0.out.size) (HT.out.on HB0.out hB))
      by_cases hq : chkQ s.data.toList = 0
      rotate_left
      · have e : R = chkQ s.data.toList := by
          have h9 := chk90_none hq
          have := firstE_take hs IN.out (by rw [h9]; exact hq)
          rw [h9] at this
          rw [HR.out]
          unfold checkE
          rw [this, if_pos hq]
        have hqb : (chkQ s.data.toList == 0) = false := by simpa using hq
        rw [← e] at HC hqb
        clear hs hss hq e hlt hin
        go_wp2_with fail
        refine HC.out.mono ?_
        rintro e w1 ⟨rfl, hb1⟩
        have HB1 := hide (HB0.out.trans (hb1.mono HB0.out.size))
        clear hb1 hcell
        go_wp2_with fail
        go_ret
        exact ⟨rfl, HB1.out⟩
      rw [hq] at HC
      obtain ⟨eT, fq, _, _⟩ := chkQ_ok hq
      obtain ⟨q, hqq⟩ : ∃ q, q = valQ s.data.toList := ⟨_, rfl⟩
      rw [← hqq] at eT fq
      have eS : s = T q := T_of eT
      have HO := hide (fun w hB hT => rOf_T fq B w hB hT)
      obtain ⟨D, hD⟩ : ∃ X, X = denB q := ⟨_, rfl⟩
      obtain ⟨N, hN⟩ : ∃ X, X = numB q := ⟨_, rfl⟩
      have HTP := hide (fun w => trimPrefix_any N w)
      rw [show N.data.toList = Lib.itoa q.num by rw [hN]; exact strB_list _, digs_itoa] at HTP
      have hDs : D.size = (Lib.decDigits q.den).length := by
        rw [hD]
        unfold denB
        rw [strB_size, Lib.itoa_nonneg]
      obtain ⟨M, hM⟩ : ∃ X, X = strB (Lib.decDigits q.num.natAbs) := ⟨_, rfl⟩
      have hMs : M.size = (Lib.decDigits q.num.natAbs).length := by rw [hM, strB_size]
      have h9 : chk90 s.data.toList = if 90 < max M.size D.size then 4 else 0 := by
        unfold chk90
        rw [if_neg (by simp [hq]), ← hqq, hMs, hDs]
      rw [← hM] at HTP
      rw [← hN, ← hD] at HO
      rw [← eS] at HO
      have hbig : (90 < max M.size D.size ∧ R = 4 ∧ (90 : Int) < max (M.size : Int) (D.size : Int)) ∨ ((∀ x ∈ l1.take (k + 1), chk90 x.data.toList = 0) ∧ ((90 : Int) < max (M.size : Int) (D.size : Int)) = False) := by
        by_cases hb : 90 < max M.size D.size
        · rw [if_pos hb] at h9
          refine .inl ⟨hb, ?_, by omega⟩
          have := firstE_take hs IN.out (by rw [h9]; decide)
          rw [h9] at this
          rw [HR.out]
          unfold checkE
          rw [this, if_pos (by decide)]
        · rw [if_neg hb] at h9
          refine .inr ⟨fun x hx => ?_, eq_false (by omega)⟩
          rw [List.take_add_one, hs] at hx
          rcases List.mem_append.1 hx with h | h
          · exact IN.out x h
          · simp at h; rw [h]; exact h9
      have HBIG := hide hbig
      clear hs hss hq eT fq hqq eS hD hN hM hMs hDs h9 hbig hlt hin
      go_wp2_with fail
      refine HC.out.mono ?_
      rintro e w1 ⟨rfl, hb1⟩
      have HB1 := hide (HB0.out.trans (hb1.mono HB0.out.size))
      clear hb1 hcell HC
      go_wp2_with fail
      refine (HO.out _ (Nat.le_trans hB HB1.out.size) (HT.out.on HB1.out hB)).mono ?_
      rintro e w2 ⟨rfl, hb2⟩
      have X2 := hide (heap1 w2 (rpairO N D))
      have G2 := hide X2.out.1
      have HB2 := hide (HB1.out.trans ((hb2.trans (X2.out.2.2.mono hb2.size)).mono HB1.out.size))
      clear hb2
      go_wp2_with fail
      obtain ⟨W, hW⟩ : ∃ W, W = w2.alloc (rpairO N D) := ⟨_, rfl⟩
      rw [← hW] at G2 HB2 ⊢
      clear hW X2
      have HTC := hide (fun (x : Of (Below W.heap.size W)) => show Calls Tryz.prog 92 #[.string N, .string ⟨#[45]⟩] x.w fun e w' => e = .returned (.string M) ∧ Cls (Below W.heap.size W) w' from (HTP.out x.w).mono fun _ _ ⟨h, hb⟩ => ⟨h, by rw [← hb]; exact Cls.mk x.h⟩)
      have hx1 : ∀ x : Of (Below W.heap.size W), ∀ o, x.w.cell? ⟨w2.heap.size, o, none⟩ = W.cell? ⟨w2.heap.size, o, none⟩ := fun x o => x.h.cell (p := ⟨w2.heap.size, o, none⟩) (lt_blk G2.out)
      have cc1 := fun o => cell_blk G2.out o
      have kn : Nonempty (Of (Below W.heap.size W)) := ⟨⟨_, Below.refl _ _⟩⟩
      rcases HBIG.out with ⟨_, rfl, hmx⟩ | ⟨hall, hmx⟩
      · refine region_class (C := Cls (Below W.heap.size W)) (by kernel_rfl) (by kernel_rfl) (by kernel_rfl) (Cls.mk (Below.refl _ _).drew) ?_
        repeat (go_big_quiet_step (first | rfl | with_reducible exact HTC.out _))
        refine wpQuiet_nil ?_
        intro w3 hcl
        have HB3 := hide (HB2.out.trans (hcl.out.mono HB2.out.size))
        clear hcl hx1 cc1 HTC kn
        go_wp2_with fail
        go_ret
        exact ⟨rfl, HB3.out⟩
      · have HALL := hide hall
        clear hall
        refine region_class (C := Cls (Below W.heap.size W)) (by kernel_rfl) (by kernel_rfl) (by kernel_rfl) (Cls.mk (Below.refl _ _).drew) ?_
        repeat (go_big_quiet_step (first | rfl | with_reducible exact HTC.out _))
        refine wpQuiet_nil ?_
        intro w3 hcl
        have HB3 := hide (HB2.out.trans (hcl.out.mono HB2.out.size))
        clear hcl hx1 cc1 HTC kn
        go_wp2_with fail
        go_roundw
        case rel => exact ⟨k + 1, by omega, by simp, HALL.out, HB3.out⟩
        case measure => simp [intOf]; omega
    · obtain rfl : k = n := by omega
      have hki : ((k : Int) < (k : Int)) = False := eq_false (by omega)
      have hR2 : Hid (R = if l2.any negS then 2 else 0) := hide (by
        have h := IN.out
        rw [List.take_of_length_le (by rw [← N1.out]; omega)] at h
        rw [HR.out]
        unfold checkE
        rw [firstE_zero h, if_neg (by simp)])
      clear hlt hin IN HR
      go_wp2_with fail
      go_loopw [36] (fun i wr => ∃ k : Nat, k ≤ m ∧ i = .int .i64 k ∧ wr = wo ∧ Hid ((l2.take k).any negS = false)) (fun i _ => m - (intOf i).toNat)
      case atStart => exact ⟨0, Nat.zero_le _, rfl, rfl, hide (by simp)⟩
      case round =>
        obtain ⟨j, hj, rfl, rfl, hng⟩ := hrel
        by_cases hlt : j < m
        · have hji : (j : Int) < (m : Int) := by omega
          have hj0 : (0 : Int) ≤ (j : Int) := by omega
          obtain ⟨s, hs⟩ : ∃ s, l2[j]? = some s := ⟨_, List.getElem?_eq_getElem (by rw [← N2.out]; exact hlt)⟩
          have hcell := (C2.out.below HB0.out C2.out.1).2 j s hs
          have HN := hide (rNegative_at s wr)
          rw [show (s.data.toList.head? == some 45) = negS s from rfl] at HN
          have hc : (negS s = true ∧ R = 2) ∨ (negS s = false ∧ (l2.take (j + 1)).any negS = false) := by
            cases hv : negS s with
            | true => exact .inl ⟨rfl, by rw [hR2.out, if_pos (List.any_eq_true.2 ⟨s, List.mem_of_getElem? hs, hv⟩)]⟩
            | false => exact .inr ⟨rfl, by rw [List.take_add_one, hs, List.any_append, hng.out]; simp [hv]⟩
          have HCC := hide hc
          generalize negS s = v at HN HCC
          clear hs hlt hc hng
          rcases HCC.out with ⟨rfl, rfl⟩ | ⟨rfl, hnx⟩
          · go_wp2_with fail
            refine HN.out.mono ?_
            rintro e w1 ⟨rfl, rfl⟩
            go_wp2_with fail
            go_ret
            exact ⟨rfl, HB0.out⟩
          · have HNX := hide hnx
            clear hnx
            go_wp2_with fail
            refine HN.out.mono ?_
            rintro e w1 ⟨rfl, rfl⟩
            go_wp2_with fail
            go_roundw
            case rel => exact ⟨j + 1, by omega, by simp, trivial, HNX⟩
            case measure => simp [intOf]; omega
        · obtain rfl : j = m := by omega
          have hji : ((j : Int) < (j : Int)) = False := eq_false (by omega)
          have hf : R = 0 := by
            have h := hng.out
            rw [List.take_of_length_le (by rw [← N2.out]; omega)] at h
            rw [hR2.out, h]
            rfl
          subst hf
          clear hlt hng
          go_wp2_with fail
          go_ret
          exact ⟨rfl, HB0.out⟩
end Go.Proofs.YtgddookioipjiaaGreatDoor
namespace Go.Proofs.YtgddookioipjiaaGreatDoor
open Go.RowKit Go.KP Go.KI Go.Shelf
attribute [local go_sem] Oper.semAt_some

set_option maxRecDepth 100000 in
theorem r2Parts_T {q : Rat} (fq : fitsQ q) (B : Nat) (w : World) (hB : B ≤ w.heap.size) (hT : PQ B w) :
    Calls Tryz.prog 48 #[.string (T q)] w (Ret w (.tuple #[.string (iB q.num), .string (iB (q.den : Int)), .int .i64 0])) := by
  have HT := hide hT
  have H1 := hide (fun w hB hT => r2Check_T fq B w hB hT)
  have H2 := hide (fun w => r2parts_T fq w)
  generalize iB q.num = N at H2 ⊢
  generalize iB (q.den : Int) = D at H2 ⊢
  generalize T q = X at *
  clear fq hT
  go_enter Tryz.func48, Tryz.ntmps48
  go_wp2_with fail
  refine (H1.out _ hB HT.out).mono ?_
  rintro e w1 ⟨rfl, hb1⟩
  have HB1 := hide hb1
  clear hb1
  go_wp2_with fail
  refine (H2.out _).mono ?_
  rintro e w2 ⟨rfl, hb2⟩
  have HB2 := hide (HB1.out.trans (hb2.mono HB1.out.size))
  clear hb2
  go_wp2_with fail
  refine bodyPost_ret (results_tmp3 rfl _ _ _) rfl ?_
  exact ⟨rfl, HB2.out⟩
set_option maxRecDepth 100000 in
set_option maxHeartbeats 8000000 in
theorem r2Div_T {x y : Rat} (fx : fitsQ x) (fy : fitsQ y) (hy : 0 < y.num) (hc : cmpC x y) (B : Nat) (w : World) (hB : B ≤ w.heap.size) (hT : PQ B w) :
    Calls Tryz.prog 105 #[.string (T x), .string (T y)] w (Ret w (.tuple #[.string (T (x / y)), .int .i64 0])) := by
  have HT := hide hT
  have H1 := hide (fun w hB hT => r2check_T fx fy B w hB hT)
  have hdiv := divInt_div x y
  have hz : ((T y).toList == [48]) = false := by rw [T_num0, decide_eq_false (by omega)]
  by_cases hs : shortQ x ∧ shortQ y
  · have HI1 := hide (fun w => ints_short fx hs.1 w)
    have HI2 := hide (fun w => ints_short fy hs.2 w)
    obtain ⟨a1, a2⟩ := shortQ_lt hs.1
    obtain ⟨b1, b2⟩ := shortQ_lt hs.2
    have ap := x.den_pos
    have bp := y.den_pos
    have m1 := prod9 (a := x.num) (b := (y.den : Int)) a1 (by omega)
    have m3 := prod9 (a := (x.den : Int)) (b := y.num) (by omega) b1
    have e0 : y.num = ((y.num.toNat : Nat) : Int) := by omega
    have m4 : 0 < x.den * y.num.toNat := Nat.mul_pos ap (by omega)
    have m5 : ((x.den * y.num.toNat : Nat) : Int) = (x.den : Int) * y.num := by rw [Int.natCast_mul, ← e0]
    have HQ := hide (fun w => r2quick_any (x.num * (y.den : Int)) (x.den * y.num.toNat) (by omega) (by omega) m4 w)
    rw [m5, Int.mul_comm (x.den : Int) y.num, hdiv] at HQ
    rw [Int.mul_comm y.num (x.den : Int)] at HQ
    obtain ⟨R, hR⟩ : ∃ s, s = T (x / y) := ⟨_, rfl⟩
    have hR2 : strB (ratS (x / y)) = R := hR.symm
    rw [hR2] at HQ
    rw [← hR]
    generalize T x = S at *
    generalize T y = U at *
    obtain ⟨n, hn⟩ : ∃ n, n = x.num := ⟨_, rfl⟩
    obtain ⟨d, hd⟩ : ∃ n, n = (x.den : Int) := ⟨_, rfl⟩
    obtain ⟨m, hm⟩ : ∃ n, n = y.num := ⟨_, rfl⟩
    obtain ⟨c, hcc⟩ : ∃ n, n = (y.den : Int) := ⟨_, rfl⟩
    simp only [← hn, ← hd, ← hm, ← hcc] at HI1 HI2 HQ
    have v1 : IntKind.i64.wrap (n * c) = n * c := IntWalk.i64_in _ (by rw [hn, hcc]; omega)
    have v2 : IntKind.i64.wrap (d * m) = d * m := IntWalk.i64_in _ (by rw [hd, hm]; omega)
    have l1 : -9223372036854775808 ≤ n * c := by rw [hn, hcc]; omega
    have l2 : n * c ≤ 9223372036854775807 := by rw [hn, hcc]; omega
    have l3 : -9223372036854775808 ≤ d * m := by rw [hd, hm]; omega
    have l4 : d * m ≤ 9223372036854775807 := by rw [hd, hm]; omega
    have hm0 : (m < 0) = False := eq_false (by omega)
    clear hR hR2 hn hd hm hcc a1 a2 b1 b2 ap bp m1 m3 e0 m4 m5 hdiv hy hc hs fx fy hT
    go_enter Tryz.func105, Tryz.ntmps105
    go_wp2_with fail
    refine (H1.out _ hB HT.out).mono ?_
    rintro e w1 ⟨rfl, hb1⟩
    have HB1 := hide hb1
    clear hb1
    go_wp2_with fail
    refine (HI1.out _).mono ?_
    rintro e w2 ⟨rfl, hb2⟩
    have HB2 := hide (HB1.out.trans (hb2.mono HB1.out.size))
    clear hb2
    go_wp2_with fail
    refine (HI2.out _).mono ?_
    rintro e w3 ⟨rfl, hb3⟩
    have HB3 := hide (HB2.out.trans (hb3.mono HB2.out.size))
    clear hb3
    go_wp2_with fail
    refine (HQ.out _).mono ?_
    rintro e w4 ⟨rfl, hb4⟩
    have HB4 := hide (HB3.out.trans (hb4.mono HB3.out.size))
    clear hb4
    go_wp2_with fail
    refine bodyPost_ret (results_tmp2 rfl _ _ _) rfl ?_
    exact ⟨rfl, HB4.out⟩
  · obtain ⟨i1, i2, b1, b2, i3, i4, HI1, HI2, hb⟩ := ints_long fx fy hs
    have HP1 := hide (fun w => r2parts_T fx w)
    have HP2 := hide (fun w => r2parts_T fy w)
    have hdc : (x.den : Int) * y.num ≠ 0 := by
      have := Int.mul_pos (show 0 < (x.den : Int) by have := x.den_pos; omega) hy
      omega
    have HM := hide (fun w hB hT => r2mul_I fx.1 fx.2 fy.2 fy.1 hdc B w hB hT)
    have hO : mulI x.num (x.den : Int) (y.den : Int) y.num = some (x / y) := by
      unfold mulI
      rw [if_pos ⟨hc.1, by rw [Int.mul_comm]; exact hc.2⟩, Int.mul_comm (x.den : Int) y.num, hdiv]
    rw [hO] at HM
    unfold opV at HM
    dsimp only at HM
    generalize T (x / y) = R at HM ⊢
    generalize iB x.num = NB at *
    generalize iB (x.den : Int) = DB at *
    generalize iB y.num = MB at *
    generalize iB (y.den : Int) = CB at *
    generalize T x = S at *
    generalize T y = U at *
    clear hdc hO hdiv hy hc hs fx fy hT
    rcases hb with rfl | ⟨rfl, rfl⟩
    all_goals
      go_enter Tryz.func105, Tryz.ntmps105
      go_wp2_with fail
      refine (H1.out _ hB HT.out).mono ?_
      rintro e w1 ⟨rfl, hb1⟩
      have HB1 := hide hb1
      clear hb1
      go_wp2_with fail
      refine (HI1.out _).mono ?_
      rintro e w2 ⟨rfl, hb2⟩
      have HB2 := hide (HB1.out.trans (hb2.mono HB1.out.size))
      clear hb2
      go_wp2_with fail
      refine (HI2.out _).mono ?_
      rintro e w3 ⟨rfl, hb3⟩
      have HB3 := hide (HB2.out.trans (hb3.mono HB2.out.size))
      clear hb3
      go_wp2_with fail
      refine (HP1.out _).mono ?_
      rintro e w4 ⟨rfl, hb4⟩
      have HB4 := hide (HB3.out.trans (hb4.mono HB3.out.size))
      clear hb4
      go_wp2_with fail
      refine (HP2.out _).mono ?_
      rintro e w5 ⟨rfl, hb5⟩
      have HB5 := hide (HB4.out.trans (hb5.mono HB4.out.size))
      clear hb5
      go_wp2_with fail
      refine (HM.out _ (Nat.le_trans hB HB5.out.size) (HT.out.p10.on HB5.out hB)).mono ?_
      rintro e w6 ⟨rfl, hb6⟩
      have HB6 := hide (HB5.out.trans (hb6.mono HB5.out.size))
      clear hb6
      go_wp2_with fail
      refine bodyPost_ret (results_tmp2 rfl _ _ _) rfl ?_
      exact ⟨rfl, HB6.out⟩
set_option maxRecDepth 100000 in
theorem s3quotient_T {x y : Rat} (fx : fitsQ x) (fy : fitsQ y) (hy : 0 < y.num) (hc : cmpC x y) (B : Nat) (w : World) (hB : B ≤ w.heap.size) (hT : PQ B w) :
    Calls Tryz.prog 52 #[.string (T x), .string (T y)] w (Ret w (.string (T (x / y)))) := by
  have HT := hide hT
  have H1 := hide (fun w hB hT => r2Div_T fx fy hy hc B w hB hT)
  generalize T (x / y) = R at *
  generalize T x = S at *
  generalize T y = U at *
  clear fx fy hy hc hT
  go_enter Tryz.func52, Tryz.ntmps52
  go_wp2_with fail
  refine (H1.out _ hB HT.out).mono ?_
  rintro e w1 ⟨rfl, hb1⟩
  have HB1 := hide hb1
  clear hb1
  go_wp2_with fail
  go_ret
  exact ⟨rfl, HB1.out⟩
set_option maxRecDepth 100000 in
theorem s3times_I {x y : Int} (f1 : fits x) (f2 : fits y) (f3 : fits (x * y)) (B : Nat) (w : World) (hB : B ≤ w.heap.size) (hT : P10 B w) :
    Calls Tryz.prog 50 #[.string (iB x), .string (iB y)] w (Ret w (.string (iB (x * y)))) := by
  have HT := hide hT
  have H1 := hide (fun w hB hT => rMul_I f1 f2 B w hB hT)
  rw [resI_yes f3] at H1
  generalize iB (x * y) = R at *
  generalize iB x = S at *
  generalize iB y = U at *
  clear f1 f2 f3 hT
  go_enter Tryz.func50, Tryz.ntmps50
  go_wp2_with fail
  refine (H1.out _ hB HT.out).mono ?_
  rintro e w1 ⟨rfl, hb1⟩
  have HB1 := hide hb1
  clear hb1
  go_wp2_with fail
  go_ret
  exact ⟨rfl, HB1.out⟩
set_option maxRecDepth 100000 in
theorem s3sign_T (q : Rat) (w : World) : Calls Tryz.prog 47 #[.string (T q)] w (fun e w' => e = .returned (.int .i64 (sgnR q)) ∧ w' = w) := by
  have hz := T_num0 q
  obtain ⟨hp, h45⟩ := T_head0 q
  have hp0 : (0 : Int) < ((T q).size : Int) := by omega
  have hk : (q.num = 0 ∧ sgnR q = 0) ∨ (¬ q.num = 0 ∧ q.num < 0 ∧ sgnR q = -1) ∨ (¬ q.num = 0 ∧ ¬ q.num < 0 ∧ sgnR q = 1) := by
    rcases cmpT_cases q 0 with ⟨h, h2⟩ | ⟨h, h2⟩ | ⟨h, h2⟩
    · exact .inr (.inl ⟨by have := num_lt h; omega, num_lt h, h2⟩)
    · exact .inl ⟨by rw [h]; rfl, h2⟩
    · exact .inr (.inr ⟨by have := num_gt h; omega, by have := num_gt h; omega, h2⟩)
  obtain ⟨S, hS⟩ : ∃ S, S = sgnR q := ⟨_, rfl⟩
  rw [← hS] at hk ⊢
  generalize T q = X at *
  rcases hk with ⟨h1, rfl⟩ | ⟨h1, h2, rfl⟩ | ⟨h1, h2, rfl⟩
  · rw [decide_eq_true h1] at hz
    clear h1 hS h45
    go_enter Tryz.func47, Tryz.ntmps47
    go_wp2_with fail
    go_ret
    exact ⟨rfl, rfl⟩
  · rw [decide_eq_false h1] at hz
    rw [decide_eq_true h2] at h45
    clear h1 h2 hS
    go_enter Tryz.func47, Tryz.ntmps47
    go_wp2_with fail
    go_ret
    exact ⟨rfl, rfl⟩
  · rw [decide_eq_false h1] at hz
    rw [decide_eq_false h2] at h45
    clear h1 h2 hS
    go_enter Tryz.func47, Tryz.ntmps47
    go_wp2_with fail
    go_ret
    exact ⟨rfl, rfl⟩
theorem iB_size_abs (z : Int) : (iB z).size = if z < 0 then (Lib.decDigits z.natAbs).length + 1 else (Lib.decDigits z.natAbs).length := by
  rw [← bytes_len, iB_list]
  rcases itoa_cases z with ⟨h1, h⟩ | ⟨h1, h⟩ <;> rw [h]
  · rw [if_pos h1, List.length_cons]
  · rw [if_neg (by omega)]
set_option maxRecDepth 100000 in
theorem s3size_I {z : Int} (f : fits z) (w : World) : Calls Tryz.prog 91 #[.string (iB z)] w (fun e w' => e = .returned (.int .i64 ((Lib.decDigits z.natAbs).length : Nat)) ∧ w' = w) := by
  obtain ⟨hp, h45⟩ := iB_head z
  have hs := iB_size_abs z
  have hsz := iB_size f
  have hp0 : (0 : Int) < ((iB z).size : Int) := by omega
  have he : ((iB z).toList == []) = false := by
    rw [ByteArray.toList_eq]
    exact beq_false_of_ne fun e => by
      have : (iB z).data.toList.length = 0 := by rw [e]; rfl
      rw [bytes_len] at this
      omega
  have he2 : ((iB z).toList != []) = true := by simp only [bne, he]; rfl
  have he3 : (iB z).toList.isEmpty = false := by
    cases h : (iB z).toList with
    | nil => rw [h] at he; cases he
    | cons a b => rfl
  obtain ⟨L, hL⟩ : ∃ L, L = (Lib.decDigits z.natAbs).length := ⟨_, rfl⟩
  rw [← hL] at hs ⊢
  by_cases hz : z < 0
  · rw [if_pos hz] at hs
    rw [decide_eq_true hz] at h45
    generalize iB z = X at *
    have hl : (X.size : Int) - 1 = (L : Int) := by omega
    clear hL hz hs f
    go_enter Tryz.func91, Tryz.ntmps91
    go_wp2_with fail
    go_ret
    exact ⟨by rw [← hl]; rfl, rfl⟩
  · rw [if_neg hz] at hs
    rw [decide_eq_false hz] at h45
    generalize iB z = X at *
    subst hs
    clear hL hz f
    go_enter Tryz.func91, Tryz.ntmps91
    go_wp2_with fail
    go_ret
    exact ⟨rfl, rfl⟩
set_option maxRecDepth 100000 in
set_option maxHeartbeats 16000000 in
theorem s3check_any (b1 : Nat) (l1 : List ByteArray) (n1 : l1.length ≤ 1000) (h1 : ∀ s ∈ l1, s.size ≤ 9223372036854775807) (B : Nat) (w : World) (c1 : StrsAt w b1 l1) (hB : B ≤ w.heap.size) (hT : PQ B w) :
    Calls Tryz.prog 38 #[.slice (some ⟨b1, 0, none⟩) l1.length l1.length] w (Ret w (.int .i64 (firstE l1))) := by
  have HT := hide hT
  obtain ⟨n, hn⟩ : ∃ n, n = l1.length := ⟨_, rfl⟩
  rw [← hn] at n1 ⊢
  have C1 := hide c1
  have N1 := hide hn
  have R1 := hide h1
  obtain ⟨R, hR⟩ : ∃ R, R = firstE l1 := ⟨_, rfl⟩
  rw [← hR]
  have HR := hide hR
  clear c1 hn h1 hT hR
  go_enter Tryz.func38, Tryz.ntmps38
  go_wp2_with fail
  go_loopw [3] (fun i wr => ∃ k : Nat, k ≤ n ∧ i = .int .i64 k ∧ Hid ((∀ x ∈ l1.take k, chk90 x.data.toList = 0) ∧ Below w.heap.size w wr)) (fun i _ => n - (intOf i).toNat)
  case atStart => exact ⟨0, Nat.zero_le _, rfl, by simp, Below.refl _ _⟩
  case round =>
    obtain ⟨k, hk, rfl, hin⟩ := hrel
    obtain ⟨wo, hwo⟩ : ∃ wo, wo = wr := ⟨_, rfl⟩
    subst hwo
    have IN := hide hin.out.1
    have HB0 := hide hin.out.2
    by_cases hlt : k < n
    · have hki : (k : Int) < (n : Int) := by omega
      have hk0 : (0 : Int) ≤ (k : Int) := by omega
      obtain ⟨s, hs⟩ : ∃ s, l1[k]? = some s := ⟨_, List.getElem?_eq_getElem (by rw [← N1.out]; exact hlt)⟩
      have hss := R1.out s (List.mem_of_getElem? hs)
      have hcell := (C1.out.below HB0.out C1.out.1).2 k s hs
      have HSK := hide hs
      have HC := hide (r2Check_big s hss B wo (Nat.le_trans hB HB0.out.size) (HT.out.on HB0.out hB))
      by_cases hq : chkQ s.data.toList = 0
      rotate_left
      · have e : R = chkQ s.data.toList := by
          have h9 := chk90_none hq
          have := firstE_take hs IN.out (by rw [h9]; exact hq)
          rw [h9] at this
          rw [HR.out]
          exact this
        have hqb : (chkQ s.data.toList == 0) = false := by simpa using hq
        rw [← e] at HC hqb
        clear hs hss hq e hlt hin
        go_wp2_with fail
        refine HC.out.mono ?_
        rintro e w1 ⟨rfl, hb1⟩
        have HB1 := hide (HB0.out.trans (hb1.mono HB0.out.size))
        clear hb1 hcell
        go_wp2_with fail
        go_ret
        exact ⟨rfl, HB1.out⟩
      rw [hq] at HC
      obtain ⟨eT, fq, _, _⟩ := chkQ_ok hq
      obtain ⟨q, hqq⟩ : ∃ q, q = valQ s.data.toList := ⟨_, rfl⟩
      rw [← hqq] at eT fq
      have eS : s = T q := T_of eT
      have HP := hide (fun w hB hT => r2Parts_T fq B w hB hT)
      have HS1 := hide (fun w => s3size_I fq.1 w)
      have HS2 := hide (fun w => s3size_I fq.2 w)
      rw [Int.natAbs_natCast] at HS2
      rw [← eS] at HP
      have h9 : chk90 s.data.toList = if 90 < max (Lib.decDigits q.num.natAbs).length (Lib.decDigits q.den).length then 4 else 0 := by
        unfold chk90
        rw [if_neg (by simp [hq]), ← hqq]
      generalize (Lib.decDigits q.num.natAbs).length = a at HS1 h9
      generalize (Lib.decDigits q.den).length = d at HS2 h9
      have hbig : (90 < a ∧ R = 4) ∨ (a ≤ 90 ∧ 90 < d ∧ R = 4) ∨ (a ≤ 90 ∧ d ≤ 90 ∧ (∀ x ∈ l1.take (k + 1), chk90 x.data.toList = 0)) := by
        by_cases hb : 90 < max a d
        · rw [if_pos hb] at h9
          have := firstE_take hs IN.out (by rw [h9]; decide)
          rw [h9, ← HR.out] at this
          by_cases ha : 90 < a
          · exact .inl ⟨ha, this⟩
          · exact .inr (.inl ⟨by omega, by omega, this⟩)
        · rw [if_neg hb] at h9
          refine .inr (.inr ⟨by omega, by omega, fun x hx => ?_⟩)
          rw [List.take_add_one, hs] at hx
          rcases List.mem_append.1 hx with h | h
          · exact IN.out x h
          · simp at h; rw [h]; exact h9
      have HBIG := hide hbig
      generalize iB q.num = N at *
      generalize iB (q.den : Int) = D at *
      clear hs hss hq eT fq hqq eS h9 hbig hlt hin
      go_wp2_with fail
      refine HC.out.mono ?_
      rintro e w1 ⟨rfl, hb1⟩
      have HB1 := hide (HB0.out.trans (hb1.mono HB0.out.size))
      clear hb1 hcell HC
      have hcell := (C1.out.below HB1.out C1.out.1).2 k s HSK.out
      go_wp2_with fail
      refine (HP.out _ (Nat.le_trans hB HB1.out.size) (HT.out.on HB1.out hB)).mono ?_
      rintro e w2 ⟨rfl, hb2⟩
      have HB2 := hide (HB1.out.trans (hb2.mono HB1.out.size))
      clear hb2 hcell
      go_wp2_with fail
      refine (HS1.out _).mono ?_
      rintro e w3 ⟨rfl, rfl⟩
      rcases HBIG.out with ⟨ha, rfl⟩ | ⟨ha, hd, rfl⟩ | ⟨ha, hd, hall⟩
      · have g1 : (90 : Int) < (a : Int) := by omega
        clear ha
        go_wp2_with fail
        go_ret
        exact ⟨rfl, HB2.out⟩
      · have g1 : ((90 : Int) < (a : Int)) = False := eq_false (by omega)
        have g2 : (90 : Int) < (d : Int) := by omega
        clear ha hd
        go_wp2_with fail
        refine (HS2.out _).mono ?_
        rintro e w3 ⟨rfl, rfl⟩
        go_wp2_with fail
        go_ret
        exact ⟨rfl, HB2.out⟩
      · have g1 : ((90 : Int) < (a : Int)) = False := eq_false (by omega)
        have g2 : ((90 : Int) < (d : Int)) = False := eq_false (by omega)
        have HALL := hide hall
        clear ha hd hall
        go_wp2_with fail
        refine (HS2.out _).mono ?_
        rintro e w3 ⟨rfl, rfl⟩
        go_wp2_with fail
        go_roundw
        case rel => exact ⟨k + 1, by omega, by simp, HALL.out, HB2.out⟩
        case measure => simp [intOf]; omega
    · obtain rfl : k = n := by omega
      have hki : ((k : Int) < (k : Int)) = False := eq_false (by omega)
      have hR2 : R = 0 := by
        have h := IN.out
        rw [List.take_of_length_le (by rw [← N1.out]; omega)] at h
        rw [HR.out]
        exact firstE_zero h
      subst hR2
      clear hlt hin IN HR
      go_wp2_with fail
      go_ret
      exact ⟨rfl, HB0.out⟩
end Go.Proofs.YtgddookioipjiaaGreatDoor
namespace Go.Proofs.YtgddookioipjiaaGreatDoor
open Go.RowKit Go.KP Go.KI Go.Shelf
attribute [local go_sem] Oper.semAt_some

/-- What the reference's read returns: its sign is the text's. -/
def RNumS (m : Bool) (z : Int) (n : Nat) (w : World) (e : Ending) (w2 : World) : Prop := ∃ (v : Value) (l : List Nat), e = .returned (numV m v) ∧ Below w.heap.size w w2 ∧ OwnL w.heap.size w2 v l ∧ Norm 1000000 l ∧ valS m (lv 1000000 l) = z ∧ l.length ≤ n
set_option maxRecDepth 100000 in
set_option maxHeartbeats 8000000 in
theorem rread_full (s : ByteArray) (c1 : chkI s.data.toList = 0) (w : World) :
    Calls Tryz.prog 139 #[.string s] w (RNumS (decide (s.data.toList.head? = some 45)) (valI s.data.toList) 60 w) := by
  obtain ⟨i0, hi0, hz0, hz1, hz2⟩ := info_parts info3
  obtain ⟨mi, hmi⟩ : ∃ mi, mi = decide (s.data.toList.head? = some 45) := ⟨_, rfl⟩
  rw [← hmi]
  have HV := hide (valI_S s.data.toList)
  rw [← hmi] at HV
  have hpos := chk_pos c1
  have hlen := (chk_digs c1).2
  rw [bytes_len] at hpos hlen
  have hne : s.data.toList ≠ [] := fun e => by have := bytes_len s; rw [e] at this; simp at this; omega
  obtain ⟨hp, hh⟩ := bytes_head hne
  have hp0 : (0 : Int) < (s.size : Int) := by omega
  have h45 : ((s[0].toNat : Int) == 45) = mi := by
    rw [hmi, hh]
    by_cases h : s[0] = 45
    · rw [h]; rfl
    · have : s[0].toNat ≠ 45 := fun e => h (UInt8.toNat_inj.1 e)
      have h2 : ((s[0].toNat : Int) == 45) = false := by
        simp only [beq_eq_false_iff_ne, ne_eq]
        omega
      rw [h2]
      simp [h]
  have HDG := hide (chk_digs c1).1
  obtain ⟨ds, hds⟩ : ∃ ds, ds = digs s.data.toList := ⟨_, rfl⟩
  have hd := digs_drop s.data.toList
  rw [← hds] at HDG HV hd
  have hdl : ds.length ≤ 300 := by
    have h1 := fits_len.1 (chk_ok c1).2
    have h2 := digs_itoa (valI s.data.toList)
    rw [← (chk_ok c1).1, ← hds] at h2
    rw [h2]
    exact h1
  obtain ⟨t, ht⟩ : ∃ t : ByteArray, t.data.toList = ds := ⟨strB ds, strB_list _⟩
  have htl : t.size = ds.length := by rw [← bytes_len, ht]
  have htT : mi = true → s.extract 1 s.size = t := fun h => by
    rw [h] at hmi
    apply bytes_eq
    rw [ht, hd, if_pos (of_decide_eq_true hmi.symm)]
    simp
    exact List.take_of_length_le (by rw [List.length_tail, bytes_len]; exact Nat.le_refl _)
  have htF : mi = false → s = t := fun h => by
    rw [h] at hmi
    apply bytes_eq
    rw [ht, hd, if_neg (of_decide_eq_false hmi.symm)]
    rfl
  have HTT := hide htT; have HTF := hide htF; have HT := hide ht
  obtain ⟨D, hD⟩ : ∃ D, D = t.size := ⟨_, rfl⟩
  have hDl : D ≤ 300 := by omega
  have HD := hide hD; have HDD := hide (show ds.length = D by omega)
  clear hmi hne hh c1 hd hds hlen hdl ht htl htT htF hpos hD
  go_enter Tryz.func139, Tryz.ntmps139
  cases mi
  · have HST := hide (HTF.out rfl)
    clear HTT HTF
    go_wp2_with fail
    have hst := HST.out
    subst hst
    have HSZ := hide (show s.size = D from HD.out.symm)
    obtain ⟨p0, p1, ps, pb⟩ := heap2 w (.cells #[.bool false, .slice none 0 0] 151) (.cells #[.bool false, .slice none 0 0] 151)
    obtain ⟨w0, hw0⟩ : ∃ w0, (w.alloc (.cells #[.bool false, .slice none 0 0] 151)).alloc (.cells #[.bool false, .slice none 0 0] 151) = w0 := ⟨_, rfl⟩
    rw [hw0] at p0 p1 ps pb ⊢
    have P0 := hide p0; have P1 := hide p1; have PB := hide pb; have PS := hide ps
    clear p0 p1 ps pb hw0 h45
    go_loopw [4] (fun e wr => ∃ k : Nat, e = .int .i64 ((D : Int) - 6 * (k : Int)) ∧ 6 * k ≤ D + 5 ∧ Hid (∃ (v : Value) (L : List Nat), wr.heap[w.heap.size]? = some (.cells #[.bool false, .slice none 0 0] 151 (0, 0)) ∧ wr.heap[w.heap.size + 1]? = some (.cells #[.bool false, v] 151 (0, 0)) ∧ Below w.heap.size w wr ∧ OwnL (w.heap.size + 2) wr v L ∧ L.length = k ∧ Lt 1000000 L ∧ lv 1000000 L = dv (ds.drop (D - 6 * k)))) (fun e _ => (intOf e).toNat)
    case atStart => exact ⟨0, by have := HSZ.out; first | rfl | (congr 1 <;> omega), by omega, .slice none 0 0, [], P0.out, P1.out, PB.out, OwnL.nil _ _, rfl, fun z hz => by simp at hz, by
      rw [List.drop_of_length_le (by have := HDD.out; omega)]; rfl⟩
    case round =>
      obtain ⟨k, rfl, hk6, hin⟩ := hrel
      obtain ⟨v, L, r0, r1, rb, ro, rl, rt, rv⟩ := hin.out
      obtain ⟨va, vc, hvf, hcap, _⟩ := ro.form
      rw [rl] at hvf hcap
      subst hvf
      have hwr : w.heap.size + 2 ≤ wr.heap.size := by
        have h1 := lt_blk r1
        omega
      by_cases hlt : 6 * k < D
      · obtain ⟨E, hE⟩ : ∃ E, E = D - 6 * k := ⟨_, rfl⟩
        have hEi : (D : Int) - 6 * (k : Int) = (E : Int) := by omega
        obtain ⟨lo, hlo⟩ : ∃ lo, lo = E - 6 := ⟨_, rfl⟩
        have hmax : max (0 : Int) ((E : Int) - 6) = (lo : Int) := by omega
        have hE0 : (0 : Int) < (E : Int) := by omega
        have hEl : (E : Int) ≤ 300 := by omega
        rw [hEi]
        have R0 := hide r0; have R1 := hide r1; have RB := hide rb; have RO := hide ro; have RL := hide rl; have RT := hide rt; have RV := hide rv
        have HE := hide hE; have HLO := hide hlo
        have hloE : lo ≤ E := by omega
        have hED : E ≤ D := by omega
        clear r0 r1 rb ro rl rt rv hin hE hlo hEi
        go_wp2_with fail
        clear hmax
        obtain ⟨wo, hwo⟩ : ∃ wo, wo = wr := ⟨_, rfl⟩
        subst hwo
        go_loopw [5, 6] (fun nn i wr2 => ∃ j A : Nat, lo ≤ j ∧ j ≤ E ∧ i = .int .i64 j ∧ nn = .int .i64 A ∧ Hid (A = dv ((ds.drop lo).take (j - lo))) ∧ wr2 = wo) (fun _ i _ => E - (intOf i).toNat)
        case atStart => exact ⟨lo, 0, Nat.le_refl _, hloE, rfl, rfl, by rw [Nat.sub_self]; rfl, rfl⟩
        case round =>
          obtain ⟨j, A, hj1, hj2, rfl, rfl, hA, hww⟩ := hrel
          obtain rfl := hww.symm
          have hAb := dv_take_lt HDG.out lo (j - lo)
          rw [← hA.out] at hAb
          by_cases hlt2 : j < E
          · have hji : (j : Int) < (E : Int) := by omega
            have hj0 : (0 : Int) ≤ (j : Int) := by omega
            have hjt : j < s.size := by have := HD.out; omega
            have hjti : (j : Int) < (s.size : Int) := by omega
            obtain ⟨y, hyv⟩ : ∃ y : Nat, y = (s[j]'hjt).toNat := ⟨_, rfl⟩
            have hyv2 : (s[j]'hjt).toNat = y := hyv.symm
            have hat : ds[j]? = some (s[j]'hjt) := by
              rw [← HT.out]
              have h1 : s.data.toList[j]? = some s.data[j] := by simp
              exact h1
            have hdg := isDg_iff.1 (HDG.out _ (List.mem_of_getElem? hat))
            rw [hyv2] at hdg
            have hnew := dv_take_succ ds hj1 hat
            rw [hyv2, ← hA.out] at hnew
            have hp5 : (10 : Nat) ^ (j - lo) ≤ 10 ^ 5 := Nat.pow_le_pow_right (by omega) (by have := HLO.out; omega)
            have hA5 : A < 100000 := Nat.lt_of_lt_of_le hAb hp5
            have HN := hide hnew.symm
            have y0 : (48 : Int) ≤ (y : Int) := by omega
            have y1 : (y : Int) ≤ 57 := by omega
            have a1 : (A : Int) < 100000 := by omega
            have HC := hide (show 10 * (A : Int) + ((y : Int) - 48) = ((A * 10 + (y - 48) : Nat) : Int) by omega)
            clear hat hyv hdg hnew hA hAb hp5 hA5
            go_wp2_with fail
            go_roundw
            case rel => exact ⟨j + 1, A * 10 + (y - 48), by omega, by omega, by go_num, by rw [← HC.out], HN, trivial⟩
            case measure => simp [intOf]; omega
          · obtain rfl : j = E := by omega
            have hji : ((j : Int) < (j : Int)) = False := eq_false (by omega)
            have hp6 : (10 : Nat) ^ (j - lo) ≤ 10 ^ 6 := Nat.pow_le_pow_right (by omega) (by have := HLO.out; omega)
            have hAl : A < 1000000 := Nat.lt_of_lt_of_le hAb hp6
            have HAL := hide hAl
            have HAE := hide hA.out
            have q1 := cell_blk R1.out 1
            have qf := froz_blk R1.out 1
            have HOW := hide (show (wo.alloc (.cells #[.int .i64 A] 3)).ownsRow (w.heap.size + 2) 3 1 (.slice va k vc) k (icells L) by
              have h := RO.out
              unfold OwnL at h
              rw [RL.out] at h
              exact h.alloc _)
            have HNW := hide (show ∀ j u, ([.int .i64 A] : List Value)[j]? = some u → (wo.alloc (.cells #[.int .i64 A] 3)).cell? ((⟨wo.heap.size, 0, none⟩ : Addr).add j) = some u from World.news_of_block (cs := #[.int .i64 A]) (t := 3) (fr := (0, 0)) (heap_alloc_new wo _))
            clear hA hAb hp6 hAl hlt2
            go_wp2_with (at_builtin; go_must (refine wpList_append_own _ rfl (.tmp 37) (.tmp 39) 40 rfl (w.heap.size + 2) 3 i0 _ 1 8 Tryz.underlying40 hi0 hz0 hz1 hz2 rfl (by decide) (.slice va k vc) _ _ rfl HOW.out ⟨wo.heap.size, 0, none⟩ 1 1 [.int .i64 A] rfl rfl HNW.out (by simp [Value.oneCell']) (by simp only [maxLen]; omega) (by omega) (by simp; omega) ?_); intro v1 w5 hown hg1 hiff; clear hiff; obtain ⟨va1, vc1, hvf⟩ := owns_form hown; subst hvf; have HOW5 := hide hown; have HB5 := hide (show Below (w.heap.size + 2) wo w5 from ((Below.refl (w.heap.size + 2) wo).alloc hwr _).grown hg1 (by simp; omega) (owns_ge RO.out (Nat.le_refl _))); clear hown hg1 q1 qf; have R1' := hide (below_blk HB5.out R1.out (by omega)); have R0' := hide (below_blk HB5.out R0.out (by omega)); have qf := froz_blk R1'.out 1; have qc5 := cell_blk R1'.out 1; have ql := lt_blk R1'.out)
            go_roundw
            case rel =>
              refine ⟨k + 1, by have := HE.out; have := HLO.out; congr 1; omega, by have := HE.out; omega, .slice va1 (k + 1) vc1, L ++ [A], (setCell_other (by omega)).trans R0'.out, ?_, (RB.out.trans (HB5.out.mono (by omega))).setCell (p := ⟨w.heap.size + 1, 1, none⟩) (by simp) _, ?_, by rw [List.length_append, RL.out]; rfl, ?_, ?_⟩
              · have h := R1'.out
                simp only [World.setCell, Array.getElem?_modify, h]
                rfl
              · refine OwnL.other ?_ (p := ⟨w.heap.size + 1, 1, none⟩) (by simp) _
                show World.ownsRow _ _ _ _ _ (L ++ [A]).length (icells (L ++ [A]))
                rw [List.length_append, RL.out, icells_append]
                exact HOW5.out
              · intro z hz
                rcases List.mem_append.1 hz with h | h
                · exact RT.out z h
                · simp only [List.mem_singleton] at h
                  rw [h]
                  exact HAL.out
              · rw [lv_snoc, RL.out, RV.out]
                have h1 := dv_cut ds (lo := lo) (e := j) hj1 (by rw [HDD.out]; exact hED)
                have e1 : D - 6 * (k + 1) = lo := by have := HE.out; have := HLO.out; omega
                have e2 : D - 6 * k = j := HE.out.symm
                have e3 : (1000000 : Nat) ^ k = 10 ^ (ds.length - j) := by
                  rw [show (1000000 : Nat) = 10 ^ 6 by decide, ← Nat.pow_mul]
                  congr 1
                  have := HE.out
                  have := HDD.out
                  omega
                rw [e1, e2, h1, ← HAE.out, e3, Nat.mul_comm A, Nat.add_comm]
            case measure => simp [intOf]; omega
      · have hEi : ((0 : Int) < (D : Int) - 6 * (k : Int)) = False := eq_false (by omega)
        have HT2 := hide (fun W (h : OwnL (w.heap.size + 2) W (.slice va k vc) L) => rtrim_any va vc L W.heap.size W (by rw [rl]; exact h.at_) (by omega) (by omega))
        rw [rl] at HT2
        have HT3 := hide (HT2.out wr ro)
        have q1 := cell_blk r1 1
        have q0 := cell_blk r1 0
        have qf := froz_blk r1 1
        have ql := lt_blk r1
        have z0 := cell_blk r0 0
        have z1 := cell_blk r0 1
        have zf := froz_blk r0 0
        have zg := froz_blk r0 1
        have zl := lt_blk r0
        have R0 := hide r0; have R1 := hide r1; have RB := hide rb; have RO := hide ro; have RL := hide rl; have RT := hide rt; have RV := hide rv
        have hk60 : k ≤ 60 := by omega
        clear r0 r1 rb ro rl rt rv hin HT2
        go_wp2_with fail
        refine HT3.out.mono ?_
        rintro e w1 ⟨rfl, rfl⟩
        go_wp2_with fail
        obtain ⟨Wa, hWa⟩ : ∃ Wa, Wa = wr.setCell ⟨w.heap.size + 1, 1, none⟩ (.slice va (trimTo L k) vc) := ⟨_, rfl⟩
        rw [← hWa]
        have A0 : Wa.heap[w.heap.size]? = some (.cells #[.bool false, .slice none 0 0] 151 (0, 0)) := by rw [hWa]; exact (setCell_other (by omega)).trans R0.out
        have AB : Below w.heap.size w Wa := by rw [hWa]; exact RB.out.setCell (p := ⟨w.heap.size + 1, 1, none⟩) (by simp) _
        have AO : OwnL (w.heap.size + 2) Wa (.slice va k vc) L := by rw [hWa]; exact RO.out.other (p := ⟨w.heap.size + 1, 1, none⟩) (by simp) _
        obtain ⟨s1, s2⟩ := set2 A0 (.bool false) (.slice va (trimTo L k) vc)
        refine exit_rread s1 rfl rfl ?_
        refine ⟨_, trimL L, rfl, AB.trans s2, ?_, trimL_norm RT.out, ?_, ?_⟩
        · have h1 := (((AO.other (p := ⟨w.heap.size, 0, none⟩) (by simp) (.bool false)).other (p := ⟨w.heap.size, 1, none⟩) (by simp) (.slice va (trimTo L k) vc)).cut (k := trimTo L k) (by have := trimTo_le L k; rw [RL.out]; exact this)).mono (show w.heap.size ≤ w.heap.size + 2 by omega)
          unfold trimL
          rw [RL.out]
          exact h1
        · rw [trimL_lv, RV.out, show D - 6 * k = 0 by omega, List.drop_zero, HV.out]
        · rw [trimL_len]
          have := trimTo_le L L.length
          have := RL.out
          omega
  · have HST := hide (HTT.out rfl)
    clear HTT HTF
    go_wp2_with fail
    have hst := HST.out
    have hsz : s.size - 1 = D := by
      rw [HD.out, ← hst]
      simp
    rw [hst, hsz]
    clear hst hsz
    have HSZ := hide (show D = D from rfl)
    obtain ⟨p0, p1, ps, pb⟩ := heap2 w (.cells #[.bool false, .slice none 0 0] 151) (.cells #[.bool true, .slice none 0 0] 151)
    obtain ⟨w0, hw0⟩ : ∃ w0, (w.alloc (.cells #[.bool false, .slice none 0 0] 151)).alloc (.cells #[.bool true, .slice none 0 0] 151) = w0 := ⟨_, rfl⟩
    rw [hw0] at p0 p1 ps pb ⊢
    have P0 := hide p0; have P1 := hide p1; have PB := hide pb; have PS := hide ps
    clear p0 p1 ps pb hw0 h45
    go_loopw [4] (fun e wr => ∃ k : Nat, e = .int .i64 ((D : Int) - 6 * (k : Int)) ∧ 6 * k ≤ D + 5 ∧ Hid (∃ (v : Value) (L : List Nat), wr.heap[w.heap.size]? = some (.cells #[.bool false, .slice none 0 0] 151 (0, 0)) ∧ wr.heap[w.heap.size + 1]? = some (.cells #[.bool true, v] 151 (0, 0)) ∧ Below w.heap.size w wr ∧ OwnL (w.heap.size + 2) wr v L ∧ L.length = k ∧ Lt 1000000 L ∧ lv 1000000 L = dv (ds.drop (D - 6 * k)))) (fun e _ => (intOf e).toNat)
    case atStart => exact ⟨0, by have := HSZ.out; first | rfl | (congr 1 <;> omega), by omega, .slice none 0 0, [], P0.out, P1.out, PB.out, OwnL.nil _ _, rfl, fun z hz => by simp at hz, by
      rw [List.drop_of_length_le (by have := HDD.out; omega)]; rfl⟩
    case round =>
      obtain ⟨k, rfl, hk6, hin⟩ := hrel
      obtain ⟨v, L, r0, r1, rb, ro, rl, rt, rv⟩ := hin.out
      obtain ⟨va, vc, hvf, hcap, _⟩ := ro.form
      rw [rl] at hvf hcap
      subst hvf
      have hwr : w.heap.size + 2 ≤ wr.heap.size := by
        have h1 := lt_blk r1
        omega
      by_cases hlt : 6 * k < D
      · obtain ⟨E, hE⟩ : ∃ E, E = D - 6 * k := ⟨_, rfl⟩
        have hEi : (D : Int) - 6 * (k : Int) = (E : Int) := by omega
        obtain ⟨lo, hlo⟩ : ∃ lo, lo = E - 6 := ⟨_, rfl⟩
        have hmax : max (0 : Int) ((E : Int) - 6) = (lo : Int) := by omega
        have hE0 : (0 : Int) < (E : Int) := by omega
        have hEl : (E : Int) ≤ 300 := by omega
        rw [hEi]
        have R0 := hide r0; have R1 := hide r1; have RB := hide rb; have RO := hide ro; have RL := hide rl; have RT := hide rt; have RV := hide rv
        have HE := hide hE; have HLO := hide hlo
        have hloE : lo ≤ E := by omega
        have hED : E ≤ D := by omega
        clear r0 r1 rb ro rl rt rv hin hE hlo hEi
        go_wp2_with fail
        clear hmax
        obtain ⟨wo, hwo⟩ : ∃ wo, wo = wr := ⟨_, rfl⟩
        subst hwo
        go_loopw [5, 6] (fun nn i wr2 => ∃ j A : Nat, lo ≤ j ∧ j ≤ E ∧ i = .int .i64 j ∧ nn = .int .i64 A ∧ Hid (A = dv ((ds.drop lo).take (j - lo))) ∧ wr2 = wo) (fun _ i _ => E - (intOf i).toNat)
        case atStart => exact ⟨lo, 0, Nat.le_refl _, hloE, rfl, rfl, by rw [Nat.sub_self]; rfl, rfl⟩
        case round =>
          obtain ⟨j, A, hj1, hj2, rfl, rfl, hA, hww⟩ := hrel
          obtain rfl := hww.symm
          have hAb := dv_take_lt HDG.out lo (j - lo)
          rw [← hA.out] at hAb
          by_cases hlt2 : j < E
          · have hji : (j : Int) < (E : Int) := by omega
            have hj0 : (0 : Int) ≤ (j : Int) := by omega
            have hjt : j < t.size := by have := HD.out; omega
            have hjti : (j : Int) < (t.size : Int) := by omega
            obtain ⟨y, hyv⟩ : ∃ y : Nat, y = (t[j]'hjt).toNat := ⟨_, rfl⟩
            have hyv2 : (t[j]'hjt).toNat = y := hyv.symm
            have hat : ds[j]? = some (t[j]'hjt) := by
              rw [← HT.out]
              have h1 : t.data.toList[j]? = some t.data[j] := by simp
              exact h1
            have hdg := isDg_iff.1 (HDG.out _ (List.mem_of_getElem? hat))
            rw [hyv2] at hdg
            have hnew := dv_take_succ ds hj1 hat
            rw [hyv2, ← hA.out] at hnew
            have hp5 : (10 : Nat) ^ (j - lo) ≤ 10 ^ 5 := Nat.pow_le_pow_right (by omega) (by have := HLO.out; omega)
            have hA5 : A < 100000 := Nat.lt_of_lt_of_le hAb hp5
            have HN := hide hnew.symm
            have y0 : (48 : Int) ≤ (y : Int) := by omega
            have y1 : (y : Int) ≤ 57 := by omega
            have a1 : (A : Int) < 100000 := by omega
            have HC := hide (show 10 * (A : Int) + ((y : Int) - 48) = ((A * 10 + (y - 48) : Nat) : Int) by omega)
            clear hat hyv hdg hnew hA hAb hp5 hA5
            go_wp2_with fail
            go_roundw
            case rel => exact ⟨j + 1, A * 10 + (y - 48), by omega, by omega, by go_num, by rw [← HC.out], HN, trivial⟩
            case measure => simp [intOf]; omega
          · obtain rfl : j = E := by omega
            have hji : ((j : Int) < (j : Int)) = False := eq_false (by omega)
            have hp6 : (10 : Nat) ^ (j - lo) ≤ 10 ^ 6 := Nat.pow_le_pow_right (by omega) (by have := HLO.out; omega)
            have hAl : A < 1000000 := Nat.lt_of_lt_of_le hAb hp6
            have HAL := hide hAl
            have HAE := hide hA.out
            have q1 := cell_blk R1.out 1
            have qf := froz_blk R1.out 1
            have HOW := hide (show (wo.alloc (.cells #[.int .i64 A] 3)).ownsRow (w.heap.size + 2) 3 1 (.slice va k vc) k (icells L) by
              have h := RO.out
              unfold OwnL at h
              rw [RL.out] at h
              exact h.alloc _)
            have HNW := hide (show ∀ j u, ([.int .i64 A] : List Value)[j]? = some u → (wo.alloc (.cells #[.int .i64 A] 3)).cell? ((⟨wo.heap.size, 0, none⟩ : Addr).add j) = some u from World.news_of_block (cs := #[.int .i64 A]) (t := 3) (fr := (0, 0)) (heap_alloc_new wo _))
            clear hA hAb hp6 hAl hlt2
            go_wp2_with (at_builtin; go_must (refine wpList_append_own _ rfl (.tmp 37) (.tmp 39) 40 rfl (w.heap.size + 2) 3 i0 _ 1 8 Tryz.underlying40 hi0 hz0 hz1 hz2 rfl (by decide) (.slice va k vc) _ _ rfl HOW.out ⟨wo.heap.size, 0, none⟩ 1 1 [.int .i64 A] rfl rfl HNW.out (by simp [Value.oneCell']) (by simp only [maxLen]; omega) (by omega) (by simp; omega) ?_); intro v1 w5 hown hg1 hiff; clear hiff; obtain ⟨va1, vc1, hvf⟩ := owns_form hown; subst hvf; have HOW5 := hide hown; have HB5 := hide (show Below (w.heap.size + 2) wo w5 from ((Below.refl (w.heap.size + 2) wo).alloc hwr _).grown hg1 (by simp; omega) (owns_ge RO.out (Nat.le_refl _))); clear hown hg1 q1 qf; have R1' := hide (below_blk HB5.out R1.out (by omega)); have R0' := hide (below_blk HB5.out R0.out (by omega)); have qf := froz_blk R1'.out 1; have qc5 := cell_blk R1'.out 1; have ql := lt_blk R1'.out)
            go_roundw
            case rel =>
              refine ⟨k + 1, by have := HE.out; have := HLO.out; congr 1; omega, by have := HE.out; omega, .slice va1 (k + 1) vc1, L ++ [A], (setCell_other (by omega)).trans R0'.out, ?_, (RB.out.trans (HB5.out.mono (by omega))).setCell (p := ⟨w.heap.size + 1, 1, none⟩) (by simp) _, ?_, by rw [List.length_append, RL.out]; rfl, ?_, ?_⟩
              · have h := R1'.out
                simp only [World.setCell, Array.getElem?_modify, h]
                rfl
              · refine OwnL.other ?_ (p := ⟨w.heap.size + 1, 1, none⟩) (by simp) _
                show World.ownsRow _ _ _ _ _ (L ++ [A]).length (icells (L ++ [A]))
                rw [List.length_append, RL.out, icells_append]
                exact HOW5.out
              · intro z hz
                rcases List.mem_append.1 hz with h | h
                · exact RT.out z h
                · simp only [List.mem_singleton] at h
                  rw [h]
                  exact HAL.out
              · rw [lv_snoc, RL.out, RV.out]
                have h1 := dv_cut ds (lo := lo) (e := j) hj1 (by rw [HDD.out]; exact hED)
                have e1 : D - 6 * (k + 1) = lo := by have := HE.out; have := HLO.out; omega
                have e2 : D - 6 * k = j := HE.out.symm
                have e3 : (1000000 : Nat) ^ k = 10 ^ (ds.length - j) := by
                  rw [show (1000000 : Nat) = 10 ^ 6 by decide, ← Nat.pow_mul]
                  congr 1
                  have := HE.out
                  have := HDD.out
                  omega
                rw [e1, e2, h1, ← HAE.out, e3, Nat.mul_comm A, Nat.add_comm]
            case measure => simp [intOf]; omega
      · have hEi : ((0 : Int) < (D : Int) - 6 * (k : Int)) = False := eq_false (by omega)
        have HT2 := hide (fun W (h : OwnL (w.heap.size + 2) W (.slice va k vc) L) => rtrim_any va vc L W.heap.size W (by rw [rl]; exact h.at_) (by omega) (by omega))
        rw [rl] at HT2
        have HT3 := hide (HT2.out wr ro)
        have q1 := cell_blk r1 1
        have q0 := cell_blk r1 0
        have qf := froz_blk r1 1
        have ql := lt_blk r1
        have z0 := cell_blk r0 0
        have z1 := cell_blk r0 1
        have zf := froz_blk r0 0
        have zg := froz_blk r0 1
        have zl := lt_blk r0
        have R0 := hide r0; have R1 := hide r1; have RB := hide rb; have RO := hide ro; have RL := hide rl; have RT := hide rt; have RV := hide rv
        have hk60 : k ≤ 60 := by omega
        clear r0 r1 rb ro rl rt rv hin HT2
        go_wp2_with fail
        refine HT3.out.mono ?_
        rintro e w1 ⟨rfl, rfl⟩
        go_wp2_with fail
        obtain ⟨Wa, hWa⟩ : ∃ Wa, Wa = wr.setCell ⟨w.heap.size + 1, 1, none⟩ (.slice va (trimTo L k) vc) := ⟨_, rfl⟩
        rw [← hWa]
        have A0 : Wa.heap[w.heap.size]? = some (.cells #[.bool false, .slice none 0 0] 151 (0, 0)) := by rw [hWa]; exact (setCell_other (by omega)).trans R0.out
        have AB : Below w.heap.size w Wa := by rw [hWa]; exact RB.out.setCell (p := ⟨w.heap.size + 1, 1, none⟩) (by simp) _
        have AO : OwnL (w.heap.size + 2) Wa (.slice va k vc) L := by rw [hWa]; exact RO.out.other (p := ⟨w.heap.size + 1, 1, none⟩) (by simp) _
        obtain ⟨s1, s2⟩ := set2 A0 (.bool true) (.slice va (trimTo L k) vc)
        refine exit_rread s1 rfl rfl ?_
        refine ⟨_, trimL L, rfl, AB.trans s2, ?_, trimL_norm RT.out, ?_, ?_⟩
        · have h1 := (((AO.other (p := ⟨w.heap.size, 0, none⟩) (by simp) (.bool true)).other (p := ⟨w.heap.size, 1, none⟩) (by simp) (.slice va (trimTo L k) vc)).cut (k := trimTo L k) (by have := trimTo_le L k; rw [RL.out]; exact this)).mono (show w.heap.size ≤ w.heap.size + 2 by omega)
          unfold trimL
          rw [RL.out]
          exact h1
        · rw [trimL_lv, RV.out, show D - 6 * k = 0 by omega, List.drop_zero, HV.out]
        · rw [trimL_len]
          have := trimTo_le L L.length
          have := RL.out
          omega
end Go.Proofs.YtgddookioipjiaaGreatDoor
