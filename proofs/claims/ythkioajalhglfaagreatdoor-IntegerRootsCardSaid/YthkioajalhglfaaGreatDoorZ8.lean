/-
  Texts of the integers, laid together: Pi, Pj, Pk, Qd, Pm, Pn.
-/
import Derived.Test.YthkioajalhglfaaGreatDoorZ7
namespace Go.Proofs.YthkioajalhglfaaGreatDoor
open Go.RowKit Go.KP Go.KI Go.Shelf
attribute [local go_sem] Oper.semAt_some

theorem dec9 {n : Nat} (h : n < 1000000000) : (Lib.decDigits n).length ≤ 9 := (dec_len_le (by omega)).2 (by simpa using h)
theorem up_len {l : List Nat} (h : Norm 1000000000 l) : ∀ k, k ≤ l.length → (upText l k).length ≤ 9 * k := by
  intro k
  induction k with
  | zero => intro _; simp [up_zero]
  | succ k ih =>
    intro hk
    have h9 := dec9 (lat_lt (by omega) h.lt (l.length - 1 - k))
    rcases Nat.eq_zero_or_pos k with h0 | h0
    · subst h0
      rw [up_first (by omega)]
      have : l.length - 1 - 0 = l.length - 1 := by omega
      rw [this] at h9
      omega
    · rw [up_next h (by omega) h0]
      have := ih (by omega)
      simp only [List.length_append, List.length_replicate]
      omega
theorem repeat48 (c : Nat) : Lib.repeatL [48] c = List.replicate c 48 := by
  induction c with
  | zero => rfl
  | succ n ih => simp [Lib.repeatL, ih, List.replicate_succ]
theorem valS_itoa {m : Bool} {n : Nat} (h : 1 ≤ n) : Lib.itoa (valS m n) = (if m then [45] else []) ++ Lib.decDigits n := by
  cases m
  · show Lib.itoa (n : Int) = _
    rw [Lib.itoa_nonneg]
    rfl
  · show Lib.itoa (-(n : Int)) = _
    rw [Lib.itoa_neg n h]
    rfl
theorem byteCells_app (a b : List UInt8) : Lib.byteCells a ++ Lib.strCells (strB b) = Lib.byteCells (a ++ b) := by
  rw [show Lib.strCells (strB b) = Lib.byteCells b from rfl]
  simp [Lib.byteCells]
theorem byteCells_len (a : List UInt8) : (Lib.byteCells a).length = a.length := by simp [Lib.byteCells]
theorem strCells_len (s : ByteArray) : (Lib.strCells s).length = s.size := by
  show (Lib.byteCells s.data.toList).length = _
  rw [byteCells_len, bytes_len]
theorem builder_lt {T e : TypeId} {B b : Nat} {bs : List Value} {w : World} (h : Lib.IsBuilderF T e B b bs w) : b < w.heap.size := by
  rcases h with ⟨_, v, h2, _⟩ | ⟨_, v, h2, _⟩ <;> exact lt_blk h2
theorem ok_box {bb i : Nat} {W W2 : World} {cs : Array Value} (h : Lib.OthersKept 5 (some bb) W W2) (hi : i ≠ bb) (hb : W.heap[i]? = some (.cells cs 46 (0, 0))) : W2.heap[i]? = some (.cells cs 46 (0, 0)) :=
  h i _ hb (fun e => hi (Option.some.inj e)) (fun c fz e => by injection e with _ e _; exact absurd e (by decide))
set_option maxRecDepth 100000 in
set_option maxHeartbeats 4000000 in
theorem write_any (m : Bool) (v : Value) (l : List Nat) (B : Nat) (w : World) (h : LimbAt B w v l) (hB : B ≤ w.heap.size) (hn : Norm 1000000000 l) (hl : l.length ≤ 100000) (hT : P10 B w) :
    Calls Tryz.prog 69 #[numV m v] w (Ret w (.string (strB (Lib.itoa (valS m (lv 1000000000 l)))))) := by
  obtain ⟨a0, c0, hv⟩ := h.form
  subst hv
  have HL := hide h; have HN := hide hn; have HT := hide hT
  clear h hn hT
  obtain ⟨n, hnn⟩ : ∃ n, n = l.length := ⟨_, rfl⟩
  have HNN := hide hnn
  rw [← hnn] at hl ⊢
  clear hnn
  obtain ⟨b0, bs0, bb0⟩ := heap1 w (.cells #[.bool m, .slice a0 n c0] 48)
  refine (callsIn_wide (n := 0)).1 ?_
  refine callsIn_of_wp_marks Tryz.func69 rfl trivial ?_ rfl
  simp only [Tryz.ntmps69, List.size_toArray, List.length_cons, List.length_nil, Nat.reduceAdd, Nat.reduceSub, Array.replicate_succ, Array.replicate_zero, List.push_toArray, List.append_toArray, List.nil_append, List.cons_append]
  by_cases h0 : n = 0
  · have hnil : l = [] := List.eq_nil_of_length_eq_zero (HNN.out.symm.trans h0)
    have hq : ((n : Int) == 0) = true := by rw [h0]; rfl
    have HE := hide (show Lib.itoa (valS m (lv 1000000000 l)) = [48] by
      rw [hnil, lv_nil]
      cases m <;> exact itoa_zero)
    have BB := hide bb0
    clear h0 hnil b0 bs0 bb0
    gi_wp2_with fail
    rw [HE.out]
    exact ⟨_, results_tmp rfl _ _ _, rfl, BB.out⟩
  · have hq : ((n : Int) == 0) = false := by simpa using h0
    obtain ⟨b1, bs1, bb1⟩ := heap1 (w.alloc (.cells #[.bool m, .slice a0 n c0] 48)) (.cells #[.pointer none, .slice none 0 0] 95)
    obtain ⟨w1, hw1⟩ : ∃ w1, (w.alloc (.cells #[.bool m, .slice a0 n c0] 48)).alloc (.cells #[.pointer none, .slice none 0 0] 95) = w1 := ⟨_, rfl⟩
    have e0 := below_blk bb1 b0 (by omega)
    have eb := bb0.trans (bb1.mono (by omega))
    rw [hw1] at b1 bs1 e0 eb
    rw [bs0] at b1 bs1
    have E0 := hide e0; have E1 := hide (builder_new b1); have EB := hide eb
    have c1 := cell_blk e0 0
    have c2 := cell_blk e0 1
    have hs1 : w.heap.size + 2 ≤ w1.heap.size := by omega
    clear b0 bs0 bb0 b1 bs1 bb1 e0 eb
    obtain ⟨pre, hpre⟩ : ∃ pre : List UInt8, pre = if m then [45] else [] := ⟨_, rfl⟩
    have HPRE := hide hpre
    have hne : l ≠ [] := fun e => h0 (by rw [HNN.out, e]; rfl)
    have hpos : 1 ≤ lv 1000000000 l := by
      have h1 := HN.out.ge hne
      have h2 : 0 < 1000000000 ^ (l.length - 1) := Nat.pow_pos (by omega)
      omega
    have HTX := hide (show Lib.itoa (valS m (lv 1000000000 l)) = pre ++ upText l n by rw [valS_itoa hpos, ← hpre, HNN.out, up_all hne])
    clear hpos hne
    have hpl : pre.length ≤ 1 := by rw [hpre]; cases m <;> simp
    clear hpre
    cases m
    case' true =>
      gi_wp2_with fail
      refine ⟨trivial, rfl, (callsIn_wide.2 (wByte (w.heap.size + 1) (w.heap.size + 1) [] 45 w1 E1.out (by simp) (by omega))).mono ?_⟩
      rintro e w2 ⟨rfl, hb2, bl2, ok2⟩
      have E0' := hide (show w2.heap[w.heap.size]? = some (.cells #[.bool true, .slice a0 n c0] 48 (0, 0)) from below_blk bl2 E0.out (by omega))
      have E1' := hide (show Lib.IsBuilderF 95 5 (w.heap.size + 1) (w.heap.size + 1) (Lib.byteCells pre) w2 by rw [HPRE.out]; exact .inr hb2)
      have EB' := hide (EB.out.trans (bl2.mono (by omega)))
      have hs1' : w.heap.size + 2 ≤ w2.heap.size := by have := bl2.size; omega
      clear hb2 bl2 ok2 E0 E1 EB c1 c2 hs1 hw1
      obtain ⟨w1, rfl⟩ : ∃ x, x = w2 := ⟨_, rfl⟩
      have E0 := E0'; have E1 := E1'; have EB := EB'; have hs1 := hs1'
      clear E0' E1' EB' hs1'
      have c1 := cell_blk E0.out 0
      have c2 := cell_blk E0.out 1
      gi_wp2_with fail
    case' false =>
      have E1' := hide (show Lib.IsBuilderF 95 5 (w.heap.size + 1) (w.heap.size + 1) (Lib.byteCells pre) w1 by rw [HPRE.out]; exact E1.out)
      clear E1
      have E1 := E1'
      clear E1'
      gi_wp2_with fail
      clear hw1
    all_goals
      refine ⟨trivial, rfl, (callsIn_wide.2 (backward_any a0 n c0 w1)).mono ?_⟩
      rintro e w3 ⟨rfl, hw3⟩
      obtain ⟨b3, bs3, bb3⟩ := heap1 w1 (.cells #[.slice a0 n c0] 46)
      rw [hw3] at b3 bs3 bb3
      have F0 := hide (below_blk bb3 E0.out (by omega))
      have F1 := hide (show Lib.IsBuilderF 95 5 (w.heap.size + 1) (w.heap.size + 1) (Lib.byteCells pre) w3 from builder_keep E1.out (fun i cs t fz h => below_blk bb3 h (lt_blk h)))
      have F2 := hide b3; have FB := hide (EB.out.trans (bb3.mono (by omega)))
      have hs3 : w1.heap.size < w3.heap.size := by omega
      clear b3 bs3 bb3 E0 E1 EB c1 c2
      gi_wp2_with fail
    case neg.false =>
      refine wp_iter_pure (gf := 102) (lb := #[.pointer (some ⟨w1.heap.size, 0, none⟩)]) rfl (enters_of Tryz.func102 (by kernel_rfl) rfl) (backPure_any w1.heap.size n c0 a0 (fun k => (lat l (n - 1 - k) : Nat)) (by omega)) (fun _ => rfl)
        (fun k S W => S = SU (w.heap.size + 1) W ∧ Lib.IsBuilderF 95 5 (w.heap.size + 1) (w.heap.size + 1) (Lib.byteCells (pre ++ upText l k)) W ∧ W.heap[w.heap.size]? = some (.cells #[.bool false, .slice a0 n c0] 48 (0, 0)) ∧ W.heap[w1.heap.size]? = some (.cells #[.slice a0 n c0] 46 (0, 0)) ∧ Below w.heap.size w W)
        (fun _ _ _ => False) ?hI (fun _ _ _ _ h _ => h) (S0 := SU (w.heap.size + 1) w3) ?h0 ?hke
        (fun k S a1' W => a1' = { tmps := #[numV false (.slice a0 n c0), .pointer (some ⟨w.heap.size, 0, none⟩), .string ⟨#[]⟩, .pointer (some ⟨w.heap.size + 1, 0, none⟩), .int .i64 ((n : Int) - 1 - k), .int .i64 (lat l (n - 1 - k)), undef, .pointer (some ⟨w.heap.size, 1, none⟩), .slice a0 n c0, .int .i64 n, .bool false, .pointer (some ⟨w.heap.size, 0, none⟩), .bool false, undef, .pointer (some ⟨w.heap.size, 1, none⟩), .slice a0 n c0, .func (.func 102) #[] #[.pointer (some ⟨w1.heap.size, 0, none⟩)], .int .i64 ((n : Int) - 1 - k), .int .i64 (lat l (n - 1 - k)), undef, undef, undef, undef, undef, undef, undef, undef, undef, undef, undef, undef, undef, undef, undef, undef], defers := [] })
        ?hAx ?hassign ?hS ?hbody ?hdone ?hstop
      case hI =>
        rintro k S W W2 ⟨rfl, h1, h2, h3, h4⟩ hq
        exact ⟨(su_still hq).symm, builder_keep h1 hq.old, hq.old _ _ _ _ h2, hq.old _ _ _ _ h3, ⟨h4.os.symm ▸ hq.os, h4.tape.symm ▸ hq.tape, h4.output.symm ▸ hq.output, Nat.le_trans h4.size hq.size, fun j hj => (hq.kept j (by omega) (by have := h4.size; omega)).trans (h4.block j hj)⟩⟩
      case h0 =>
        refine ⟨rfl, ?_, F0.out, F2.out, FB.out⟩
        rw [up_zero, List.append_nil]
        exact F1.out
      case hke =>
        rintro k S W hk ⟨rfl, h1, h2, h3, h4⟩
        refine ⟨h3, fun hlt => ?_⟩
        have hL := HL.out
        rw [← HNN.out] at hL
        rcases LimbAt.cases (l := l) (by rw [HNN.out] at hL; exact hL) with ⟨a, c, e1, e2⟩ | ⟨g, o, cap, e1, e2, e3⟩
        · subst e2
          have := HNN.out
          simp at this
          omega
        · injection e1 with e1 _ _
          refine ⟨g, o, e1, ?_⟩
          have h5 := e3 (n - 1 - k) (by rw [← HNN.out]; omega)
          have h6 : W.heap[g]? = w.heap[g]? := h4.block g (by omega)
          rw [← h5]
          simp [World.cell?, h6]
      case hAx =>
        rintro k S a1' W l r r2 h _
        exact h
      case hassign =>
        intro lp k S W K hsz hSlt hK
        have HK := hide hK
        clear hK
        gi_wp2
        exact HK.out _ rfl
      case hS =>
        rintro k S W ⟨rfl, h1, _⟩ b (rfl | ⟨cur, fz, hb⟩)
        · exact builder_lt h1
        · exact lt_blk hb
      case hstop =>
        intro D c S W _ h
        exact h.elim
      case hbody =>
        rintro lp k S a1' W hk ⟨rfl, h1, h2, h3, h4⟩ rfl hsz
        obtain ⟨d, hd⟩ : ∃ d, d = lat l (n - 1 - k) := ⟨_, rfl⟩
        rw [← hd]
        have hdl : d < 1000000000 := by rw [hd]; exact lat_lt (by omega) HN.out.lt _
        obtain ⟨t, ht⟩ : ∃ t, t = strB (Lib.itoa d) := ⟨_, rfl⟩
        have htb : strB (Lib.decDigits d) = t := by rw [ht, Lib.itoa_nonneg]
        have hts : t.size ≤ 9 := by rw [← htb, strB_size]; exact dec9 hdl
        have hlen : (Lib.byteCells (pre ++ upText l k)).length ≤ 1 + 9 * k := by
          rw [byteCells_len, List.length_append]
          have := up_len HN.out k (by rw [← HNN.out]; omega)
          omega
        have hTW : P10 B W := fun w' hb => HT.out w' ((h4.mono hB).trans hb)
        have hsz1 : w.heap.size + 1 < W.heap.size := by omega
        have c1 := cell_blk h2 0
        have c2 := cell_blk h2 1
        have G1 := hide h1; have G2 := hide h2; have G3 := hide h3; have G4 := hide h4; have HTW := hide hTW; have HD := hide hd; have HTT := hide ht; have HTB := hide htb; have HLN := hide hlen
        clear h1 h2 h3 h4 hTW hd ht htb F0 F1 F2 FB hw3 hlen
        gi_wp2_with fail
        refine ⟨trivial, rfl, (CallsIn.inRound lp (callsIn_wide.2 (itoa_any d (by omega) (by omega) B W HTW.out))).mono ?_⟩
        rw [← HTT.out]
        rintro e W2 ⟨rfl, hb2⟩
        have K1 := hide (builder_keep G1.out (fun i cs t fz h => below_blk hb2 h (lt_blk h)))
        have K2 := hide (below_blk hb2 G2.out (lt_blk G2.out)); have K3 := hide (below_blk hb2 G3.out (lt_blk G3.out)); have K4 := hide (G4.out.trans (hb2.mono (by omega)))
        have hsz2 : W.heap.size ≤ W2.heap.size := hb2.size
        have KB := hide hb2
        have c1 := cell_blk K2.out 0
        have c2 := cell_blk K2.out 1
        clear hb2 G1 G2 G3 G4 HTW
        by_cases hk0 : k = 0
        · have hte : ((n : Int) - 1 - (k : Int) < (n : Int) - 1) = False := eq_false (by omega)
          gi_wp2_with fail
          refine ⟨trivial, rfl, (CallsIn.inRound lp (callsIn_wide.2 (wString (w.heap.size + 1) (w.heap.size + 1) _ t W2 K1.out (by have := HLN.out; omega) (by omega)))).mono ?_⟩
          rintro e W4 ⟨rfl, hf, bl4, ok4⟩
          have HF := hide hf; have BL := hide bl4; have OK := hide ok4
          clear hf bl4 ok4
          gi_wp2_with fail
          refine ⟨_, su_step (b := w.heap.size + 1) (Nat.le_trans hsz2 BL.out.size) (fun i o hi hib hio => OK.out i o (below_blk KB.out hi (lt_blk hi)) (by intro e; injection e with e; exact hib e) hio), rfl, ?_, below_blk BL.out K2.out (by omega), ok_box OK.out (by omega) K3.out, K4.out.trans (BL.out.mono (by omega))⟩
          have h1 := HF.out
          rw [← HTB.out, byteCells_app, hk0, up_zero, List.append_nil, HD.out, hk0] at h1
          rw [hk0, up_first (by rw [← HNN.out]; omega), ← HNN.out]
          exact .inr h1
        · have hte : (n : Int) - 1 - (k : Int) < (n : Int) - 1 := by omega
          obtain ⟨q, hq9⟩ : ∃ q : Nat, (9 : Int) - (t.size : Int) = (q : Int) := ⟨9 - t.size, by omega⟩
          have HQ := hide (show q = 9 - t.size by omega)
          have hqs : q ≤ 9 := by omega
          gi_wp2_with fail
          clear hq9
          refine ⟨trivial, rfl, (CallsIn.inRound lp (callsIn_wide.2 (repeat_any ⟨#[48]⟩ q W2 (by omega) (by decide)))).mono ?_⟩
          rw [show (⟨#[48]⟩ : ByteArray).data.toList = [48] from rfl, repeat48]
          rintro e W3 ⟨rfl, hb3⟩
          have L1 := hide (builder_keep K1.out (fun i cs t fz h => below_blk hb3 h (lt_blk h)))
          have L2 := hide (below_blk hb3 K2.out (lt_blk K2.out)); have L3 := hide (below_blk hb3 K3.out (lt_blk K3.out)); have L4 := hide (K4.out.trans (hb3.mono (by omega)))
          have hsz3 : W2.heap.size ≤ W3.heap.size := hb3.size
          have LB := hide hb3
          obtain ⟨z, hz⟩ : ∃ z, z = strB (List.replicate q 48) := ⟨_, rfl⟩
          rw [← hz]
          have hzs : z.size ≤ 9 := by rw [hz, strB_size]; simp; omega
          have HZ := hide hz
          clear hb3 K1 K2 K3 K4 c1 c2 hz
          gi_wp2_with fail
          refine ⟨trivial, rfl, (CallsIn.inRound lp (callsIn_wide.2 (wString (w.heap.size + 1) (w.heap.size + 1) _ z W3 L1.out (by have := HLN.out; omega) (by omega)))).mono ?_⟩
          rintro e W4 ⟨rfl, hf, bl4, ok4⟩
          have HF := hide (show Lib.IsBuilderF 95 5 (w.heap.size + 1) (w.heap.size + 1) _ W4 from .inr hf); have BL := hide bl4; have OK := hide ok4
          have hsz4 : W3.heap.size ≤ W4.heap.size := bl4.size
          clear hf bl4 ok4
          gi_wp2_with fail
          refine ⟨trivial, rfl, (CallsIn.inRound lp (callsIn_wide.2 (wString (w.heap.size + 1) (w.heap.size + 1) _ t W4 HF.out (by have := HLN.out; rw [List.length_append, strCells_len z]; omega) (by omega)))).mono ?_⟩
          rintro e W5 ⟨rfl, hf, bl5, ok5⟩
          have HF2 := hide hf; have BL5 := hide bl5; have OK5 := hide ok5
          clear hf bl5 ok5
          gi_wp2_with fail
          refine ⟨_, su_step (b := w.heap.size + 1) (Nat.le_trans hsz2 (Nat.le_trans hsz3 (Nat.le_trans hsz4 BL5.out.size))) (fun i o hi hib hio => OK5.out i o (OK.out i o (below_blk LB.out (below_blk KB.out hi (lt_blk hi)) (by have := lt_blk hi; omega)) (by intro e; injection e with e; exact hib e) hio) (by intro e; injection e with e; exact hib e) hio), rfl, ?_, below_blk BL5.out (below_blk BL.out L2.out (by omega)) (by omega), ok_box OK5.out (by omega) (ok_box OK.out (by omega) L3.out), L4.out.trans ((BL.out.mono (by omega)).trans (BL5.out.mono (by omega)))⟩
          have h1 := HF2.out
          rw [HZ.out, byteCells_app, ← HTB.out, byteCells_app, HQ.out, ← HTB.out, strB_size, HD.out, HNN.out] at h1
          rw [up_next HN.out (by rw [← HNN.out]; omega) (by omega)]
          rw [List.append_assoc, List.append_assoc] at h1
          exact .inr h1
      case hdone =>
        rintro D S W hD ⟨rfl, h1, h2, h3, h4⟩ hDf
        have G1 := hide h1; have G4 := hide h4; have GD := hide hDf
        have hsz1 : w.heap.size + 1 < W.heap.size := by have := lt_blk hDf; omega
        clear h1 h2 h3 h4 hDf F0 F1 F2 FB hw3
        gi_wp2_with fail
        refine ⟨trivial, rfl, (callsIn_wide.2 (wGive (w.heap.size + 1) (w.heap.size + 1) (pre ++ upText l n) W G1.out (by omega))).mono ?_⟩
        rintro e W2 ⟨rfl, hf, bl, ok⟩
        have BL := hide bl
        have GD2 := hide (ok D _ GD.out (by intro e; injection e with e; omega) (fun c fz e => by cases e))
        clear hf bl ok
        gi_wp2_with fail
        refine ⟨by simp, .inl ⟨_, _, rfl, run_takeDeferred GD2.out, ?_⟩⟩
        refine ⟨_, results_tmp rfl _ _ _, ?_, ?_⟩
        · rw [HTX.out]
          rfl
        · exact G4.out.trans ((BL.out.mono (by omega)).trans (belowK_b (w := w) (Nat.le_refl _) _ D _ _ (by omega) GD2.out rfl rfl))
    case neg.true =>
      refine wp_iter_pure (gf := 102) (lb := #[.pointer (some ⟨w1.heap.size, 0, none⟩)]) rfl (enters_of Tryz.func102 (by kernel_rfl) rfl) (backPure_any w1.heap.size n c0 a0 (fun k => (lat l (n - 1 - k) : Nat)) (by omega)) (fun _ => rfl)
        (fun k S W => S = SU (w.heap.size + 1) W ∧ Lib.IsBuilderF 95 5 (w.heap.size + 1) (w.heap.size + 1) (Lib.byteCells (pre ++ upText l k)) W ∧ W.heap[w.heap.size]? = some (.cells #[.bool true, .slice a0 n c0] 48 (0, 0)) ∧ W.heap[w1.heap.size]? = some (.cells #[.slice a0 n c0] 46 (0, 0)) ∧ Below w.heap.size w W)
        (fun _ _ _ => False) ?hI (fun _ _ _ _ h _ => h) (S0 := SU (w.heap.size + 1) w3) ?h0 ?hke
        (fun k S a1' W => a1' = { tmps := #[numV true (.slice a0 n c0), .pointer (some ⟨w.heap.size, 0, none⟩), .string ⟨#[]⟩, .pointer (some ⟨w.heap.size + 1, 0, none⟩), .int .i64 ((n : Int) - 1 - k), .int .i64 (lat l (n - 1 - k)), undef, .pointer (some ⟨w.heap.size, 1, none⟩), .slice a0 n c0, .int .i64 n, .bool false, .pointer (some ⟨w.heap.size, 0, none⟩), .bool true, .nilIface, .pointer (some ⟨w.heap.size, 1, none⟩), .slice a0 n c0, .func (.func 102) #[] #[.pointer (some ⟨w1.heap.size, 0, none⟩)], .int .i64 ((n : Int) - 1 - k), .int .i64 (lat l (n - 1 - k)), undef, undef, undef, undef, undef, undef, undef, undef, undef, undef, undef, undef, undef, undef, undef, undef], defers := [] })
        ?hAx ?hassign ?hS ?hbody ?hdone ?hstop
      case hI =>
        rintro k S W W2 ⟨rfl, h1, h2, h3, h4⟩ hq
        exact ⟨(su_still hq).symm, builder_keep h1 hq.old, hq.old _ _ _ _ h2, hq.old _ _ _ _ h3, ⟨h4.os.symm ▸ hq.os, h4.tape.symm ▸ hq.tape, h4.output.symm ▸ hq.output, Nat.le_trans h4.size hq.size, fun j hj => (hq.kept j (by omega) (by have := h4.size; omega)).trans (h4.block j hj)⟩⟩
      case h0 =>
        refine ⟨rfl, ?_, F0.out, F2.out, FB.out⟩
        rw [up_zero, List.append_nil]
        exact F1.out
      case hke =>
        rintro k S W hk ⟨rfl, h1, h2, h3, h4⟩
        refine ⟨h3, fun hlt => ?_⟩
        have hL := HL.out
        rw [← HNN.out] at hL
        rcases LimbAt.cases (l := l) (by rw [HNN.out] at hL; exact hL) with ⟨a, c, e1, e2⟩ | ⟨g, o, cap, e1, e2, e3⟩
        · subst e2
          have := HNN.out
          simp at this
          omega
        · injection e1 with e1 _ _
          refine ⟨g, o, e1, ?_⟩
          have h5 := e3 (n - 1 - k) (by rw [← HNN.out]; omega)
          have h6 : W.heap[g]? = w.heap[g]? := h4.block g (by omega)
          rw [← h5]
          simp [World.cell?, h6]
      case hAx =>
        rintro k S a1' W l r r2 h _
        exact h
      case hassign =>
        intro lp k S W K hsz hSlt hK
        have HK := hide hK
        clear hK
        gi_wp2
        exact HK.out _ rfl
      case hS =>
        rintro k S W ⟨rfl, h1, _⟩ b (rfl | ⟨cur, fz, hb⟩)
        · exact builder_lt h1
        · exact lt_blk hb
      case hstop =>
        intro D c S W _ h
        exact h.elim
      case hbody =>
        rintro lp k S a1' W hk ⟨rfl, h1, h2, h3, h4⟩ rfl hsz
        obtain ⟨d, hd⟩ : ∃ d, d = lat l (n - 1 - k) := ⟨_, rfl⟩
        rw [← hd]
        have hdl : d < 1000000000 := by rw [hd]; exact lat_lt (by omega) HN.out.lt _
        obtain ⟨t, ht⟩ : ∃ t, t = strB (Lib.itoa d) := ⟨_, rfl⟩
        have htb : strB (Lib.decDigits d) = t := by rw [ht, Lib.itoa_nonneg]
        have hts : t.size ≤ 9 := by rw [← htb, strB_size]; exact dec9 hdl
        have hlen : (Lib.byteCells (pre ++ upText l k)).length ≤ 1 + 9 * k := by
          rw [byteCells_len, List.length_append]
          have := up_len HN.out k (by rw [← HNN.out]; omega)
          omega
        have hTW : P10 B W := fun w' hb => HT.out w' ((h4.mono hB).trans hb)
        have hsz1 : w.heap.size + 1 < W.heap.size := by omega
        have c1 := cell_blk h2 0
        have c2 := cell_blk h2 1
        have G1 := hide h1; have G2 := hide h2; have G3 := hide h3; have G4 := hide h4; have HTW := hide hTW; have HD := hide hd; have HTT := hide ht; have HTB := hide htb; have HLN := hide hlen
        clear h1 h2 h3 h4 hTW hd ht htb F0 F1 F2 FB hw3 hlen
        gi_wp2_with fail
        refine ⟨trivial, rfl, (CallsIn.inRound lp (callsIn_wide.2 (itoa_any d (by omega) (by omega) B W HTW.out))).mono ?_⟩
        rw [← HTT.out]
        rintro e W2 ⟨rfl, hb2⟩
        have K1 := hide (builder_keep G1.out (fun i cs t fz h => below_blk hb2 h (lt_blk h)))
        have K2 := hide (below_blk hb2 G2.out (lt_blk G2.out)); have K3 := hide (below_blk hb2 G3.out (lt_blk G3.out)); have K4 := hide (G4.out.trans (hb2.mono (by omega)))
        have hsz2 : W.heap.size ≤ W2.heap.size := hb2.size
        have KB := hide hb2
        have c1 := cell_blk K2.out 0
        have c2 := cell_blk K2.out 1
        clear hb2 G1 G2 G3 G4 HTW
        by_cases hk0 : k = 0
        · have hte : ((n : Int) - 1 - (k : Int) < (n : Int) - 1) = False := eq_false (by omega)
          gi_wp2_with fail
          refine ⟨trivial, rfl, (CallsIn.inRound lp (callsIn_wide.2 (wString (w.heap.size + 1) (w.heap.size + 1) _ t W2 K1.out (by have := HLN.out; omega) (by omega)))).mono ?_⟩
          rintro e W4 ⟨rfl, hf, bl4, ok4⟩
          have HF := hide hf; have BL := hide bl4; have OK := hide ok4
          clear hf bl4 ok4
          gi_wp2_with fail
          refine ⟨_, su_step (b := w.heap.size + 1) (Nat.le_trans hsz2 BL.out.size) (fun i o hi hib hio => OK.out i o (below_blk KB.out hi (lt_blk hi)) (by intro e; injection e with e; exact hib e) hio), rfl, ?_, below_blk BL.out K2.out (by omega), ok_box OK.out (by omega) K3.out, K4.out.trans (BL.out.mono (by omega))⟩
          have h1 := HF.out
          rw [← HTB.out, byteCells_app, hk0, up_zero, List.append_nil, HD.out, hk0] at h1
          rw [hk0, up_first (by rw [← HNN.out]; omega), ← HNN.out]
          exact .inr h1
        · have hte : (n : Int) - 1 - (k : Int) < (n : Int) - 1 := by omega
          obtain ⟨q, hq9⟩ : ∃ q : Nat, (9 : Int) - (t.size : Int) = (q : Int) := ⟨9 - t.size, by omega⟩
          have HQ := hide (show q = 9 - t.size by omega)
          have hqs : q ≤ 9 := by omega
          gi_wp2_with fail
          clear hq9
          refine ⟨trivial, rfl, (CallsIn.inRound lp (callsIn_wide.2 (repeat_any ⟨#[48]⟩ q W2 (by omega) (by decide)))).mono ?_⟩
          rw [show (⟨#[48]⟩ : ByteArray).data.toList = [48] from rfl, repeat48]
          rintro e W3 ⟨rfl, hb3⟩
          have L1 := hide (builder_keep K1.out (fun i cs t fz h => below_blk hb3 h (lt_blk h)))
          have L2 := hide (below_blk hb3 K2.out (lt_blk K2.out)); have L3 := hide (below_blk hb3 K3.out (lt_blk K3.out)); have L4 := hide (K4.out.trans (hb3.mono (by omega)))
          have hsz3 : W2.heap.size ≤ W3.heap.size := hb3.size
          have LB := hide hb3
          obtain ⟨z, hz⟩ : ∃ z, z = strB (List.replicate q 48) := ⟨_, rfl⟩
          rw [← hz]
          have hzs : z.size ≤ 9 := by rw [hz, strB_size]; simp; omega
          have HZ := hide hz
          clear hb3 K1 K2 K3 K4 c1 c2 hz
          gi_wp2_with fail
          refine ⟨trivial, rfl, (CallsIn.inRound lp (callsIn_wide.2 (wString (w.heap.size + 1) (w.heap.size + 1) _ z W3 L1.out (by have := HLN.out; omega) (by omega)))).mono ?_⟩
          rintro e W4 ⟨rfl, hf, bl4, ok4⟩
          have HF := hide (show Lib.IsBuilderF 95 5 (w.heap.size + 1) (w.heap.size + 1) _ W4 from .inr hf); have BL := hide bl4; have OK := hide ok4
          have hsz4 : W3.heap.size ≤ W4.heap.size := bl4.size
          clear hf bl4 ok4
          gi_wp2_with fail
          refine ⟨trivial, rfl, (CallsIn.inRound lp (callsIn_wide.2 (wString (w.heap.size + 1) (w.heap.size + 1) _ t W4 HF.out (by have := HLN.out; rw [List.length_append, strCells_len z]; omega) (by omega)))).mono ?_⟩
          rintro e W5 ⟨rfl, hf, bl5, ok5⟩
          have HF2 := hide hf; have BL5 := hide bl5; have OK5 := hide ok5
          clear hf bl5 ok5
          gi_wp2_with fail
          refine ⟨_, su_step (b := w.heap.size + 1) (Nat.le_trans hsz2 (Nat.le_trans hsz3 (Nat.le_trans hsz4 BL5.out.size))) (fun i o hi hib hio => OK5.out i o (OK.out i o (below_blk LB.out (below_blk KB.out hi (lt_blk hi)) (by have := lt_blk hi; omega)) (by intro e; injection e with e; exact hib e) hio) (by intro e; injection e with e; exact hib e) hio), rfl, ?_, below_blk BL5.out (below_blk BL.out L2.out (by omega)) (by omega), ok_box OK5.out (by omega) (ok_box OK.out (by omega) L3.out), L4.out.trans ((BL.out.mono (by omega)).trans (BL5.out.mono (by omega)))⟩
          have h1 := HF2.out
          rw [HZ.out, byteCells_app, ← HTB.out, byteCells_app, HQ.out, ← HTB.out, strB_size, HD.out, HNN.out] at h1
          rw [up_next HN.out (by rw [← HNN.out]; omega) (by omega)]
          rw [List.append_assoc, List.append_assoc] at h1
          exact .inr h1
      case hdone =>
        rintro D S W hD ⟨rfl, h1, h2, h3, h4⟩ hDf
        have G1 := hide h1; have G4 := hide h4; have GD := hide hDf
        have hsz1 : w.heap.size + 1 < W.heap.size := by have := lt_blk hDf; omega
        clear h1 h2 h3 h4 hDf F0 F1 F2 FB hw3
        gi_wp2_with fail
        refine ⟨trivial, rfl, (callsIn_wide.2 (wGive (w.heap.size + 1) (w.heap.size + 1) (pre ++ upText l n) W G1.out (by omega))).mono ?_⟩
        rintro e W2 ⟨rfl, hf, bl, ok⟩
        have BL := hide bl
        have GD2 := hide (ok D _ GD.out (by intro e; injection e with e; omega) (fun c fz e => by cases e))
        clear hf bl ok
        gi_wp2_with fail
        refine ⟨by simp, .inl ⟨_, _, rfl, run_takeDeferred GD2.out, ?_⟩⟩
        refine ⟨_, results_tmp rfl _ _ _, ?_, ?_⟩
        · rw [HTX.out]
          rfl
        · exact G4.out.trans ((BL.out.mono (by omega)).trans (belowK_b (w := w) (Nat.le_refl _) _ D _ _ (by omega) GD2.out rfl rfl))
end Go.Proofs.YthkioajalhglfaaGreatDoor
namespace Go.Proofs.YthkioajalhglfaaGreatDoor
open Go.RowKit Go.KP Go.KI Go.Shelf
attribute [local go_sem] Oper.semAt_some

theorem P10.on {B n : Nat} {w w2 : World} (h : P10 B w) (hb : Below n w w2) (hB : B ≤ n) : P10 B w2 := fun w' h2 => h w' ((hb.mono hB).trans h2)
/-- Limbs of a number that fits. -/
theorem fits_limbs {m : Bool} {l : List Nat} (h : Norm 1000000000 l) (hf : fits (valS m (lv 1000000000 l))) : l.length ≤ 40 := by
  rcases Nat.lt_or_ge 40 l.length with hl | hl
  · exfalso
    have hne : l ≠ [] := fun e => by rw [e] at hl; simp at hl
    have h1 := h.ge hne
    have h2 : lv 1000000000 l < lim := by
      have : (valS m (lv 1000000000 l)).natAbs = lv 1000000000 l := by cases m <;> simp [valS]
      rw [← this]
      exact hf
    have h3 : lim ≤ 1000000000 ^ (l.length - 1) := by
      have e1 : (1000000000 : Nat) ^ (l.length - 1) = 10 ^ (9 * (l.length - 1)) := by rw [Nat.pow_mul]
      rw [e1]
      exact Nat.pow_le_pow_right (by omega) (by rw [most_eq]; omega)
    omega
  · exact hl
theorem digs_size (z : Int) : (strB (digs (Lib.itoa z))).size = (Lib.decDigits z.natAbs).length := by rw [strB_size, digs_itoa]
theorem resS_yes {z : Int} (h : ¬ 300 < (Lib.decDigits z.natAbs).length) : resS z = Lib.itoa z ∧ resE z = 0 := by
  have : fits z := fits_len.2 (by omega)
  exact ⟨if_pos this, if_pos this⟩
theorem resS_no {z : Int} (h : 300 < (Lib.decDigits z.natAbs).length) : resS z = [] ∧ resE z = 4 := by
  have : ¬ fits z := fun hf => by have := fits_len.1 hf; omega
  exact ⟨if_neg this, if_neg this⟩
/-- A pair of a text and an error. -/
abbrev pairV (s : List UInt8) (e : Int) : Value := .tuple #[.string (strB s), .int .i64 e]
set_option maxRecDepth 100000 in
set_option maxHeartbeats 2000000 in
theorem result_any (m : Bool) (v : Value) (l : List Nat) (B : Nat) (w : World) (h : LimbAt B w v l) (hB : B ≤ w.heap.size) (hn : Norm 1000000000 l) (hl : l.length ≤ 100000) (hT : P10 B w) :
    Calls Tryz.prog 39 #[numV m v] w (Ret w (pairV (resS (valS m (lv 1000000000 l))) (resE (valS m (lv 1000000000 l))))) := by
  obtain ⟨a0, c0, hv⟩ := h.form
  subst hv
  have HW := hide (fun w2 (hb : Below w.heap.size w w2) => write_any m _ l B w2 (h.below hb hB) (by have := hb.size; omega) hn hl (hT.on hb hB))
  clear h hn hT
  obtain ⟨n, hnn⟩ : ∃ n, n = l.length := ⟨_, rfl⟩
  rw [← hnn] at hl HW ⊢
  clear hnn
  obtain ⟨z, hz⟩ : ∃ z, z = valS m (lv 1000000000 l) := ⟨_, rfl⟩
  rw [← hz] at HW ⊢
  clear hz
  obtain ⟨b0, bs0, bb0⟩ := heap1 w (.cells #[.bool m, .slice a0 n c0] 48)
  have B0 := hide b0; have BB := hide bb0
  have c0' := cell_blk b0 0
  have c1' := cell_blk b0 1
  clear b0 bs0 bb0
  have hd := digs_size z
  obtain ⟨t, ht⟩ : ∃ t, t = strB (Lib.itoa z) := ⟨_, rfl⟩
  obtain ⟨u, hu⟩ : ∃ u, u = strB (digs (Lib.itoa z)) := ⟨_, rfl⟩
  have HU := hide (fun w => trimPrefix_any t w)
  have HT2 := hide ht
  rw [show digs t.data.toList = digs (Lib.itoa z) by rw [ht, strB_list], ← hu] at HU
  rw [← ht] at HW
  rw [← hu] at hd
  by_cases h3 : 300 < (Lib.decDigits z.natAbs).length
  · obtain ⟨e1, e2⟩ := resS_no h3
    rw [e1, e2]
    have hc : (300 : Int) < (u.size : Int) := by omega
    have HT3 := hide ht
    clear h3 hd ht hu e1 e2
    go_enter Tryz.func39, Tryz.ntmps39
    go_wp2_with fail
    refine (HW.out _ BB.out).mono ?_
    rintro e w1 ⟨rfl, hb1⟩
    have HB1 := hide (BB.out.trans (hb1.mono (by have := BB.out.size; omega)))
    clear hb1 HW c0' c1' BB B0
    go_wp2_with fail
    refine (HU.out _).mono ?_
    rintro e w2 ⟨rfl, rfl⟩
    clear HU
    go_wp2_with fail
    refine bodyPost_ret (results_tmp2 rfl _ _ _) rfl ?_
    exact ⟨rfl, HB1.out⟩
  · obtain ⟨e1, e2⟩ := resS_yes h3
    rw [e1, e2]
    have hc : ((300 : Int) < (u.size : Int)) = False := eq_false (by omega)
    have HT3 := hide ht
    clear h3 hd ht hu e1 e2
    go_enter Tryz.func39, Tryz.ntmps39
    go_wp2_with fail
    refine (HW.out _ BB.out).mono ?_
    rintro e w1 ⟨rfl, hb1⟩
    have HB1 := hide (BB.out.trans (hb1.mono (by have := BB.out.size; omega)))
    clear hb1 HW c0' c1' BB B0
    go_wp2_with fail
    refine (HU.out _).mono ?_
    rintro e w2 ⟨rfl, rfl⟩
    clear HU
    go_wp2_with fail
    refine bodyPost_ret (results_tmp2 rfl _ _ _) rfl ?_
    exact ⟨by rw [HT2.out]; rfl, HB1.out⟩
end Go.Proofs.YthkioajalhglfaaGreatDoor
namespace Go.Proofs.YthkioajalhglfaaGreatDoor
open Go.RowKit Go.KP Go.KI Go.Shelf
attribute [local go_sem] Oper.semAt_some

theorem op2_bad {f : Int → Int → Int} {a b : List UInt8} (h : bothI a b ≠ 0) : op2S f a b = [] ∧ op2E f a b = bothI a b := by
  unfold bothI at h ⊢
  unfold op2S op2E
  by_cases h1 : chkI a = 0
  · rw [if_pos h1] at h ⊢
    rw [if_neg (by simp [h1]), if_pos h, if_neg (by simp [h1]), if_pos h]
    exact ⟨rfl, rfl⟩
  · rw [if_neg h1] at h ⊢
    rw [if_pos h1, if_pos h1]
    exact ⟨rfl, rfl⟩
theorem op2_good {f : Int → Int → Int} {a b : List UInt8} (h : bothI a b = 0) : chkI a = 0 ∧ chkI b = 0 ∧ op2S f a b = resS (f (valI a) (valI b)) ∧ op2E f a b = resE (f (valI a) (valI b)) := by
  unfold bothI at h
  by_cases h1 : chkI a = 0
  · rw [if_pos h1] at h
    unfold op2S op2E
    rw [if_neg (by simp [h1]), if_neg (by simp [h]), if_neg (by simp [h1]), if_neg (by simp [h])]
    exact ⟨h1, h, rfl, rfl⟩
  · rw [if_neg h1] at h
    exact absurd h h1
theorem chk_digs {l : List UInt8} (h : chkI l = 0) : (∀ c ∈ digs l, isDg c = true) ∧ l.length ≤ 301 := by
  obtain ⟨h1, h2⟩ := chk_ok h
  have hf := fits_len.1 h2
  have he : digs l = Lib.decDigits (valI l).natAbs := by
    have := digs_itoa (valI l)
    rw [← h1] at this
    exact this
  refine ⟨by rw [he]; exact decDigits_dg _, ?_⟩
  rcases itoa_cases (valI l) with ⟨_, e⟩ | ⟨_, e⟩
  · rw [h1, e, List.length_cons]
    omega
  · rw [h1, e]
    omega
theorem read_good (s : ByteArray) (h : chkI s.data.toList = 0) (w : World) :
    Calls Tryz.prog 38 #[.string s] w fun e w2 => ∃ (m : Bool) (v : Value) (l : List Nat), e = .returned (numV m v) ∧ Below w.heap.size w w2 ∧ OwnL 0 w2 v l ∧ Norm 1000000000 l ∧ valS m (lv 1000000000 l) = valI s.data.toList ∧ l.length ≤ 40 := by
  obtain ⟨h1, h2⟩ := chk_digs h
  rw [bytes_len] at h2
  refine (read_any s (by omega) h1 w).mono ?_
  rintro e w2 ⟨_, rfl, hb, m, v, l, rfl, ho, hn, hv, _⟩
  exact ⟨m, v, l, rfl, hb, ho, hn, hv, fits_limbs hn (by rw [hv]; exact (chk_ok h).2)⟩
theorem LimbAt.of_own {base : Nat} {w : World} {v : Value} {l : List Nat} (h : OwnL base w v l) : LimbAt w.heap.size w v l := SlAt.of_owns h
theorem result_own (m : Bool) (v : Value) (l : List Nat) (base B : Nat) (w : World) (h : OwnL base w v l) (hn : Norm 1000000000 l) (hl : l.length ≤ 100000) (hT : P10 B w) (hB : B ≤ w.heap.size) :
    Calls Tryz.prog 39 #[numV m v] w (Ret w (pairV (resS (valS m (lv 1000000000 l))) (resE (valS m (lv 1000000000 l))))) :=
  result_any m v l w.heap.size w (.of_own h) (Nat.le_refl _) hn hl (hT.mono hB)
theorem pow18 : (10 : Nat) ^ 18 = 1000000000000000000 := by decide
theorem resS_small {z : Int} (h : z.natAbs < 10 ^ 40) : resS z = Lib.itoa z ∧ resE z = 0 := by
  have : fits z := fits_small (n := 40) (by rw [most_eq]; omega) h
  exact ⟨if_pos this, if_pos this⟩
set_option maxRecDepth 100000 in
set_option maxHeartbeats 2000000 in
theorem Add_any (s t : ByteArray) (B : Nat) (w : World) (hs : s.size ≤ 1000000) (ht : t.size ≤ 1000000) (hB : B ≤ w.heap.size) (hT : P10 B w) :
    Calls Tryz.prog 26 #[.string s, .string t] w (Ret w (pairV (op2S (· + ·) s.data.toList t.data.toList) (op2E (· + ·) s.data.toList t.data.toList))) := by
  have H1 := hide (both_any s t hs ht w)
  have HT := hide hT
  by_cases hE : bothI s.data.toList t.data.toList = 0
  · obtain ⟨c1, c2, e1, e2⟩ := op2_good (f := (· + ·)) hE
    rw [e1, e2]
    have C1 := hide c1; have C2 := hide c2
    rw [hE] at H1
    clear e1 e2 hE hT hs ht
    by_cases hsm : s.size ≤ 18 ∧ t.size ≤ 18
    · have H2 := hide (fun w => small_yes s t c1 c2 hsm.1 hsm.2 w)
      have v1 := short_val (n := 18) c1 (by rw [bytes_len]; exact hsm.1) (by omega)
      have v2 := short_val (n := 18) c2 (by rw [bytes_len]; exact hsm.2) (by omega)
      rw [pow18] at v1 v2
      obtain ⟨x, hx⟩ : ∃ x, x = valI s.data.toList := ⟨_, rfl⟩
      obtain ⟨y, hy⟩ : ∃ y, y = valI t.data.toList := ⟨_, rfl⟩
      rw [← hx, ← hy] at H2 ⊢
      rw [← hx] at v1
      rw [← hy] at v2
      obtain ⟨z, hz⟩ : ∃ z, z = x + y := ⟨_, rfl⟩
      have hw : IntKind.i64.wrap (x + y) = z := by rw [hz]; exact IntWalk.i64_in _ (by omega)
      obtain ⟨e3, e4⟩ := resS_small (z := z) (Nat.lt_of_lt_of_le (m := 10 ^ 19) (by omega) (Nat.pow_le_pow_right (by omega) (by omega)))
      have hz1 : -9223372036854775808 ≤ z := by omega
      have hz2 : z ≤ 9223372036854775807 := by omega
      show Calls _ _ _ _ (Ret w (pairV (resS (x + y)) (resE (x + y))))
      rw [← hz, e3, e4]
      clear c1 c2 hsm hx hy hz e3 e4
      go_enter Tryz.func26, Tryz.ntmps26
      go_wp2_with fail
      refine H1.out.mono ?_
      rintro e w1 ⟨rfl, hb1⟩
      have HB1 := hide hb1
      clear hb1 H1
      go_wp2_with fail
      refine (H2.out _).mono ?_
      rintro e w2 ⟨rfl, hb2⟩
      have HB2 := hide (HB1.out.trans (hb2.mono HB1.out.size))
      clear hb2 H2 HB1
      go_wp2_with fail
      refine (itoa_any z hz1 hz2 B w2 (HT.out.on HB2.out hB)).mono ?_
      rintro e w3 ⟨rfl, hb3⟩
      have HB3 := hide (HB2.out.trans (hb3.mono HB2.out.size))
      clear hb3 HB2
      go_wp2_with fail
      refine bodyPost_ret (results_tmp2 rfl _ _ _) rfl ?_
      exact ⟨rfl, HB3.out⟩
    · have H2 := hide (fun w => small_no s t hsm w)
      have R1 := hide (fun w => read_good s c1 w)
      have R2 := hide (fun w => read_good t c2 w)
      clear c1 c2 hsm
      go_enter Tryz.func26, Tryz.ntmps26
      go_wp2_with fail
      refine H1.out.mono ?_
      rintro e w1 ⟨rfl, hb1⟩
      have HB1 := hide hb1
      clear hb1 H1
      go_wp2_with fail
      refine (H2.out _).mono ?_
      rintro e w2 ⟨rfl, hb2⟩
      have HB2 := hide (HB1.out.trans (hb2.mono HB1.out.size))
      clear hb2 H2 HB1
      go_wp2_with fail
      refine (R1.out _).mono ?_
      rintro e w3 ⟨m1, a1, l1, rfl, hb3, o1, n1, q1, k1⟩
      have HB3 := hide (HB2.out.trans (hb3.mono HB2.out.size))
      have O1 := hide o1; have N1 := hide n1; have Q1 := hide q1
      clear hb3 HB2 R1 o1 n1 q1
      go_wp2_with fail
      refine (R2.out _).mono ?_
      rintro e w4 ⟨m2, a2, l2, rfl, hb4, o2, n2, q2, k2⟩
      have HB4 := hide (HB3.out.trans (hb4.mono HB3.out.size))
      have O1' := hide (O1.out.keep hb4)
      have O2 := hide o2; have N2 := hide n2; have Q2 := hide q2
      clear hb4 HB3 R2 o2 n2 q2 O1
      go_wp2_with fail
      refine (add_any m1 m2 a1 a2 l1 l2 w4.heap.size w4 (.of_own O1'.out) (.of_own O2.out) (Nat.le_refl _) N1.out N2.out (by omega) (by omega)).mono ?_
      rintro e w5 ⟨_, rfl, hb5, m3, a3, l3, rfl, o3, n3, q3, k3⟩
      have HB5 := hide (HB4.out.trans (hb5.mono HB4.out.size))
      have O3 := hide o3; have N3 := hide n3
      rw [Q1.out, Q2.out] at q3
      have Q3 := hide q3
      clear hb5 HB4 O1' O2 N1 N2 Q1 Q2 o3 n3 q3
      go_wp2_with fail
      refine (result_own m3 a3 l3 0 B w5 O3.out N3.out (by omega) (HT.out.on HB5.out hB) (Nat.le_trans hB HB5.out.size)).mono ?_
      rintro e w6 ⟨rfl, hb6⟩
      rw [Q3.out]
      have HB6 := hide (HB5.out.trans (hb6.mono HB5.out.size))
      clear hb6 HB5
      go_wp2_with fail
      refine bodyPost_ret (results_tmp2 rfl _ _ _) rfl ?_
      exact ⟨rfl, HB6.out⟩
  · obtain ⟨e1, e2⟩ := op2_bad (f := (· + ·)) hE
    rw [e1, e2]
    have hne : (bothI s.data.toList t.data.toList != 0) = true := by simpa using hE
    obtain ⟨E, hEE⟩ : ∃ E, E = bothI s.data.toList t.data.toList := ⟨_, rfl⟩
    rw [← hEE] at H1 hne ⊢
    clear e1 e2 hE hEE hT
    go_enter Tryz.func26, Tryz.ntmps26
    go_wp2_with fail
    refine H1.out.mono ?_
    rintro e w1 ⟨rfl, hb1⟩
    have HB1 := hide hb1
    clear hb1 H1
    go_wp2_with fail
    refine bodyPost_ret (results_tmp2 rfl _ _ _) rfl ?_
    exact ⟨rfl, HB1.out⟩
end Go.Proofs.YthkioajalhglfaaGreatDoor
namespace Go.Proofs.YthkioajalhglfaaGreatDoor
open Go.RowKit Go.KP Go.KI Go.Shelf
attribute [local go_sem] Oper.semAt_some

set_option maxRecDepth 100000 in
set_option maxHeartbeats 8000000 in
theorem divide_any (va vb : Value) (x y : List Nat) (B : Nat) (w : World) (ha : LimbAt B w va x) (hb : LimbAt B w vb y) (hB : B ≤ w.heap.size) (hx : Norm 1000000000 x) (hy : Norm 1000000000 y) (hy0 : y ≠ []) (lx : x.length ≤ 90000) (ly : y.length ≤ 90000) :
    Calls Tryz.prog 46 #[va, vb] w (DivRes x y w) := by
  obtain ⟨a0, c0, hva⟩ := ha.form
  obtain ⟨a1, c1, hvb⟩ := hb.form
  subst hva; subst hvb
  have HA := hide ha; have HB := hide hb; have HX := hide hx; have HY := hide hy
  obtain ⟨g1, o1, hv1, hcy⟩ : ∃ g o, a1 = some ⟨g, o, none⟩ ∧ g < B ∧ ∀ i, i < y.length → w.cell? ⟨g, o + i, none⟩ = some (.int .i64 (lat y i)) := by
    rcases hb.cases with ⟨_, _, _, hnil⟩ | ⟨g, o, cap, hv, hg, hc⟩
    · exact absurd hnil hy0
    · injection hv with hv1 hv2 hv3
      exact ⟨g, o, hv1, hg, hc⟩
  subst hv1
  have hly : 1 ≤ y.length := List.length_pos_iff.2 hy0
  have hyp : 1 ≤ lv 1000000000 y := by
    have h1 := hy.ge hy0
    have h2 : 0 < 1000000000 ^ (y.length - 1) := Nat.pow_pos (by omega)
    omega
  have HCY := hide hcy
  obtain ⟨b0, hs0, hB0⟩ := heap1 w (.cells #[.slice none 0 0] 46)
  have HC := hide (compare_any (.slice a0 x.length c0) (.slice (some ⟨g1, o1, none⟩) y.length c1) x y B (w.alloc (.cells #[.slice none 0 0] 46)) (ha.below hB0 hB) (hb.below hB0 hB) (by omega) hx hy (by omega) (by omega))
  clear ha hb hx hy hcy
  refine (callsIn_wide (n := 0)).1 ?_
  refine callsIn_of_wp_marks Tryz.func46 rfl trivial ?_ rfl
  simp only [Tryz.ntmps46, List.size_toArray, List.length_cons, List.length_nil, Nat.reduceAdd, Nat.reduceSub, Array.replicate_succ, Array.replicate_zero, List.push_toArray, List.append_toArray, List.nil_append, List.cons_append]
  have H0 := hide b0; have HB0 := hide hB0
  clear b0 hB0
  gi_wp2_with fail
  refine ⟨trivial, rfl, (callsIn_wide.2 HC.out).mono ?_⟩
  rintro e w1 ⟨rc, rfl, hcr, hb1⟩
  have E0 := hide (below_blk hb1 H0.out (by omega))
  have B1 := hide (HB0.out.trans (hb1.mono (by omega)))
  have hs1 : w.heap.size + 1 ≤ w1.heap.size := by have := hb1.size; omega
  clear hb1 HC H0 HB0 hs0
  by_cases hlt : lv 1000000000 x < lv 1000000000 y
  · have hr : rc < 0 := hcr.1.2 hlt
    have HLT := hide hlt
    have c0' := cell_blk E0.out 0
    have f0' := froz_blk E0.out 0
    clear hcr hlt
    gi_wp2_with fail
    have hc := cell_blk (Boxed.set (.slice none 0 0) E0.out) 0
    refine ⟨.tuple #[.slice none 0 0, .slice a0 x.length c0], by simp [results, go_sem, hc], .slice none 0 0, .slice a0 x.length c0, [], x, rfl, B1.out.setCell (p := ⟨w.heap.size, 0, none⟩) (by simp) _, LimbAt.nil _ _, ?_, Norm.nil _, HX.out, ?_, ?_, Nat.zero_le _, Nat.le_refl _⟩
    · exact ((HA.out.below B1.out hB).below ((Below.refl w.heap.size w1).setCell (p := ⟨w.heap.size, 0, none⟩) (by simp) _) hB).mono (by rw [setCell_size]; have := B1.out.size; omega)
    · rw [Nat.div_eq_of_lt HLT.out]; rfl
    · rw [Nat.mod_eq_of_lt HLT.out]
  · have hr : (rc < 0) = False := eq_false (fun h => hlt (hcr.1.1 h))
    have HLE := hide (Nat.le_of_not_lt hlt)
    clear hcr hlt
    by_cases h1 : y.length = 1
    · have hq : ((y.length : Int) == 1) = true := by rw [h1]; rfl
      have hyd : y = [lat y 0] := by
        match y, h1 with
        | [z], _ => rfl
      have hd := lat_lt (b := 1000000000) (by omega) HY.out.lt 0
      have hd1 : 1 ≤ lat y 0 := by
        have := HY.out.top.resolve_left hy0
        rw [h1] at this
        have : lat y 0 ≠ 0 := this
        omega
      have qc : w1.cell? ⟨g1, o1, none⟩ = some (.int .i64 (lat y 0)) := by
        have := (HB.out.below B1.out hB).cases
        have h2 := HCY.out.2 0 (by omega)
        rw [Nat.add_zero] at h2
        exact (B1.out.cell (p := ⟨g1, o1, none⟩) (by have := HCY.out.1; simp; omega)).trans h2
      have HS := hide (divideShort_any (.slice a0 x.length c0) x (lat y 0) B w1 (HA.out.below B1.out hB) (by omega) HX.out.lt (by omega) hd1 hd)
      rw [← hyd] at HS
      have hl1 : (0 : Int) < (y.length : Int) := by omega
      obtain ⟨d, hd2⟩ : ∃ d, d = lat y 0 := ⟨_, rfl⟩
      rw [← hd2] at qc HS hd hd1
      clear hyd hd2 h1
      gi_wp2_with fail
      refine ⟨trivial, rfl, (callsIn_wide.2 HS.out).mono ?_⟩
      rintro e w2 ⟨vq, vr, q, r, rfl, hb2, o1', o2', n1, n2, v1, v2, l1, l2⟩
      obtain ⟨aq, cq, hvf, _, _⟩ := o1'.form
      subst hvf
      obtain ⟨ar, cr, hvf, _, _⟩ := o2'.form
      subst hvf
      have E2 := hide (below_blk hb2 E0.out (by omega))
      have B2 := hide (B1.out.trans (hb2.mono (by omega)))
      have O1 := hide o1'; have O2 := hide o2'; have N1 := hide n1; have N2 := hide n2; have V1 := hide v1; have V2 := hide v2
      have hs2 : w.heap.size < w2.heap.size := by have := hb2.size; omega
      clear hb2 o1' o2' n1 n2 v1 v2 E0 B1
      have c0' := cell_blk E2.out 0
      have f0' := froz_blk E2.out 0
      gi_wp2_with fail
      have hc := cell_blk (Boxed.set (.slice aq q.length cq) E2.out) 0
      refine ⟨.tuple #[.slice aq q.length cq, .slice ar r.length cr], by simp [results, go_sem, hc], _, _, q, r, rfl, B2.out.setCell (p := ⟨w.heap.size, 0, none⟩) (by simp) _, LimbAt.of_own (O1.out.other (p := ⟨w.heap.size, 0, none⟩) (by simp; omega) _), LimbAt.of_own (O2.out.other (p := ⟨w.heap.size, 0, none⟩) (by simp; omega) _), N1.out, N2.out, V1.out, V2.out, l1, l2⟩
    · obtain ⟨m, hm⟩ : ∃ m, y.length = m + 2 := ⟨y.length - 2, by omega⟩
      have hq : ((y.length : Int) == 1) = false := by
        have : (y.length : Int) ≠ 1 := by omega
        simpa using this
      obtain ⟨b, hbb⟩ : ∃ b, b = m + 1 := ⟨_, rfl⟩
      have e3 : (y.length : Int) - 1 = (b : Int) := by omega
      have hbl : (b : Int) < (y.length : Int) := by omega
      have ht := lat_lt (b := 1000000000) (by omega) HY.out.lt b
      have ht1 : 1 ≤ lat y b := by
        have := HY.out.top.resolve_left hy0
        rw [hm, show m + 2 - 1 = b by omega] at this
        omega
      have qc : w1.cell? ⟨g1, o1 + b, none⟩ = some (.int .i64 (lat y b)) :=
        (B1.out.cell (p := ⟨g1, o1 + b, none⟩) (by have := HCY.out.1; simp; omega)).trans (HCY.out.2 b (by omega))
      obtain ⟨t, ht2⟩ : ∃ t, t = lat y b := ⟨_, rfl⟩
      rw [← ht2] at ht ht1 qc
      obtain ⟨f, hf, hf1, hf2, hf0, -⟩ := factor_nums ht1 ht
      have hti : (t : Int) < 1000000000 := by omega
      have HM := hide hm; have HBB := hide hbb
      obtain ⟨i0, hi0, hz0, hz1, hz2⟩ := info_parts info3
      obtain ⟨n0, ns, nb⟩ := heap1 w1 (rowO [f])
      obtain ⟨w2, hw2⟩ : ∃ w2, w1.alloc (.cells #[.int .i64 f] 3) = w2 := ⟨_, rfl⟩
      rw [show w1.alloc (rowO [f]) = w2 from hw2] at n0 ns nb
      have B2 := hide (B1.out.trans (nb.mono (by omega)))
      have E2 := hide (below_blk nb E0.out (by omega))
      have hF : Lt 1000000000 [f] := fun z hz => by
        simp only [List.mem_singleton] at hz
        omega
      have HT1 := hide (times_any (.slice a0 x.length c0) (.slice (some ⟨w1.heap.size, 0, none⟩) 1 1) x [f] w2.heap.size w2 ((HA.out.below B2.out hB).mono (by omega)) (row_limbs n0 (by unfold maxLen; simp)) (Nat.le_refl _) HX.out.lt hF (by omega) (by simp))
      have hs2 : w1.heap.size < w2.heap.size := by omega
      clear ht2 hm hbb h1 n0 ns nb
      gi_wp2_with fail
      rw [hf]
      refine ⟨trivial, rfl, (callsIn_wide.2 HT1.out).mono ?_⟩
      rintro e w3 ⟨u0, ⟨vu, rfl, hb3, ou⟩, nu, lu, ku⟩
      obtain ⟨au, cu0, hvf, hcu, _⟩ := ou.form
      subst hvf
      have hs3 : w2.heap.size ≤ w3.heap.size := hb3.size
      have B3 := hide (B2.out.trans (hb3.mono B2.out.size))
      have E3 := hide (below_blk hb3 E2.out (by omega))
      have OU := hide ou; have NU := hide nu; have LU := hide lu
      have hku : u0.length ≤ 90002 := by simpa using Nat.le_trans ku (by simp; omega)
      clear hb3 ou nu lu ku HT1 hw2 B2 E2 qc
      have HOU := hide (show (w3.alloc (.cells #[.int .i64 0] 3)).ownsRow w2.heap.size 3 1 (.slice au u0.length cu0) u0.length (icells u0) from World.ownsRow.alloc OU.out _)
      have HNU := hide (show ∀ j u, ([.int .i64 0] : List Value)[j]? = some u → (w3.alloc (.cells #[.int .i64 0] 3)).cell? ((⟨w3.heap.size, 0, none⟩ : Addr).add j) = some u from World.news_of_block (cs := #[.int .i64 0]) (t := 3) (fr := (0, 0)) (heap_alloc_new w3 _))
      have hz3 : (w3.alloc (.cells #[.int .i64 0] 3)).heap.size = w3.heap.size + 1 := by simp
      gi_wp2_with (gi_at_builtin; go_must (refine wpListIn_append_own _ rfl (.tmp 37) (.tmp 38) 46 rfl w2.heap.size 3 i0 _ 1 8 Tryz.underlying46 hi0 hz0 hz1 hz2 rfl (by decide) (.slice au u0.length cu0) _ _ rfl HOU.out ⟨w3.heap.size, 0, none⟩ 1 1 [.int .i64 0] rfl rfl HNU.out (by simp [Value.oneCell']) (by simp only [maxLen]; omega) (by omega) (by simp; omega) ?_); intro v4 w4 hown hg4 hiff; clear hiff; have OV := hide hown; have HG4 := hide hg4; clear hown hg4)
      have hb4 : Below w2.heap.size w3 w4 := ((Below.refl w2.heap.size w3).alloc hs3 _).grown HG4.out (by rw [hz3]; omega) (owns_ge OU.out (Nat.le_refl _))
      have E4 := hide (below_blk hb4 E3.out (by omega))
      have B4 := hide (B3.out.trans (hb4.mono (show w.heap.size ≤ w2.heap.size by omega)))
      obtain ⟨N, hN⟩ : ∃ N, N = (u0 ++ [0]).length := ⟨_, rfl⟩
      obtain ⟨gu, cu, hv4, hgu, ru⟩ := OwnL.row (base := w2.heap.size) (w := w4) (v := v4) (L := u0 ++ [0]) (by
        have h := OV.out
        unfold OwnL
        rw [List.length_append, icells_append]
        exact h) (by simp)
      subst hv4
      rw [← hN]
      have hN2 : N = u0.length + 1 := by rw [hN]; simp
      have RU := hide ru
      have hgl := ru.lt
      have hs4 : w2.heap.size ≤ w4.heap.size := by have := hb4.size; omega
      clear hb4 ru HOU HNU HG4 E3 B3 OV OU hz3 hN hi0 hz0 hz1 hz2
      obtain ⟨n1, ns1, nb1⟩ := heap1 w4 (rowO [f])
      obtain ⟨w5, hw5⟩ : ∃ w5, w4.alloc (.cells #[.int .i64 f] 3) = w5 := ⟨_, rfl⟩
      rw [show w4.alloc (rowO [f]) = w5 from hw5] at n1 ns1 nb1
      rw [hw5]
      have B5 := hide (B4.out.trans (nb1.mono (by omega)))
      have E5 := hide (below_blk nb1 E4.out (by omega))
      have R5 := hide (RU.out.below nb1 hgl)
      have HT2 := hide (times_any (.slice (some ⟨g1, o1, none⟩) y.length c1) (.slice (some ⟨w4.heap.size, 0, none⟩) 1 1) y [f] w5.heap.size w5 ((HB.out.below B5.out hB).mono (by omega)) (row_limbs n1 (by unfold maxLen; simp)) (Nat.le_refl _) HY.out.lt hF (by omega) (by simp))
      clear n1 nb1 hw5 B4 E4 RU
      refine ⟨trivial, rfl, (callsIn_wide.2 HT2.out).mono ?_⟩
      rintro e w6 ⟨v0, ⟨vv, rfl, hb6, ov⟩, nv, lv', kv⟩
      have hfl : lv 1000000000 [f] = f := by simp [lv]
      have LU2 := LU.out
      rw [hfl] at LU2 lv'
      obtain ⟨k1, k2, k3, hst⟩ := long_start HX.out HY.out NU.out nv hf1 LU2 lv' HLE.out (by rw [HM.out]; omega)
      obtain ⟨n, hn⟩ : ∃ n, n = v0.length := ⟨_, rfl⟩
      obtain ⟨gv, cv, hvv, hgv, rv⟩ := OwnL.row ov (fun e => by rw [e] at k1; simp at k1)
      subst hvv
      rw [← hn] at k1 k2 hst ⊢
      rw [← hN2] at hst
      obtain ⟨M, hM⟩ : ∃ M, M = N - n := ⟨_, rfl⟩
      rw [← hM] at hst
      have hMi : (N : Int) - (n : Int) = (M : Int) := by omega
      have hmk := make_ints M (by omega)
      have ST := hide hst
      have B6 := hide (B5.out.trans (hb6.mono (by omega)))
      have E6 := hide (below_blk hb6 E5.out (by omega))
      have R6 := hide (R5.out.below hb6 (by omega)); have V6 := hide rv
      have hs6 : w5.heap.size ≤ w6.heap.size := hb6.size
      have hgvl := rv.lt
      have NV := hide nv; have LV := hide lv'; have HN := hide hn; have HMM := hide hM
      have hn0 : n ≤ 180000 := by omega
      clear hb6 ov nv lv' kv hst rv HT2 B5 E5 R5 hn hM LU2 hfl
      have hcl : ((N : Int) < (x.length : Int) + 1) = False := eq_false (by omega)
      have hMu : M + n = N := by omega
      have hMl : (M : Int) ≤ 200000 := by omega
      have HMU := hide hMu
      have hNl : N ≤ 90003 := by omega
      have HN2 := hide hN2
      clear hN2 k3 k2 hMu
      have k2 : n ≤ N := by have := HMM.out; have := HN2.out; have := hMi; omega
      obtain ⟨p0, p1, ps, pb⟩ := heap2 w6 (.cells #[.slice (some ⟨gu, 0, none⟩) N cu] 46) (.cells #[.slice (some ⟨gv, 0, none⟩) n cv] 46)
      obtain ⟨w7, hw7⟩ : ∃ w7, (w6.alloc (.cells #[.slice (some ⟨gu, 0, none⟩) N cu] 46)).alloc (.cells #[.slice (some ⟨gv, 0, none⟩) n cv] 46) = w7 := ⟨_, rfl⟩
      rw [hw7] at p0 p1 ps pb
      have B7 := hide (B6.out.trans (pb.mono (by omega)))
      have E7 := hide (below_blk pb E6.out (by omega))
      have R7 := hide (R6.out.below pb (by omega)); have V7 := hide (V6.out.below pb hgvl)
      have U7 := hide p0; have W7 := hide p1
      have c7 := cell_blk p0 0
      have c8 := cell_blk p1 0
      clear pb B6 E6 R6 V6 p0 p1
      gi_wp2_with fail
      clear hw7
      have e4 := cell_blk E7.out 0
      have q4 := froz_blk E7.out 0
      have HS7 := hide (show w7.heap.size = w6.heap.size + 2 by omega)
      have hs7 : w6.heap.size + 2 ≤ w7.heap.size := by omega
      have hz7 : w.heap.size < w7.heap.size := by omega
      have hz6 : w6.heap.size < w7.heap.size := by omega
      have hz61 : w6.heap.size + 1 < w7.heap.size := by omega
      clear ps
      gi_loopw [] (fun wr => wr = w7) (fun _ => 0)
      case atStart => rfl
      case round =>
        subst hrel
        gi_wp2_with fail
        clear c7 c8 e4 q4 hmk
        rw [HS7.out]
        obtain ⟨h7, hh7⟩ : ∃ h, h = w6.heap.size := ⟨_, rfl⟩
        have IX := hide (show DvIx w.heap.size gu gv w6.heap.size from ⟨by omega, by omega, hgvl⟩)
        have hzs : (wr.setCell ⟨w.heap.size, 0, none⟩ (.slice (some ⟨w6.heap.size + 2, 0, none⟩) M M)).heap.size = wr.heap.size := setCell_size _ _ _
        obtain ⟨y0, ys0, yb0⟩ := heap1 (wr.setCell ⟨w.heap.size, 0, none⟩ (.slice (some ⟨w6.heap.size + 2, 0, none⟩) M M)) (rowO (zeros M))
        obtain ⟨y1, ys1, yb1⟩ := heap1 ((wr.setCell ⟨w.heap.size, 0, none⟩ (.slice (some ⟨w6.heap.size + 2, 0, none⟩) M M)).alloc (rowO (zeros M))) (.cells #[.slice (some ⟨w6.heap.size + 2, 0, none⟩) M M] 46)
        rw [hzs] at y0 ys0 yb0
        rw [ys0] at y1 ys1 yb1
        rw [HS7.out] at y0 y1
        have yb := (yb0.trans (yb1.mono (by omega)))
        refine ⟨trivial, rfl, (callsIn_wide.2 (backward_any (some ⟨w6.heap.size + 2, 0, none⟩) M M _)).mono ?_⟩
        rintro e w9 ⟨rfl, hw9⟩
        rw [hw9] at y1 ys1 yb1 yb
        have hlt7 : ∀ {i : Nat}, i < wr.heap.size → i ≠ w.heap.size → w9.heap[i]? = wr.heap[i]? := fun {i} h1 h2 => (yb.block i h1).trans (setCell_other (Ne.symm h2))
        have DS := hide (show DvSt w gu cu gv cv w6.heap.size N n M (u0 ++ [0]) v0 (zeros M) w9 from
          ⟨(yb.block _ (by omega)).trans (Boxed.set _ E7.out), (hlt7 hz6 (by omega)).trans U7.out, (hlt7 hz61 (by omega)).trans W7.out, y1, R7.out.of_eq (hlt7 (by omega) (by omega)), V7.out.of_eq (hlt7 (by omega) (by omega)),
            (yb1.block _ (by omega)).trans y0, (B7.out.setCell (p := ⟨w.heap.size, 0, none⟩) (by simp) _).trans (yb.mono (by omega))⟩)
        have hs9 : w6.heap.size + 4 ≤ w9.heap.size := by have := HS7.out; omega
        have HS9 := hide (show w9.heap.size = w6.heap.size + 4 by have := HS7.out; omega)
        clear y0 ys0 yb0 y1 ys1 yb1 yb hlt7 hzs
        gi_wp2_with fail
        clear hw9
        rw [HS7.out]
        refine wp_iter_on (gf := 102) (lb := #[.pointer (some ⟨w6.heap.size + 2 + 1, 0, none⟩)]) rfl (enters_of Tryz.func102 (by kernel_rfl) rfl) (backSeq_any (w6.heap.size + 2 + 1) M M (some ⟨w6.heap.size + 2, 0, none⟩) (fun _ => 0) (by omega)) (fun _ => rfl)
          (fun k S W => S = (fun _ => False) ∧ ∃ L Q, LongAt (lv 1000000000 u0) v0 N M k L Q ∧ DvSt w gu cu gv cv w6.heap.size N n M L v0 Q W)
          (fun _ _ _ => False) ?hI (fun _ _ _ _ h _ => h) ?h0 ?hke
          (fun k S a1' W => a1' = { tmps := #[.slice a0 x.length c0, .slice (some ⟨g1, o1, none⟩) y.length c1, undef, undef, .pointer (some ⟨w.heap.size, 0, none⟩), .slice none 0 0, .int .i64 f, .pointer (some ⟨w6.heap.size, 0, none⟩), .pointer (some ⟨w6.heap.size + 1, 0, none⟩), .int .i64 ((M : Int) - 1 - k), undef, .slice a0 x.length c0, .slice (some ⟨g1, o1, none⟩) y.length c1, .int .i64 rc, .bool false, undef, .slice (some ⟨g1, o1, none⟩) y.length c1, .int .i64 y.length, .bool false, undef, undef, undef, undef, undef, undef, undef, .slice (some ⟨g1, o1, none⟩) y.length c1, .slice (some ⟨g1, o1, none⟩) y.length c1, .int .i64 y.length, .int .i64 b, .pointer (some ⟨g1, o1 + b, none⟩), .int .i64 t, .int .i64 ((t : Int) + 1), .int .i64 f, .slice a0 x.length c0, .int .i64 f, .slice (some ⟨w1.heap.size, 0, none⟩) 1 1, .slice au u0.length cu0, .slice (some ⟨w3.heap.size, 0, none⟩) 1 1, .slice (some ⟨gu, 0, none⟩) N cu, .slice (some ⟨g1, o1, none⟩) y.length c1, .int .i64 f, .slice (some ⟨w4.heap.size, 0, none⟩) 1 1, .slice (some ⟨gv, 0, none⟩) n cv, .slice (some ⟨gu, 0, none⟩) N cu, .int .i64 N, .slice a0 x.length c0, .int .i64 x.length, .int .i64 ((x.length : Int) + 1), .bool false, u50, u51, u52, .slice (some ⟨gu, 0, none⟩) N cu, .int .i64 N, .slice (some ⟨gv, 0, none⟩) n cv, .int .i64 n, .int .i64 M, .slice (some ⟨w6.heap.size + 2, 0, none⟩) M M, .slice (some ⟨w6.heap.size + 2, 0, none⟩) M M, .func (.func 102) #[] #[.pointer (some ⟨w6.heap.size + 2 + 1, 0, none⟩)], .int .i64 ((M : Int) - 1 - k), .int .i64 0, undef, undef, undef, undef, undef, undef, undef, undef, undef, undef, undef, undef, undef, undef, undef, undef, undef, undef, undef, undef, undef, undef, undef, undef, undef, undef, undef, undef, undef, undef], defers := [] })
          ?hAx ?hassign ?hS ?hbody ?hdone ?hstop
        case hI =>
          rintro k S W W2 ⟨rfl, L, Q, h1, h2⟩ hq
          exact ⟨rfl, L, Q, h1, h2.quiet IX.out hq hs9⟩
        case h0 => exact ⟨rfl, _, _, ST.out, DS.out⟩
        case hke =>
          rintro k S W hk ⟨rfl, L, Q, h1, h2⟩
          refine ⟨h2.bx, fun hlt => ⟨_, _, rfl, ?_⟩⟩
          have h3 := row_cell h2.q (i := M - 1 - k) (by rw [h1.lq]; omega)
          rw [h1.zero _ (by omega)] at h3
          rw [Nat.zero_add]
          exact h3
        case hAx =>
          rintro k S a1' W l r r2 h _
          exact h
        case hassign =>
          intro l k S W K hsz hSlt hK
          gi_wp2
          exact hK _ _ (Quiet.refl _ _ _) (Upd.refl _ _ _) rfl
        case hS =>
          rintro k S W ⟨rfl, _⟩ b hb
          exact hb.elim
        case hstop =>
          intro D c S W _ h
          exact h.elim
        case hbody =>
          rintro l k S a1' W hk ⟨rfl, L, Q, hl, st⟩ rfl hsz
          obtain ⟨j, hj⟩ : ∃ j : Nat, (M : Int) - 1 - (k : Int) = j := ⟨M - 1 - k, by omega⟩
          have hj2 : j = M - 1 - k := by omega
          rw [hj]
          have hnm : ∃ m2, n = m2 + 2 := ⟨n - 2, by omega⟩
          obtain ⟨m2, hnm⟩ := hnm
          have hvm : v0.length = m2 + 2 := by rw [← HN.out]; exact hnm
          have hsm := hl.small
          rw [show M - k = j + 1 by omega] at hsm
          have hMU := HMU.out
          have hjN : j + (m2 + 2) < N := by omega
          have HE := hide (estimate_any gu cu L gv cv v0 j m2 W st.u st.v hl.lt NV.out hvm (by rw [hl.ll]; exact hjN) (by rw [hl.ll]; omega) hsm)
          rw [hl.ll, ← HN.out] at HE
          have hgne : gv ≠ gu := by omega
          have HTk := hide (fun (q : Nat) (W2 : World) (h1 : RowAt W2 gu cu L) (h2 : RowAt W2 gv cv v0) (hq : q < 1000000000) => take_any gu cu L gv cv v0 j q W2 h1 h2 hgne hl.lt NV.out.lt (by rw [hl.ll, ← HN.out]; omega) hq (by rw [hl.ll]; omega))
          have HRs := hide (fun (q : Nat) (M2 : List Nat) (W2 : World) (h1 : RowAt W2 gu cu M2) (h2 : RowAt W2 gv cv v0) (hM2 : Lt 1000000000 M2) (hlen : M2.length = N) (hq : q < 1000000000) => restore_any gu cu M2 gv cv v0 j q W2 h1 h2 hgne hM2 NV.out.lt (by rw [hlen, ← HN.out]; omega) hq (by rw [hlen]; omega))
          rw [hl.ll, ← HN.out] at HTk
          have c7 := cell_blk st.uv 0
          have c8 := cell_blk st.vv 0
          have HL := hide hl; have SS := hide st; have HJ := hide hj2; have HNM := hide hnm; have HVM := hide hvm
          have hz6 : w6.heap.size < W.heap.size := lt_blk st.uv
          clear hl st hj2 hsm hj hvm hMU hnm hMi e3 hf hq hr hcl
          gi_wp2_with fail
          refine ⟨trivial, rfl, (CallsIn.inRound l (callsIn_wide.2 HE.out)).mono ?_⟩
          rintro e W1 ⟨q, rfl, hq, hqs, hbq⟩
          have S1 := hide (SS.out.keep hbq)
          have U1 := hide ((Upd.refl w9.heap.size (fun _ => False) W).of_below hbq (Nat.le_refl _))
          have HQ := hide hqs
          clear hbq hqs c7 c8 HE SS
          gi_wp2_with fail
          have hgw9 : gu < w9.heap.size := by omega
          have hjM : j < M := by have := HJ.out; omega
          have hjMi : (j : Int) < (M : Int) := by omega
          gi_loopw [10] (fun qq wr2 => ∃ q : Nat, qq = .int .i64 q ∧ q < 1000000000 ∧ Hid (lvT 1000000000 (L.drop j) (m2 + 3) < (q + 1) * lv 1000000000 v0 ∧ DvSt w gu cu gv cv w6.heap.size N n M L v0 Q wr2 ∧ Upd w9.heap.size (fun _ => False) (fun _ => False) W wr2)) (fun qq _ => (intOf qq).toNat)
          case atStart => exact ⟨q, rfl, hq, HQ.out, S1.out, U1.out⟩
          case round =>
            clear S1 U1 HQ hq
            obtain ⟨q, rfl, hq, hin⟩ := hrel
            have I1 := hide hin.out.1; have I2 := hide hin.out.2.1; have I3 := hide hin.out.2.2
            have HT := hide (HTk.out q wr I2.out.u I2.out.v hq)
            have c7 := cell_blk I2.out.uv 0
            have c8 := cell_blk I2.out.vv 0
            clear hin
            gi_wp2_with fail
            refine ⟨trivial, rfl, (CallsIn.inRound l (callsIn_wide.2 HT.out)).mono ?_⟩
            rintro e W2 ⟨C, M2, rfl, ho, hr, hM2, hw, he⟩
            have S2 := hide (I2.out.row IX.out ho hr)
            have U2 := hide (Only.upd I3.out ho hgw9)
            rw [HNM.out] at hw he
            have HM2 := hide hM2
            have HW := hide (show WinEq j (m2 + 3) L M2 from hw)
            have HE := hide (show lvT 1000000000 (M2.drop j) (m2 + 3) + q * lv 1000000000 v0 = lvT 1000000000 (L.drop j) (m2 + 3) + 1000000000 ^ (m2 + 3) * C from he)
            clear ho hr hM2 hw he HT c7 c8 I2 I3
            rcases Nat.eq_zero_or_pos C with hC | hC
            · subst hC
              have HSt := hide (HL.out.step NV.out HVM.out (by have := HMU.out; have := HNM.out; omega) hk HJ.out hq HW.out HM2.out (by have := HE.out; rw [Nat.mul_zero, Nat.add_zero] at this; exact this) I1.out)
              have c4 := cell_blk S2.out.qv 0
              have f4 := row_froz S2.out.q j
              have hz8 : w6.heap.size + 2 < W2.heap.size := lt_blk S2.out.q
              have hmq : j < Q.length := by rw [HL.out.lq]; exact hjM
              have c5 := row_cell S2.out.q hmq
              gi_wp2_with fail
              exact ⟨fun _ => False, U2.out.setBox (by simp; omega) _, rfl, M2, Q.set j q, HSt.out, S2.out.quot IX.out j q⟩
            · have hM2l : M2.length = N := HW.out.len.trans HL.out.ll
              have HR := hide (HRs.out q M2 W2 S2.out.u S2.out.v HM2.out hM2l hq)
              rw [hM2l, ← HN.out] at HR
              have hB := lvT_lt (b := 1000000000) (by omega) (lt_drop HM2.out j) (m2 + 3)
              have hge : 1000000000 ^ (m2 + 3) * 1 ≤ 1000000000 ^ (m2 + 3) * C := Nat.mul_le_mul_left _ hC
              have hqV : lvT 1000000000 (L.drop j) (m2 + 3) < q * lv 1000000000 v0 := by have := HE.out; omega
              have hq1 : 1 ≤ q := by
                rcases Nat.eq_zero_or_pos q with h0 | h0
                · rw [h0, Nat.zero_mul] at hqV
                  omega
                · exact h0
              obtain ⟨q2, hq2⟩ : ∃ q2, q = q2 + 1 := ⟨q - 1, by omega⟩
              have HQV := hide (show lvT 1000000000 (L.drop j) (m2 + 3) < (q2 + 1) * lv 1000000000 v0 by rw [← hq2]; exact hqV)
              have hqi : (1 : Int) ≤ (q : Int) := by omega
              have HQ2 := hide hq2
              have w9' : (q : Int) - 1 = (q2 : Int) := by omega
              have hq2l : q2 < q := by omega
              have c7 := cell_blk S2.out.uv 0
              have c8 := cell_blk S2.out.vv 0
              clear hB hge hqV hq1 hq2 hM2l
              gi_wp2_with fail
              refine ⟨trivial, rfl, (CallsIn.inRound l (callsIn_wide.2 HR.out)).mono ?_⟩
              rintro e W3 ⟨C3, R, rfl, ho, hr, hR, hw, he⟩
              rw [HNM.out] at hw he
              have hRL : R = L := win_back (by omega) HL.out.lt hR HW.out hw HE.out he
              subst hRL
              have S3 := hide (S2.out.row IX.out ho hr)
              have U3 := hide (Only.upd U2.out ho hgw9)
              clear ho hr hR hw he c7 c8 HR S2 U2
              have c7 := cell_blk S3.out.uv 0
              have f7 := froz_blk S3.out.uv 0
              have hz8 : w6.heap.size < W3.heap.size := lt_blk S3.out.uv
              gi_wp2_with fail
              go_roundw
              case rel => exact ⟨q2, by first | rfl | rw [w9'], by omega, HQV.out, S3.out.same IX.out, U3.out.setBox (by simp; omega) _⟩
              case measure => simp [intOf]; omega
        case hdone =>
          rintro D S W hD ⟨rfl, L, Q, hl, st⟩ hK
          have HTu := hide (trim_any (some ⟨gu, 0, none⟩) cu L W.heap.size W st.u.limbs (by obtain ⟨_, _, h, _⟩ := st.u; exact h) (by rw [hl.ll]; omega))
          rw [hl.ll] at HTu
          have hLL : LimbAt W.heap.size W (.slice (some ⟨gu, 0, none⟩) (trimTo L N) cu) (trimL L) := by
            have h1 := ((st.u.own (base := 0) (Nat.zero_le _)).cut (k := trimTo L L.length) (trimTo_le _ _)).at_
            unfold trimL
            rw [hl.ll] at h1 ⊢
            exact h1
          have HDS := hide (divideShort_any _ (trimL L) f W.heap.size W hLL (Nat.le_refl _) (trimL_norm hl.lt).lt (by rw [trimL_len]; have := trimTo_le L L.length; rw [hl.ll] at this; rw [hl.ll]; omega) hf1 hf2)
          have HTq := hide (fun (W2 : World) (h : W2.heap[w6.heap.size + 1 + 1]? = some (rowO Q)) => trim_any (some ⟨w6.heap.size + 1 + 1, 0, none⟩) M Q W2.heap.size W2 (by
            have := row_limbs h (by rw [hl.lq]; unfold maxLen; omega)
            rw [hl.lq] at this ⊢
            exact this) (by rw [hl.lq]; exact Nat.le_refl _) (by rw [hl.lq]; omega))
          rw [hl.lq] at HTq
          have hdn := hl.done
          have c7 := cell_blk st.uv 0
          have hKl : D < W.heap.size := lt_blk hK
          have HDN := hide hdn; have SS := hide st; have HK := hide hK; have HQL := hide hl.lq; have HQT := hide hl.qt
          have hsw : w6.heap.size + 2 < W.heap.size := lt_blk st.q
          have hw0 : w.heap.size < w6.heap.size := by omega
          clear hl st hK hLL hdn hMi e3 hf hq hr hcl
          gi_wp2_with fail
          refine ⟨trivial, rfl, (callsIn_wide.2 HTu.out).mono ?_⟩
          rintro e W1 ⟨rfl, rfl⟩
          gi_wp2_with fail
          refine ⟨trivial, rfl, (callsIn_wide.2 HDS.out).mono ?_⟩
          rintro e W2 ⟨vq, vr, q, r, rfl, hb2, oq, or_, nq, nr, eq, er, lq, lr⟩
          obtain ⟨aq, cq, hvf, _, _⟩ := oq.form
          subst hvf
          have S2 := hide (SS.out.keep hb2)
          have K2 := hide (below_blk hb2 HK.out hKl)
          have OQ := hide oq; have NQ := hide nq; have EQ := hide eq
          have hsw2 : W.heap.size ≤ W2.heap.size := hb2.size
          clear hb2 oq or_ nq nr eq er c7 HTu HDS SS HK lr
          have c4 := cell_blk S2.out.qv 0
          have f4 := froz_blk S2.out.qv 0
          have hz8 : w.heap.size < W2.heap.size := lt_blk S2.out.qv
          have HTq2 := hide (HTq.out W2 S2.out.q)
          gi_wp2_with fail
          refine ⟨trivial, rfl, (callsIn_wide.2 HTq2.out).mono ?_⟩
          rintro e W3 ⟨rfl, rfl⟩
          gi_wp2_with fail
          obtain ⟨Wf, hWf⟩ : ∃ Wf, Wf = W2.setCell ⟨w.heap.size, 0, none⟩ (.slice (some ⟨w6.heap.size + 1 + 1, 0, none⟩) (trimTo Q M) M) := ⟨_, rfl⟩
          rw [← hWf]
          have E1 : Wf.heap[w.heap.size]? = some (.cells #[.slice (some ⟨w6.heap.size + 1 + 1, 0, none⟩) (trimTo Q M) M] 46 (0, 0)) := by
            rw [hWf]; exact Boxed.set _ S2.out.qv
          have ED : Wf.heap[D]? = some (.deferred (some [])) := by
            rw [hWf]; exact (setCell_other (by omega)).trans K2.out
          have EQ2 : Wf.heap[w6.heap.size + 1 + 1]? = some (rowO Q) := by
            rw [hWf]; exact (setCell_other (by omega)).trans S2.out.q
          have EB : Below w.heap.size w Wf := by
            rw [hWf]; exact S2.out.below.setCell (p := ⟨w.heap.size, 0, none⟩) (by simp) _
          have EO : OwnL W.heap.size Wf (.slice aq q.length cq) q := by
            rw [hWf]; exact OQ.out.other (p := ⟨w.heap.size, 0, none⟩) (by simp; omega) _
          clear hWf
          refine ⟨by simp, .inl ⟨_, _, rfl, run_takeDeferred ED, ?_⟩⟩
          have F1 : (Wf.putObj D (.deferred none)).heap[w.heap.size]? = some (.cells #[.slice (some ⟨w6.heap.size + 1 + 1, 0, none⟩) (trimTo Q M) M] 46 (0, 0)) := (World.putObj_heap_other (by omega)).trans E1
          have F2 : (Wf.putObj D (.deferred none)).heap[w6.heap.size + 1 + 1]? = some (rowO Q) := (World.putObj_heap_other (by omega)).trans EQ2
          have hc := cell_blk F1 0
          have hfin : lv 1000000000 Q = lv 1000000000 x / lv 1000000000 y ∧ lv 1000000000 L / f = lv 1000000000 x % lv 1000000000 y := by
            have h1 := HDN.out; have h2 := LU.out; have h3 := LV.out
            rw [show lv 1000000000 [f] = f by simp [lv]] at h2
            rw [h2, h3] at h1
            exact rem_back hf1 h1.1 h1.2
          have hq1 : lv 1000000000 q = lv 1000000000 x % lv 1000000000 y := by
            rw [EQ.out, trimL_lv, show lv 1000000000 [f] = f by simp [lv]]
            exact hfin.2
          have hQ1 : lv 1000000000 (trimL Q) = lv 1000000000 x / lv 1000000000 y := by rw [trimL_lv]; exact hfin.1
          refine ⟨.tuple #[.slice (some ⟨w6.heap.size + 1 + 1, 0, none⟩) (trimTo Q M) M, .slice aq q.length cq], by simp [results, go_sem, hc], _, _, trimL Q, q, rfl, EB.trans (belowK_b (w := w) (Nat.le_refl _) _ D _ _ (by omega) ED rfl rfl), ?_, ?_, trimL_norm HQT.out, NQ.out, hQ1, hq1, ?_, ?_⟩
          · have h1 := (row_owns (base := 0) F2 (Nat.zero_le _) (by rw [HQL.out]; unfold maxLen; omega)).cut (k := trimTo Q Q.length) (trimTo_le _ _)
            have h2 := LimbAt.of_own h1
            unfold trimL
            rw [HQL.out] at h2 ⊢
            exact h2
          · exact LimbAt.of_own (owns_stay EO (fun r hr => World.putObj_heap_other (by have := owns_ge EO (Nat.le_refl _) r hr; omega)))
          · exact norm_le (trimL_norm HQT.out) HX.out.lt (by rw [hQ1]; exact Nat.div_le_self _ _)
          · exact norm_le NQ.out HX.out.lt (by rw [hq1]; exact Nat.mod_le _ _)
end Go.Proofs.YthkioajalhglfaaGreatDoor
namespace Go.Proofs.YthkioajalhglfaaGreatDoor
open Go.RowKit Go.KP Go.KI Go.Shelf
attribute [local go_sem] Oper.semAt_some

theorem set1 {w : World} {b : Nat} {u0 u1 : Value} {t : TypeId} (h : w.heap[b]? = some (.cells #[u0, u1] t (0, 0))) (v0 : Value) :
    (w.setCell ⟨b, 0, none⟩ v0).heap[b]? = some (.cells #[v0, u1] t (0, 0)) ∧ Below b w (w.setCell ⟨b, 0, none⟩ v0) := by
  refine ⟨?_, (Below.refl b w).setCell (p := ⟨b, 0, none⟩) (Nat.le_refl _) _⟩
  simp only [World.setCell, Array.getElem?_modify, h]
  simp
theorem valS_not (m : Bool) (n : Nat) : valS (!m) n = - valS m n := by cases m <;> simp [valS]
set_option maxRecDepth 100000 in
set_option maxHeartbeats 2000000 in
theorem Sub_any (s t : ByteArray) (B : Nat) (w : World) (hs : s.size ≤ 1000000) (ht : t.size ≤ 1000000) (hB : B ≤ w.heap.size) (hT : P10 B w) :
    Calls Tryz.prog 27 #[.string s, .string t] w (Ret w (pairV (op2S (· - ·) s.data.toList t.data.toList) (op2E (· - ·) s.data.toList t.data.toList))) := by
  have H1 := hide (both_any s t hs ht w)
  have HT := hide hT
  by_cases hE : bothI s.data.toList t.data.toList = 0
  · obtain ⟨c1, c2, e1, e2⟩ := op2_good (f := (· - ·)) hE
    rw [e1, e2]
    have C1 := hide c1; have C2 := hide c2
    rw [hE] at H1
    clear e1 e2 hE hT hs ht
    by_cases hsm : s.size ≤ 18 ∧ t.size ≤ 18
    · have H2 := hide (fun w => small_yes s t c1 c2 hsm.1 hsm.2 w)
      have v1 := short_val (n := 18) c1 (by rw [bytes_len]; exact hsm.1) (by omega)
      have v2 := short_val (n := 18) c2 (by rw [bytes_len]; exact hsm.2) (by omega)
      rw [pow18] at v1 v2
      obtain ⟨x, hx⟩ : ∃ x, x = valI s.data.toList := ⟨_, rfl⟩
      obtain ⟨y, hy⟩ : ∃ y, y = valI t.data.toList := ⟨_, rfl⟩
      rw [← hx, ← hy] at H2 ⊢
      rw [← hx] at v1
      rw [← hy] at v2
      obtain ⟨z, hz⟩ : ∃ z, z = x - y := ⟨_, rfl⟩
      have hw : IntKind.i64.wrap (x - y) = z := by rw [hz]; exact IntWalk.i64_in _ (by omega)
      obtain ⟨e3, e4⟩ := resS_small (z := z) (Nat.lt_of_lt_of_le (m := 10 ^ 19) (by omega) (Nat.pow_le_pow_right (by omega) (by omega)))
      have hz1 : -9223372036854775808 ≤ z := by omega
      have hz2 : z ≤ 9223372036854775807 := by omega
      show Calls _ _ _ _ (Ret w (pairV (resS (x - y)) (resE (x - y))))
      rw [← hz, e3, e4]
      clear c1 c2 hsm hx hy hz e3 e4
      go_enter Tryz.func27, Tryz.ntmps27
      go_wp2_with fail
      refine H1.out.mono ?_
      rintro e w1 ⟨rfl, hb1⟩
      have HB1 := hide hb1
      clear hb1 H1
      go_wp2_with fail
      refine (H2.out _).mono ?_
      rintro e w2 ⟨rfl, hb2⟩
      have HB2 := hide (HB1.out.trans (hb2.mono HB1.out.size))
      clear hb2 H2 HB1
      go_wp2_with fail
      refine (itoa_any z hz1 hz2 B w2 (HT.out.on HB2.out hB)).mono ?_
      rintro e w3 ⟨rfl, hb3⟩
      have HB3 := hide (HB2.out.trans (hb3.mono HB2.out.size))
      clear hb3 HB2
      go_wp2_with fail
      refine bodyPost_ret (results_tmp2 rfl _ _ _) rfl ?_
      exact ⟨rfl, HB3.out⟩
    · have H2 := hide (fun w => small_no s t hsm w)
      have R1 := hide (fun w => read_good s c1 w)
      have R2 := hide (fun w => read_good t c2 w)
      clear c1 c2 hsm
      go_enter Tryz.func27, Tryz.ntmps27
      go_wp2_with fail
      refine H1.out.mono ?_
      rintro e w1 ⟨rfl, hb1⟩
      have HB1 := hide hb1
      clear hb1 H1
      go_wp2_with fail
      refine (H2.out _).mono ?_
      rintro e w2 ⟨rfl, hb2⟩
      have HB2 := hide (HB1.out.trans (hb2.mono HB1.out.size))
      clear hb2 H2 HB1
      go_wp2_with fail
      refine (R2.out _).mono ?_
      rintro e w3 ⟨m2, a2, l2, rfl, hb3, o2, n2, q2, k2⟩
      obtain ⟨av, cv, hvf, _, _⟩ := o2.form
      subst hvf
      obtain ⟨g0, gs0, gb0⟩ := heap1 w3 (.cells #[.bool m2, .slice av l2.length cv] 48)
      have c0 := cell_blk g0 0
      have c1 := cell_blk g0 1
      have f0 := froz_blk g0 0
      have HB3 := hide (HB2.out.trans (hb3.mono HB2.out.size))
      have O2 := hide o2; have N2 := hide n2; have Q2 := hide q2
      clear hb3 HB2 R2 o2 n2 q2 g0 gs0 gb0
      go_wp2_with fail
      clear c0 c1 f0
      obtain ⟨g0, gs0, gb0⟩ := heap1 w3 (.cells #[.bool (!m2), .slice av l2.length cv] 48)
      obtain ⟨w4, hw4⟩ : ∃ w4, w3.alloc (.cells #[.bool (!m2), .slice av l2.length cv] 48) = w4 := ⟨_, rfl⟩
      rw [hw4] at g0 gs0 gb0 ⊢
      have c0 := cell_blk g0 0
      have c1 := cell_blk g0 1
      have O4 := hide (OwnL.keep O2.out gb0)
      have HB4 := hide (HB3.out.trans (gb0.mono HB3.out.size)); have G0 := hide g0
      have hs4 : w3.heap.size < w4.heap.size := by omega
      obtain ⟨nb, hnb⟩ : ∃ nb, nb = w3.heap.size := ⟨_, rfl⟩
      rw [← hnb] at c0 c1 G0 hs4 ⊢
      clear g0 gs0 gb0 hw4 O2 HB3 hnb
      go_region_held3 (fun w' => w'.cell? ⟨nb, 0, none⟩ = some (.bool (!m2)) ∧ w'.cell? ⟨nb, 1, none⟩ = some (.slice av l2.length cv)) (first | exact ⟨c0, c1⟩ | exact ⟨d0, d1⟩ | exact ⟨x0, x1⟩ | exact ⟨y0, y1⟩)
        (first
          | (go_at_call 38
             refine (R1.out _).mono ?_
             rintro e w5 ⟨m1, a1, l1, rfl, hb5, o1, n1, q1, k1⟩
             obtain ⟨d0, d1⟩ : w5.cell? ⟨nb, 0, none⟩ = some (.bool (!m2)) ∧ w5.cell? ⟨nb, 1, none⟩ = some (.slice av l2.length cv) := ⟨cell_blk (below_blk hb5 G0.out hs4) 0, cell_blk (below_blk hb5 G0.out hs4) 1⟩
             have D0 := hide (below_blk hb5 G0.out hs4)
             have D2 := hide (show OwnL 0 w5 (.slice av l2.length cv) l2 from OwnL.keep (show OwnL 0 w4.drew (.slice av l2.length cv) l2 from O4.out.drew) hb5)
             have DB := hide (show Below w.heap.size w w5 from (HB4.out.drew).trans (hb5.mono HB4.out.size))
             have hs5 : nb < w5.heap.size := Nat.lt_of_lt_of_le hs4 hb5.size
             have O1 := hide o1; have N1 := hide n1; have Q1 := hide q1
             clear hb5 o1 n1 q1)
          | (go_at_call 59
             refine (add_any m1 (!m2) a1 _ l1 l2 w5.heap.size w5 (.of_own O1.out) (.of_own D2.out) (Nat.le_refl _) N1.out N2.out (by omega) (by omega)).mono ?_
             rintro e w6 ⟨_, rfl, hb6, m3, a3, l3, rfl, o3, n3, q3, k3⟩
             obtain ⟨x0, x1⟩ : w6.cell? ⟨nb, 0, none⟩ = some (.bool (!m2)) ∧ w6.cell? ⟨nb, 1, none⟩ = some (.slice av l2.length cv) := ⟨cell_blk (below_blk hb6 D0.out hs5) 0, cell_blk (below_blk hb6 D0.out hs5) 1⟩
             have X0 := hide (below_blk hb6 D0.out hs5)
             have hs6 : nb < w6.heap.size := Nat.lt_of_lt_of_le hs5 hb6.size
             have XB := hide (DB.out.trans (hb6.mono DB.out.size))
             have O3 := hide o3; have N3 := hide n3; have Q3 := hide q3
             clear hb6 o3 n3 q3)
          | (go_at_call 39
             refine (result_own m3 a3 l3 0 B w6 O3.out N3.out (by omega) (HT.out.on XB.out hB) (Nat.le_trans hB XB.out.size)).mono ?_
             rintro e w7 ⟨rfl, hb7⟩
             obtain ⟨y0, y1⟩ : w7.cell? ⟨nb, 0, none⟩ = some (.bool (!m2)) ∧ w7.cell? ⟨nb, 1, none⟩ = some (.slice av l2.length cv) := ⟨cell_blk (below_blk hb7 X0.out hs6) 0, cell_blk (below_blk hb7 X0.out hs6) 1⟩
             have YB := hide (XB.out.trans (hb7.mono XB.out.size))
             clear hb7)
          | fail)
      have hz : valS m3 (lv 1000000000 l3) = valI s.data.toList - valI t.data.toList := by
        rw [Q3.out, Q1.out, valS_not, Q2.out]
        omega
      rw [hz]
      clear hz c0 c1 d0 d1 x0 x1 y0 y1
      go_wp2_with fail
      refine bodyPost_ret (results_tmp2 rfl _ _ _) rfl ?_
      exact ⟨rfl, YB.out⟩
  · obtain ⟨e1, e2⟩ := op2_bad (f := (· - ·)) hE
    rw [e1, e2]
    have hne : (bothI s.data.toList t.data.toList != 0) = true := by simpa using hE
    obtain ⟨E, hEE⟩ : ∃ E, E = bothI s.data.toList t.data.toList := ⟨_, rfl⟩
    rw [← hEE] at H1 hne ⊢
    clear e1 e2 hE hEE hT
    go_enter Tryz.func27, Tryz.ntmps27
    go_wp2_with fail
    refine H1.out.mono ?_
    rintro e w1 ⟨rfl, hb1⟩
    have HB1 := hide hb1
    clear hb1 H1
    go_wp2_with fail
    refine bodyPost_ret (results_tmp2 rfl _ _ _) rfl ?_
    exact ⟨rfl, HB1.out⟩
end Go.Proofs.YthkioajalhglfaaGreatDoor
namespace Go.Proofs.YthkioajalhglfaaGreatDoor
open Go.RowKit Go.KP Go.KI Go.Shelf
attribute [local go_sem] Oper.semAt_some

theorem chk_pos {l : List UInt8} (h : chkI l = 0) : 1 ≤ l.length := by
  cases l with
  | nil =>
    unfold chkI at h
    rw [if_pos (.inl rfl)] at h
    cases h
  | cons c r => simp
theorem valS_mul (m1 m2 : Bool) (a b : Nat) : valS (!(m1 == m2)) (a * b) = valS m1 a * valS m2 b := by cases m1 <;> cases m2 <;> simp [valS, Int.mul_neg, Int.neg_mul]
set_option maxRecDepth 100000 in
set_option maxHeartbeats 2000000 in
theorem Mul_any (s t : ByteArray) (B : Nat) (w : World) (hs : s.size ≤ 1000000) (ht : t.size ≤ 1000000) (hB : B ≤ w.heap.size) (hT : P10 B w) :
    Calls Tryz.prog 15 #[.string s, .string t] w (Ret w (pairV (op2S (· * ·) s.data.toList t.data.toList) (op2E (· * ·) s.data.toList t.data.toList))) := by
  have H1 := hide (both_any s t hs ht w)
  have HT := hide hT
  by_cases hE : bothI s.data.toList t.data.toList = 0
  · obtain ⟨c1, c2, e1, e2⟩ := op2_good (f := (· * ·)) hE
    rw [e1, e2]
    have C1 := hide c1; have C2 := hide c2
    rw [hE] at H1
    clear e1 e2 hE hT
    by_cases hsm : s.size + t.size ≤ 18
    · have H2 := hide (fun w => small_yes s t c1 c2 (by omega) (by omega) w)
      have z1 := chk_pos c1
      have z2 := chk_pos c2
      rw [bytes_len] at z1 z2
      have v1 := short_val (n := s.size) c1 (by rw [bytes_len]; exact Nat.le_refl _) z1
      have v2 := short_val (n := t.size) c2 (by rw [bytes_len]; exact Nat.le_refl _) z2
      obtain ⟨x, hx⟩ : ∃ x, x = valI s.data.toList := ⟨_, rfl⟩
      obtain ⟨y, hy⟩ : ∃ y, y = valI t.data.toList := ⟨_, rfl⟩
      rw [← hx, ← hy] at H2 ⊢
      rw [← hx] at v1
      rw [← hy] at v2
      obtain ⟨z, hz⟩ : ∃ z, z = x * y := ⟨_, rfl⟩
      have hzz : z.natAbs < 1000000000000000000 := by
        rw [hz, Int.natAbs_mul, ← pow18]
        refine Nat.lt_of_lt_of_le (Nat.mul_lt_mul'' v1 v2) ?_
        rw [← Nat.pow_add]
        exact Nat.pow_le_pow_right (by omega) hsm
      have hw : IntKind.i64.wrap (x * y) = z := by rw [← hz]; exact IntWalk.i64_in _ (by omega)
      obtain ⟨e3, e4⟩ := resS_small (z := z) (Nat.lt_of_lt_of_le (m := 10 ^ 19) (by omega) (Nat.pow_le_pow_right (by omega) (by omega)))
      have hz1 : -9223372036854775808 ≤ z := by omega
      have hz2 : z ≤ 9223372036854775807 := by omega
      have hle : (s.size : Int) + (t.size : Int) ≤ 18 := by omega
      show Calls _ _ _ _ (Ret w (pairV (resS (x * y)) (resE (x * y))))
      rw [← hz, e3, e4]
      clear v1 v2 z1 z2 hzz
      clear c1 c2 hsm hx hy hz e3 e4
      go_enter Tryz.func15, Tryz.ntmps15
      go_wp2_with fail
      refine H1.out.mono ?_
      rintro e w1 ⟨rfl, hb1⟩
      have HB1 := hide hb1
      clear hb1 H1
      go_wp2_with fail
      refine (H2.out _).mono ?_
      rintro e w2 ⟨rfl, hb2⟩
      have HB2 := hide (HB1.out.trans (hb2.mono HB1.out.size))
      clear hb2 H2 HB1
      go_wp2_with fail
      refine (itoa_any z hz1 hz2 B w2 (HT.out.on HB2.out hB)).mono ?_
      rintro e w3 ⟨rfl, hb3⟩
      have HB3 := hide (HB2.out.trans (hb3.mono HB2.out.size))
      clear hb3 HB2
      go_wp2_with fail
      refine bodyPost_ret (results_tmp2 rfl _ _ _) rfl ?_
      exact ⟨rfl, HB3.out⟩
    · have hgt : ((s.size : Int) + (t.size : Int) ≤ 18) = False := eq_false (by omega)
      have R1 := hide (fun w => read_good s c1 w)
      have R2 := hide (fun w => read_good t c2 w)
      clear c1 c2 hsm
      go_enter Tryz.func15, Tryz.ntmps15
      go_wp2_with fail
      refine H1.out.mono ?_
      rintro e w1 ⟨rfl, hb1⟩
      have HB1 := hide hb1
      clear hb1 H1
      go_wp2_with fail
      refine (R1.out _).mono ?_
      rintro e w2 ⟨m1, a1, l1, rfl, hb2, o1, n1, q1, k1⟩
      have HB2 := hide (HB1.out.trans (hb2.mono HB1.out.size))
      have O1 := hide o1; have N1 := hide n1; have Q1 := hide q1
      clear hb2 HB1 R1 o1 n1 q1
      go_wp2_with fail
      refine (R2.out _).mono ?_
      rintro e w3 ⟨m2, a2, l2, rfl, hb3, o2, n2, q2, k2⟩
      have HB3 := hide (HB2.out.trans (hb3.mono HB2.out.size))
      have O1' := hide (O1.out.keep hb3)
      have O2 := hide o2; have N2 := hide n2; have Q2 := hide q2
      clear hb3 HB2 R2 o2 n2 q2 O1
      obtain ⟨av1, cv1, hvf, _, _⟩ := O1'.out.form
      subst hvf
      obtain ⟨av2, cv2, hvf, _, _⟩ := O2.out.form
      subst hvf
      go_wp2_with fail
      obtain ⟨g0, g1, gs0, gb0⟩ := heap2 w3 (.cells #[.bool m1, .slice av1 l1.length cv1] 48) (.cells #[.bool m2, .slice av2 l2.length cv2] 48)
      obtain ⟨w4, hw4⟩ : ∃ w4, (w3.alloc (.cells #[.bool m1, .slice av1 l1.length cv1] 48)).alloc (.cells #[.bool m2, .slice av2 l2.length cv2] 48) = w4 := ⟨_, rfl⟩
      rw [hw4] at g0 g1 gs0 gb0 ⊢
      have c0 := cell_blk g0 0
      have c1 := cell_blk g0 1
      have c2 := cell_blk g1 0
      have c3 := cell_blk g1 1
      have O3 := hide (OwnL.keep O1'.out gb0); have O4 := hide (OwnL.keep O2.out gb0)
      have HB4 := hide (HB3.out.trans (gb0.mono HB3.out.size)); have G0 := hide g0; have G1 := hide g1
      have hs4 : w3.heap.size + 1 < w4.heap.size := by omega
      obtain ⟨nb, hnb⟩ : ∃ nb, nb = w3.heap.size := ⟨_, rfl⟩
      rw [← hnb] at c0 c1 c2 c3 G0 G1 hs4 ⊢
      clear g0 g1 gs0 gb0 hw4 O1' O2 HB3 hnb
      have hlen := l1.length
      go_region_held3 (fun w' => w'.cell? ⟨nb, 0, none⟩ = some (.bool m1) ∧ w'.cell? ⟨nb, 1, none⟩ = some (.slice av1 l1.length cv1) ∧ w'.cell? ⟨nb + 1, 0, none⟩ = some (.bool m2) ∧ w'.cell? ⟨nb + 1, 1, none⟩ = some (.slice av2 l2.length cv2)) (first | exact ⟨c0, c1, c2, c3⟩ | exact ⟨d0, d1, d2, d3⟩ | exact ⟨x0, x1, x2, x3⟩)
        (first
          | (go_at_call 40
             refine (times_any _ _ l1 l2 w4.heap.size w4.drew (.of_own (show OwnL 0 w4.drew _ l1 from O3.out.drew)) (.of_own (show OwnL 0 w4.drew _ l2 from O4.out.drew)) (Nat.le_refl _) N1.out.lt N2.out.lt (by omega) (by omega)).mono ?_
             rintro e w5 ⟨l3, ⟨v3, rfl, hb5, o3⟩, n3, q3, k3⟩
             obtain ⟨av3, cv3, hvf, _, _⟩ := o3.form
             subst hvf
             have D0 := hide (below_blk hb5 G0.out (by show nb < w4.heap.size; omega))
             have D1 := hide (below_blk hb5 G1.out (by show nb + 1 < w4.heap.size; omega))
             obtain ⟨d0, d1, d2, d3⟩ : w5.cell? ⟨nb, 0, none⟩ = some (.bool m1) ∧ w5.cell? ⟨nb, 1, none⟩ = some (.slice av1 l1.length cv1) ∧ w5.cell? ⟨nb + 1, 0, none⟩ = some (.bool m2) ∧ w5.cell? ⟨nb + 1, 1, none⟩ = some (.slice av2 l2.length cv2) := ⟨cell_blk D0.out 0, cell_blk D0.out 1, cell_blk D1.out 0, cell_blk D1.out 1⟩
             have DB := hide (show Below w.heap.size w w5 from (HB4.out.drew).trans (hb5.mono HB4.out.size))
             have hs5 : nb + 1 < w5.heap.size := Nat.lt_of_lt_of_le hs4 hb5.size
             have O5 := hide o3; have N3 := hide n3; have Q3 := hide q3
             clear hb5 o3 n3 q3)
          | (go_at_call 39
             refine (result_own (!(m1 == m2)) _ l3 _ B w5 O5.out N3.out (by omega) (HT.out.on DB.out hB) (Nat.le_trans hB DB.out.size)).mono ?_
             rintro e w7 ⟨rfl, hb7⟩
             have X0 := hide (below_blk hb7 D0.out (by omega))
             have X1 := hide (below_blk hb7 D1.out (by omega))
             obtain ⟨x0, x1, x2, x3⟩ : w7.cell? ⟨nb, 0, none⟩ = some (.bool m1) ∧ w7.cell? ⟨nb, 1, none⟩ = some (.slice av1 l1.length cv1) ∧ w7.cell? ⟨nb + 1, 0, none⟩ = some (.bool m2) ∧ w7.cell? ⟨nb + 1, 1, none⟩ = some (.slice av2 l2.length cv2) := ⟨cell_blk X0.out 0, cell_blk X0.out 1, cell_blk X1.out 0, cell_blk X1.out 1⟩
             have YB := hide (DB.out.trans (hb7.mono DB.out.size))
             clear hb7)
          | fail)
      have hz : valS (!(m1 == m2)) (lv 1000000000 l3) = valI s.data.toList * valI t.data.toList := by
        rw [Q3.out, valS_mul, Q1.out, Q2.out]
      rw [hz]
      clear hz c0 c1 c2 c3 d0 d1 d2 d3 x0 x1 x2 x3
      go_wp2_with fail
      refine bodyPost_ret (results_tmp2 rfl _ _ _) rfl ?_
      exact ⟨rfl, YB.out⟩
  · obtain ⟨e1, e2⟩ := op2_bad (f := (· * ·)) hE
    rw [e1, e2]
    have hne : (bothI s.data.toList t.data.toList != 0) = true := by simpa using hE
    obtain ⟨E, hEE⟩ : ∃ E, E = bothI s.data.toList t.data.toList := ⟨_, rfl⟩
    rw [← hEE] at H1 hne ⊢
    clear e1 e2 hE hEE hT
    go_enter Tryz.func15, Tryz.ntmps15
    go_wp2_with fail
    refine H1.out.mono ?_
    rintro e w1 ⟨rfl, hb1⟩
    have HB1 := hide hb1
    clear hb1 H1
    go_wp2_with fail
    refine bodyPost_ret (results_tmp2 rfl _ _ _) rfl ?_
    exact ⟨rfl, HB1.out⟩
end Go.Proofs.YthkioajalhglfaaGreatDoor
