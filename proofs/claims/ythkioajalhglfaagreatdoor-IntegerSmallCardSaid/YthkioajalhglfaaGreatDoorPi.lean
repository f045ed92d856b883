/-
  Integers: write and result walked.
-/
import Derived.Test.YthkioajalhglfaaGreatDoorPh
namespace Go.Proofs.YthkioajalhglfaaGreatDoor
open Go.RowKit Go.KP Go.KI Go.Shelf
attribute [local go_sem] Oper.semAt_some

theorem dec9 {n : Nat} (h : n < 1000000000) : (Lib.decDigits n).length ≤ 9 := (dec_len_le (by omega)).2 (by simpa using h)
theorem up_len {l : List Nat} (h : Norm 1000000000 l) : ∀ k, k ≤ l.length → (upText l k).length ≤ 9 * k := by
  intro k
  induction k with
  | zero => intro _; simp [up_zero]
  | succ k ih =>
    intro hk
    have h9 := dec9 (lat_lt (by omega) h.lt (l.length - 1 - k))
    rcases Nat.eq_zero_or_pos k with h0 | h0
    · subst h0
      rw [up_first (by omega)]
      have : l.length - 1 - 0 = l.length - 1 := by omega
      rw [this] at h9
      omega
    · rw [up_next h (by omega) h0]
      have := ih (by omega)
      simp only [List.length_append, List.length_replicate]
      omega
theorem repeat48 (c : Nat) : Lib.repeatL [48] c = List.replicate c 48 := by
  induction c with
  | zero => rfl
  | succ n ih => simp [Lib.repeatL, ih, List.replicate_succ]
theorem valS_itoa {m : Bool} {n : Nat} (h : 1 ≤ n) : Lib.itoa (valS m n) = (if m then [45] else []) ++ Lib.decDigits n := by
  cases m
  · show Lib.itoa (n : Int) = _
    rw [Lib.itoa_nonneg]
    rfl
  · show Lib.itoa (-(n : Int)) = _
    rw [Lib.itoa_neg n h]
    rfl
theorem byteCells_app (a b : List UInt8) : Lib.byteCells a ++ Lib.strCells (strB b) = Lib.byteCells (a ++ b) := by
  rw [show Lib.strCells (strB b) = Lib.byteCells b from rfl]
  simp [Lib.byteCells]
theorem byteCells_len (a : List UInt8) : (Lib.byteCells a).length = a.length := by simp [Lib.byteCells]
theorem strCells_len (s : ByteArray) : (Lib.strCells s).length = s.size := by
  show (Lib.byteCells s.data.toList).length = _
  rw [byteCells_len, bytes_len]
theorem builder_lt {T e : TypeId} {B b : Nat} {bs : List Value} {w : World} (h : Lib.IsBuilderF T e B b bs w) : b < w.heap.size := by
  rcases h with ⟨_, v, h2, _⟩ | ⟨_, v, h2, _⟩ <;> exact lt_blk h2
theorem ok_box {bb i : Nat} {W W2 : World} {cs : Array Value} (h : Lib.OthersKept 5 (some bb) W W2) (hi : i ≠ bb) (hb : W.heap[i]? = some (.cells cs 46 (0, 0))) : W2.heap[i]? = some (.cells cs 46 (0, 0)) :=
  h i _ hb (fun e => hi (Option.some.inj e)) (fun c fz e => by injection e with _ e _; exact absurd e (by decide))
set_option maxRecDepth 100000 in
set_option maxHeartbeats 4000000 in
theorem write_any (m : Bool) (v : Value) (l : List Nat) (B : Nat) (w : World) (h : LimbAt B w v l) (hB : B ≤ w.heap.size) (hn : Norm 1000000000 l) (hl : l.length ≤ 100000) (hT : P10 B w) :
    Calls Tryz.prog 69 #[numV m v] w (Ret w (.string (strB (Lib.itoa (valS m (lv 1000000000 l)))))) := by
  obtain ⟨a0, c0, hv⟩ := h.form
  subst hv
  have HL := hide h; have HN := hide hn; have HT := hide hT
  clear h hn hT
  obtain ⟨n, hnn⟩ : ∃ n, n = l.length := ⟨_, rfl⟩
  have HNN := hide hnn
  rw [← hnn] at hl ⊢
  clear hnn
  obtain ⟨b0, bs0, bb0⟩ := heap1 w (.cells #[.bool m, .slice a0 n c0] 48)
  refine (callsIn_wide (n := 0)).1 ?_
  refine callsIn_of_wp_marks Tryz.func69 rfl trivial ?_ rfl
  simp only [Tryz.ntmps69, List.size_toArray, List.length_cons, List.length_nil, Nat.reduceAdd, Nat.reduceSub, Array.replicate_succ, Array.replicate_zero, List.push_toArray, List.append_toArray, List.nil_append, List.cons_append]
  by_cases h0 : n = 0
  · have hnil : l = [] := List.eq_nil_of_length_eq_zero (HNN.out.symm.trans h0)
    have hq : ((n : Int) == 0) = true := by rw [h0]; rfl
    have HE := hide (show Lib.itoa (valS m (lv 1000000000 l)) = [48] by
      rw [hnil, lv_nil]
      cases m <;> exact itoa_zero)
    have BB := hide bb0
    clear h0 hnil b0 bs0 bb0
    gi_wp2_with fail
    rw [HE.out]
    exact ⟨_, results_tmp rfl _ _ _, rfl, BB.out⟩
  · have hq : ((n : Int) == 0) = false := by simpa using h0
    obtain ⟨b1, bs1, bb1⟩ := heap1 (w.alloc (.cells #[.bool m, .slice a0 n c0] 48)) (.cells #[.pointer none, .slice none 0 0] 95)
    obtain ⟨w1, hw1⟩ : ∃ w1, (w.alloc (.cells #[.bool m, .slice a0 n c0] 48)).alloc (.cells #[.pointer none, .slice none 0 0] 95) = w1 := ⟨_, rfl⟩
    have e0 := below_blk bb1 b0 (by omega)
    have eb := bb0.trans (bb1.mono (by omega))
    rw [hw1] at b1 bs1 e0 eb
    rw [bs0] at b1 bs1
    have E0 := hide e0; have E1 := hide (builder_new b1); have EB := hide eb
    have c1 := cell_blk e0 0
    have c2 := cell_blk e0 1
    have hs1 : w.heap.size + 2 ≤ w1.heap.size := by omega
    clear b0 bs0 bb0 b1 bs1 bb1 e0 eb
    obtain ⟨pre, hpre⟩ : ∃ pre : List UInt8, pre = if m then [45] else [] := ⟨_, rfl⟩
    have HPRE := hide hpre
    have hne : l ≠ [] := fun e => h0 (by rw [HNN.out, e]; rfl)
    have hpos : 1 ≤ lv 1000000000 l := by
      have h1 := HN.out.ge hne
      have h2 : 0 < 1000000000 ^ (l.length - 1) := Nat.pow_pos (by omega)
      omega
    have HTX := hide (show Lib.itoa (valS m (lv 1000000000 l)) = pre ++ upText l n by rw [valS_itoa hpos, ← hpre, HNN.out, up_all hne])
    clear hpos hne
    have hpl : pre.length ≤ 1 := by rw [hpre]; cases m <;> simp
    clear hpre
    cases m
    case' true =>
      gi_wp2_with fail
      refine ⟨trivial, rfl, (callsIn_wide.2 (wByte (w.heap.size + 1) (w.heap.size + 1) [] 45 w1 E1.out (by simp) (by omega))).mono ?_⟩
      rintro e w2 ⟨rfl, hb2, bl2, ok2⟩
      have E0' := hide (show w2.heap[w.heap.size]? = some (.cells #[.bool true, .slice a0 n c0] 48 (0, 0)) from below_blk bl2 E0.out (by omega))
      have E1' := hide (show Lib.IsBuilderF 95 5 (w.heap.size + 1) (w.heap.size + 1) (Lib.byteCells pre) w2 by rw [HPRE.out]; exact .inr hb2)
      have EB' := hide (EB.out.trans (bl2.mono (by omega)))
      have hs1' : w.heap.size + 2 ≤ w2.heap.size := by have := bl2.size; omega
      clear hb2 bl2 ok2 E0 E1 EB c1 c2 hs1 hw1
      obtain ⟨w1, rfl⟩ : ∃ x, x = w2 := ⟨_, rfl⟩
      have E0 := E0'; have E1 := E1'; have EB := EB'; have hs1 := hs1'
      clear E0' E1' EB' hs1'
      have c1 := cell_blk E0.out 0
      have c2 := cell_blk E0.out 1
      gi_wp2_with fail
    case' false =>
      have E1' := hide (show Lib.IsBuilderF 95 5 (w.heap.size + 1) (w.heap.size + 1) (Lib.byteCells pre) w1 by rw [HPRE.out]; exact E1.out)
      clear E1
      have E1 := E1'
      clear E1'
      gi_wp2_with fail
      clear hw1
    all_goals
      refine ⟨trivial, rfl, (callsIn_wide.2 (backward_any a0 n c0 w1)).mono ?_⟩
      rintro e w3 ⟨rfl, hw3⟩
      obtain ⟨b3, bs3, bb3⟩ := heap1 w1 (.cells #[.slice a0 n c0] 46)
      rw [hw3] at b3 bs3 bb3
      have F0 := hide (below_blk bb3 E0.out (by omega))
      have F1 := hide (show Lib.IsBuilderF 95 5 (w.heap.size + 1) (w.heap.size + 1) (Lib.byteCells pre) w3 from builder_keep E1.out (fun i cs t fz h => below_blk bb3 h (lt_blk h)))
      have F2 := hide b3; have FB := hide (EB.out.trans (bb3.mono (by omega)))
      have hs3 : w1.heap.size < w3.heap.size := by omega
      clear b3 bs3 bb3 E0 E1 EB c1 c2
      gi_wp2_with fail
    case neg.false =>
      refine wp_iter_pure (gf := 102) (lb := #[.pointer (some ⟨w1.heap.size, 0, none⟩)]) rfl (enters_of Tryz.func102 (by kernel_rfl) rfl) (backPure_any w1.heap.size n c0 a0 (fun k => (lat l (n - 1 - k) : Nat)) (by omega)) (fun _ => rfl)
        (fun k S W => S = SU (w.heap.size + 1) W ∧ Lib.IsBuilderF 95 5 (w.heap.size + 1) (w.heap.size + 1) (Lib.byteCells (pre ++ upText l k)) W ∧ W.heap[w.heap.size]? = some (.cells #[.bool false, .slice a0 n c0] 48 (0, 0)) ∧ W.heap[w1.heap.size]? = some (.cells #[.slice a0 n c0] 46 (0, 0)) ∧ Below w.heap.size w W)
        (fun _ _ _ => False) ?hI (fun _ _ _ _ h _ => h) (S0 := SU (w.heap.size + 1) w3) ?h0 ?hke
        (fun k S a1' W => a1' = { tmps := #[numV false (.slice a0 n c0), .pointer (some ⟨w.heap.size, 0, none⟩), .string ⟨#[]⟩, .pointer (some ⟨w.heap.size + 1, 0, none⟩), .int .i64 ((n : Int) - 1 - k), .int .i64 (lat l (n - 1 - k)), undef, .pointer (some ⟨w.heap.size, 1, none⟩), .slice a0 n c0, .int .i64 n, .bool false, .pointer (some ⟨w.heap.size, 0, none⟩), .bool false, undef, .pointer (some ⟨w.heap.size, 1, none⟩), .slice a0 n c0, .func (.func 102) #[] #[.pointer (some ⟨w1.heap.size, 0, none⟩)], .int .i64 ((n : Int) - 1 - k), .int .i64 (lat l (n - 1 - k)), undef, undef, undef, undef, undef, undef, undef, undef, undef, undef, undef, undef, undef, undef, undef, undef], defers := [] })
        ?hAx ?hassign ?hS ?hbody ?hdone ?hstop
      case hI =>
        rintro k S W W2 ⟨rfl, h1, h2, h3, h4⟩ hq
        exact ⟨(su_still hq).symm, builder_keep h1 hq.old, hq.old _ _ _ _ h2, hq.old _ _ _ _ h3, ⟨h4.os.symm ▸ hq.os, h4.tape.symm ▸ hq.tape, h4.output.symm ▸ hq.output, Nat.le_trans h4.size hq.size, fun j hj => (hq.kept j (by omega) (by have := h4.size; omega)).trans (h4.block j hj)⟩⟩
      case h0 =>
        refine ⟨rfl, ?_, F0.out, F2.out, FB.out⟩
        rw [up_zero, List.append_nil]
        exact F1.out
      case hke =>
        rintro k S W hk ⟨rfl, h1, h2, h3, h4⟩
        refine ⟨h3, fun hlt => ?_⟩
        have hL := HL.out
        rw [← HNN.out] at hL
        rcases LimbAt.cases (l := l) (by rw [HNN.out] at hL; exact hL) with ⟨a, c, e1, e2⟩ | ⟨g, o, cap, e1, e2, e3⟩
        · subst e2
          have := HNN.out
          simp at this
          omega
        · injection e1 with e1 _ _
          refine ⟨g, o, e1, ?_⟩
          have h5 := e3 (n - 1 - k) (by rw [← HNN.out]; omega)
          have h6 : W.heap[g]? = w.heap[g]? := h4.block g (by omega)
          rw [← h5]
          simp [World.cell?, h6]
      case hAx =>
        rintro k S a1' W l r r2 h _
        exact h
      case hassign =>
        intro lp k S W K hsz hSlt hK
        have HK := hide hK
        clear hK
        gi_wp2
        exact HK.out _ rfl
      case hS =>
        rintro k S W ⟨rfl, h1, _⟩ b (rfl | ⟨cur, fz, hb⟩)
        · exact builder_lt h1
        · exact lt_blk hb
      case hstop =>
        intro D c S W _ h
        exact h.elim
      case hbody =>
        rintro lp k S a1' W hk ⟨rfl, h1, h2, h3, h4⟩ rfl hsz
        obtain ⟨d, hd⟩ : ∃ d, d = lat l (n - 1 - k) := ⟨_, rfl⟩
        rw [← hd]
        have hdl : d < 1000000000 := by rw [hd]; exact lat_lt (by omega) HN.out.lt _
        obtain ⟨t, ht⟩ : ∃ t, t = strB (Lib.itoa d) := ⟨_, rfl⟩
        have htb : strB (Lib.decDigits d) = t := by rw [ht, Lib.itoa_nonneg]
        have hts : t.size ≤ 9 := by rw [← htb, strB_size]; exact dec9 hdl
        have hlen : (Lib.byteCells (pre ++ upText l k)).length ≤ 1 + 9 * k := by
          rw [byteCells_len, List.length_append]
          have := up_len HN.out k (by rw [← HNN.out]; omega)
          omega
        have hTW : P10 B W := fun w' hb => HT.out w' ((h4.mono hB).trans hb)
        have hsz1 : w.heap.size + 1 < W.heap.size := by omega
        have c1 := cell_blk h2 0
        have c2 := cell_blk h2 1
        have G1 := hide h1; have G2 := hide h2; have G3 := hide h3; have G4 := hide h4; have HTW := hide hTW; have HD := hide hd; have HTT := hide ht; have HTB := hide htb; have HLN := hide hlen
        clear h1 h2 h3 h4 hTW hd ht htb F0 F1 F2 FB hw3 hlen
        gi_wp2_with fail
        refine ⟨trivial, rfl, (CallsIn.inRound lp (callsIn_wide.2 (itoa_any d (by omega) (by omega) B W HTW.out))).mono ?_⟩
        rw [← HTT.out]
        rintro e W2 ⟨rfl, hb2⟩
        have K1 := hide (builder_keep G1.out (fun i cs t fz h => below_blk hb2 h (lt_blk h)))
        have K2 := hide (below_blk hb2 G2.out (lt_blk G2.out)); have K3 := hide (below_blk hb2 G3.out (lt_blk G3.out)); have K4 := hide (G4.out.trans (hb2.mono (by omega)))
        have hsz2 : W.heap.size ≤ W2.heap.size := hb2.size
        have KB := hide hb2
        have c1 := cell_blk K2.out 0
        have c2 := cell_blk K2.out 1
        clear hb2 G1 G2 G3 G4 HTW
        by_cases hk0 : k = 0
        · have hte : ((n : Int) - 1 - (k : Int) < (n : Int) - 1) = False := eq_false (by omega)
          gi_wp2_with fail
          refine ⟨trivial, rfl, (CallsIn.inRound lp (callsIn_wide.2 (wString (w.heap.size + 1) (w.heap.size + 1) _ t W2 K1.out (by have := HLN.out; omega) (by omega)))).mono ?_⟩
          rintro e W4 ⟨rfl, hf, bl4, ok4⟩
          have HF := hide hf; have BL := hide bl4; have OK := hide ok4
          clear hf bl4 ok4
          gi_wp2_with fail
          refine ⟨_, su_step (b := w.heap.size + 1) (Nat.le_trans hsz2 BL.out.size) (fun i o hi hib hio => OK.out i o (below_blk KB.out hi (lt_blk hi)) (by intro e; injection e with e; exact hib e) hio), rfl, ?_, below_blk BL.out K2.out (by omega), ok_box OK.out (by omega) K3.out, K4.out.trans (BL.out.mono (by omega))⟩
          have h1 := HF.out
          rw [← HTB.out, byteCells_app, hk0, up_zero, List.append_nil, HD.out, hk0] at h1
          rw [hk0, up_first (by rw [← HNN.out]; omega), ← HNN.out]
          exact .inr h1
        · have hte : (n : Int) - 1 - (k : Int) < (n : Int) - 1 := by omega
          obtain ⟨q, hq9⟩ : ∃ q : Nat, (9 : Int) - (t.size : Int) = (q : Int) := ⟨9 - t.size, by omega⟩
          have HQ := hide (show q = 9 - t.size by omega)
          have hqs : q ≤ 9 := by omega
          gi_wp2_with fail
          clear hq9
          refine ⟨trivial, rfl, (CallsIn.inRound lp (callsIn_wide.2 (repeat_any ⟨#[48]⟩ q W2 (by omega) (by decide)))).mono ?_⟩
          rw [show (⟨#[48]⟩ : ByteArray).data.toList = [48] from rfl, repeat48]
          rintro e W3 ⟨rfl, hb3⟩
          have L1 := hide (builder_keep K1.out (fun i cs t fz h => below_blk hb3 h (lt_blk h)))
          have L2 := hide (below_blk hb3 K2.out (lt_blk K2.out)); have L3 := hide (below_blk hb3 K3.out (lt_blk K3.out)); have L4 := hide (K4.out.trans (hb3.mono (by omega)))
          have hsz3 : W2.heap.size ≤ W3.heap.size := hb3.size
          have LB := hide hb3
          obtain ⟨z, hz⟩ : ∃ z, z = strB (List.replicate q 48) := ⟨_, rfl⟩
          rw [← hz]
          have hzs : z.size ≤ 9 := by rw [hz, strB_size]; simp; omega
          have HZ := hide hz
          clear hb3 K1 K2 K3 K4 c1 c2 hz
          gi_wp2_with fail
          refine ⟨trivial, rfl, (CallsIn.inRound lp (callsIn_wide.2 (wString (w.heap.size + 1) (w.heap.size + 1) _ z W3 L1.out (by have := HLN.out; omega) (by omega)))).mono ?_⟩
          rintro e W4 ⟨rfl, hf, bl4, ok4⟩
          have HF := hide (show Lib.IsBuilderF 95 5 (w.heap.size + 1) (w.heap.size + 1) _ W4 from .inr hf); have BL := hide bl4; have OK := hide ok4
          have hsz4 : W3.heap.size ≤ W4.heap.size := bl4.size
          clear hf bl4 ok4
          gi_wp2_with fail
          refine ⟨trivial, rfl, (CallsIn.inRound lp (callsIn_wide.2 (wString (w.heap.size + 1) (w.heap.size + 1) _ t W4 HF.out (by have := HLN.out; rw [List.length_append, strCells_len z]; omega) (by omega)))).mono ?_⟩
          rintro e W5 ⟨rfl, hf, bl5, ok5⟩
          have HF2 := hide hf; have BL5 := hide bl5; have OK5 := hide ok5
          clear hf bl5 ok5
          gi_wp2_with fail
          refine ⟨_, su_step (b := w.heap.size + 1) (Nat.le_trans hsz2 (Nat.le_trans hsz3 (Nat.le_trans hsz4 BL5.out.size))) (fun i o hi hib hio => OK5.out i o (OK.out i o (below_blk LB.out (below_blk KB.out hi (lt_blk hi)) (by have := lt_blk hi; omega)) (by intro e; injection e with e; exact hib e) hio) (by intro e; injection e with e; exact hib e) hio), rfl, ?_, below_blk BL5.out (below_blk BL.out L2.out (by omega)) (by omega), ok_box OK5.out (by omega) (ok_box OK.out (by omega) L3.out), L4.out.trans ((BL.out.mono (by omega)).trans (BL5.out.mono (by omega)))⟩
          have h1 := HF2.out
          rw [HZ.out, byteCells_app, ← HTB.out, byteCells_app, HQ.out, ← HTB.out, strB_size, HD.out, HNN.out] at h1
          rw [up_next HN.out (by rw [← HNN.out]; omega) (by omega)]
          rw [List.append_assoc, List.append_assoc] at h1
          exact .inr h1
      case hdone =>
        rintro D S W hD ⟨rfl, h1, h2, h3, h4⟩ hDf
        have G1 := hide h1; have G4 := hide h4; have GD := hide hDf
        have hsz1 : w.heap.size + 1 < W.heap.size := by have := lt_blk hDf; omega
        clear h1 h2 h3 h4 hDf F0 F1 F2 FB hw3
        gi_wp2_with fail
        refine ⟨trivial, rfl, (callsIn_wide.2 (wGive (w.heap.size + 1) (w.heap.size + 1) (pre ++ upText l n) W G1.out (by omega))).mono ?_⟩
        rintro e W2 ⟨rfl, hf, bl, ok⟩
        have BL := hide bl
        have GD2 := hide (ok D _ GD.out (by intro e; injection e with e; omega) (fun c fz e => by cases e))
        clear hf bl ok
        gi_wp2_with fail
        refine ⟨by simp, .inl ⟨_, _, rfl, run_takeDeferred GD2.out, ?_⟩⟩
        refine ⟨_, results_tmp rfl _ _ _, ?_, ?_⟩
        · rw [HTX.out]
          rfl
        · exact G4.out.trans ((BL.out.mono (by omega)).trans (belowK_b (w := w) (Nat.le_refl _) _ D _ _ (by omega) GD2.out rfl rfl))
    case neg.true =>
      refine wp_iter_pure (gf := 102) (lb := #[.pointer (some ⟨w1.heap.size, 0, none⟩)]) rfl (enters_of Tryz.func102 (by kernel_rfl) rfl) (backPure_any w1.heap.size n c0 a0 (fun k => (lat l (n - 1 - k) : Nat)) (by omega)) (fun _ => rfl)
        (fun k S W => S = SU (w.heap.size + 1) W ∧ Lib.IsBuilderF 95 5 (w.heap.size + 1) (w.heap.size + 1) (Lib.byteCells (pre ++ upText l k)) W ∧ W.heap[w.heap.size]? = some (.cells #[.bool true, .slice a0 n c0] 48 (0, 0)) ∧ W.heap[w1.heap.size]? = some (.cells #[.slice a0 n c0] 46 (0, 0)) ∧ Below w.heap.size w W)
        (fun _ _ _ => False) ?hI (fun _ _ _ _ h _ => h) (S0 := SU (w.heap.size + 1) w3) ?h0 ?hke
        (fun k S a1' W => a1' = { tmps := #[numV true (.slice a0 n c0), .pointer (some ⟨w.heap.size, 0, none⟩), .string ⟨#[]⟩, .pointer (some ⟨w.heap.size + 1, 0, none⟩), .int .i64 ((n : Int) - 1 - k), .int .i64 (lat l (n - 1 - k)), undef, .pointer (some ⟨w.heap.size, 1, none⟩), .slice a0 n c0, .int .i64 n, .bool false, .pointer (some ⟨w.heap.size, 0, none⟩), .bool true, .nilIface, .pointer (some ⟨w.heap.size, 1, none⟩), .slice a0 n c0, .func (.func 102) #[] #[.pointer (some ⟨w1.heap.size, 0, none⟩)], .int .i64 ((n : Int) - 1 - k), .int .i64 (lat l (n - 1 - k)), undef, undef, undef, undef, undef, undef, undef, undef, undef, undef, undef, undef, undef, undef, undef, undef], defers := [] })
        ?hAx ?hassign ?hS ?hbody ?hdone ?hstop
      case hI =>
        rintro k S W W2 ⟨rfl, h1, h2, h3, h4⟩ hq
        exact ⟨(su_still hq).symm, builder_keep h1 hq.old, hq.old _ _ _ _ h2, hq.old _ _ _ _ h3, ⟨h4.os.symm ▸ hq.os, h4.tape.symm ▸ hq.tape, h4.output.symm ▸ hq.output, Nat.le_trans h4.size hq.size, fun j hj => (hq.kept j (by omega) (by have := h4.size; omega)).trans (h4.block j hj)⟩⟩
      case h0 =>
        refine ⟨rfl, ?_, F0.out, F2.out, FB.out⟩
        rw [up_zero, List.append_nil]
        exact F1.out
      case hke =>
        rintro k S W hk ⟨rfl, h1, h2, h3, h4⟩
        refine ⟨h3, fun hlt => ?_⟩
        have hL := HL.out
        rw [← HNN.out] at hL
        rcases LimbAt.cases (l := l) (by rw [HNN.out] at hL; exact hL) with ⟨a, c, e1, e2⟩ | ⟨g, o, cap, e1, e2, e3⟩
        · subst e2
          have := HNN.out
          simp at this
          omega
        · injection e1 with e1 _ _
          refine ⟨g, o, e1, ?_⟩
          have h5 := e3 (n - 1 - k) (by rw [← HNN.out]; omega)
          have h6 : W.heap[g]? = w.heap[g]? := h4.block g (by omega)
          rw [← h5]
          simp [World.cell?, h6]
      case hAx =>
        rintro k S a1' W l r r2 h _
        exact h
      case hassign =>
        intro lp k S W K hsz hSlt hK
        have HK := hide hK
        clear hK
        gi_wp2
        exact HK.out _ rfl
      case hS =>
        rintro k S W ⟨rfl, h1, _⟩ b (rfl | ⟨cur, fz, hb⟩)
        · exact builder_lt h1
        · exact lt_blk hb
      case hstop =>
        intro D c S W _ h
        exact h.elim
      case hbody =>
        rintro lp k S a1' W hk ⟨rfl, h1, h2, h3, h4⟩ rfl hsz
        obtain ⟨d, hd⟩ : ∃ d, d = lat l (n - 1 - k) := ⟨_, rfl⟩
        rw [← hd]
        have hdl : d < 1000000000 := by rw [hd]; exact lat_lt (by omega) HN.out.lt _
        obtain ⟨t, ht⟩ : ∃ t, t = strB (Lib.itoa d) := ⟨_, rfl⟩
        have htb : strB (Lib.decDigits d) = t := by rw [ht, Lib.itoa_nonneg]
        have hts : t.size ≤ 9 := by rw [← htb, strB_size]; exact dec9 hdl
        have hlen : (Lib.byteCells (pre ++ upText l k)).length ≤ 1 + 9 * k := by
          rw [byteCells_len, List.length_append]
          have := up_len HN.out k (by rw [← HNN.out]; omega)
          omega
        have hTW : P10 B W := fun w' hb => HT.out w' ((h4.mono hB).trans hb)
        have hsz1 : w.heap.size + 1 < W.heap.size := by omega
        have c1 := cell_blk h2 0
        have c2 := cell_blk h2 1
        have G1 := hide h1; have G2 := hide h2; have G3 := hide h3; have G4 := hide h4; have HTW := hide hTW; have HD := hide hd; have HTT := hide ht; have HTB := hide htb; have HLN := hide hlen
        clear h1 h2 h3 h4 hTW hd ht htb F0 F1 F2 FB hw3 hlen
        gi_wp2_with fail
        refine ⟨trivial, rfl, (CallsIn.inRound lp (callsIn_wide.2 (itoa_any d (by omega) (by omega) B W HTW.out))).mono ?_⟩
        rw [← HTT.out]
        rintro e W2 ⟨rfl, hb2⟩
        have K1 := hide (builder_keep G1.out (fun i cs t fz h => below_blk hb2 h (lt_blk h)))
        have K2 := hide (below_blk hb2 G2.out (lt_blk G2.out)); have K3 := hide (below_blk hb2 G3.out (lt_blk G3.out)); have K4 := hide (G4.out.trans (hb2.mono (by omega)))
        have hsz2 : W.heap.size ≤ W2.heap.size := hb2.size
        have KB := hide hb2
        have c1 := cell_blk K2.out 0
        have c2 := cell_blk K2.out 1
        clear hb2 G1 G2 G3 G4 HTW
        by_cases hk0 : k = 0
        · have hte : ((n : Int) - 1 - (k : Int) < (n : Int) - 1) = False := eq_false (by omega)
          gi_wp2_with fail
          refine ⟨trivial, rfl, (CallsIn.inRound lp (callsIn_wide.2 (wString (w.heap.size + 1) (w.heap.size + 1) _ t W2 K1.out (by have := HLN.out; omega) (by omega)))).mono ?_⟩
          rintro e W4 ⟨rfl, hf, bl4, ok4⟩
          have HF := hide hf; have BL := hide bl4; have OK := hide ok4
          clear hf bl4 ok4
          gi_wp2_with fail
          refine ⟨_, su_step (b := w.heap.size + 1) (Nat.le_trans hsz2 BL.out.size) (fun i o hi hib hio => OK.out i o (below_blk KB.out hi (lt_blk hi)) (by intro e; injection e with e; exact hib e) hio), rfl, ?_, below_blk BL.out K2.out (by omega), ok_box OK.out (by omega) K3.out, K4.out.trans (BL.out.mono (by omega))⟩
          have h1 := HF.out
          rw [← HTB.out, byteCells_app, hk0, up_zero, List.append_nil, HD.out, hk0] at h1
          rw [hk0, up_first (by rw [← HNN.out]; omega), ← HNN.out]
          exact .inr h1
        · have hte : (n : Int) - 1 - (k : Int) < (n : Int) - 1 := by omega
          obtain ⟨q, hq9⟩ : ∃ q : Nat, (9 : Int) - (t.size : Int) = (q : Int) := ⟨9 - t.size, by omega⟩
          have HQ := hide (show q = 9 - t.size by omega)
          have hqs : q ≤ 9 := by omega
          gi_wp2_with fail
          clear hq9
          refine ⟨trivial, rfl, (CallsIn.inRound lp (callsIn_wide.2 (repeat_any ⟨#[48]⟩ q W2 (by omega) (by decide)))).mono ?_⟩
          rw [show (⟨#[48]⟩ : ByteArray).data.toList = [48] from rfl, repeat48]
          rintro e W3 ⟨rfl, hb3⟩
          have L1 := hide (builder_keep K1.out (fun i cs t fz h => below_blk hb3 h (lt_blk h)))
          have L2 := hide (below_blk hb3 K2.out (lt_blk K2.out)); have L3 := hide (below_blk hb3 K3.out (lt_blk K3.out)); have L4 := hide (K4.out.trans (hb3.mono (by omega)))
          have hsz3 : W2.heap.size ≤ W3.heap.size := hb3.size
          have LB := hide hb3
          obtain ⟨z, hz⟩ : ∃ z, z = strB (List.replicate q 48) := ⟨_, rfl⟩
          rw [← hz]
          have hzs : z.size ≤ 9 := by rw [hz, strB_size]; simp; omega
          have HZ := hide hz
          clear hb3 K1 K2 K3 K4 c1 c2 hz
          gi_wp2_with fail
          refine ⟨trivial, rfl, (CallsIn.inRound lp (callsIn_wide.2 (wString (w.heap.size + 1) (w.heap.size + 1) _ z W3 L1.out (by have := HLN.out; omega) (by omega)))).mono ?_⟩
          rintro e W4 ⟨rfl, hf, bl4, ok4⟩
          have HF := hide (show Lib.IsBuilderF 95 5 (w.heap.size + 1) (w.heap.size + 1) _ W4 from .inr hf); have BL := hide bl4; have OK := hide ok4
          have hsz4 : W3.heap.size ≤ W4.heap.size := bl4.size
          clear hf bl4 ok4
          gi_wp2_with fail
          refine ⟨trivial, rfl, (CallsIn.inRound lp (callsIn_wide.2 (wString (w.heap.size + 1) (w.heap.size + 1) _ t W4 HF.out (by have := HLN.out; rw [List.length_append, strCells_len z]; omega) (by omega)))).mono ?_⟩
          rintro e W5 ⟨rfl, hf, bl5, ok5⟩
          have HF2 := hide hf; have BL5 := hide bl5; have OK5 := hide ok5
          clear hf bl5 ok5
          gi_wp2_with fail
          refine ⟨_, su_step (b := w.heap.size + 1) (Nat.le_trans hsz2 (Nat.le_trans hsz3 (Nat.le_trans hsz4 BL5.out.size))) (fun i o hi hib hio => OK5.out i o (OK.out i o (below_blk LB.out (below_blk KB.out hi (lt_blk hi)) (by have := lt_blk hi; omega)) (by intro e; injection e with e; exact hib e) hio) (by intro e; injection e with e; exact hib e) hio), rfl, ?_, below_blk BL5.out (below_blk BL.out L2.out (by omega)) (by omega), ok_box OK5.out (by omega) (ok_box OK.out (by omega) L3.out), L4.out.trans ((BL.out.mono (by omega)).trans (BL5.out.mono (by omega)))⟩
          have h1 := HF2.out
          rw [HZ.out, byteCells_app, ← HTB.out, byteCells_app, HQ.out, ← HTB.out, strB_size, HD.out, HNN.out] at h1
          rw [up_next HN.out (by rw [← HNN.out]; omega) (by omega)]
          rw [List.append_assoc, List.append_assoc] at h1
          exact .inr h1
      case hdone =>
        rintro D S W hD ⟨rfl, h1, h2, h3, h4⟩ hDf
        have G1 := hide h1; have G4 := hide h4; have GD := hide hDf
        have hsz1 : w.heap.size + 1 < W.heap.size := by have := lt_blk hDf; omega
        clear h1 h2 h3 h4 hDf F0 F1 F2 FB hw3
        gi_wp2_with fail
        refine ⟨trivial, rfl, (callsIn_wide.2 (wGive (w.heap.size + 1) (w.heap.size + 1) (pre ++ upText l n) W G1.out (by omega))).mono ?_⟩
        rintro e W2 ⟨rfl, hf, bl, ok⟩
        have BL := hide bl
        have GD2 := hide (ok D _ GD.out (by intro e; injection e with e; omega) (fun c fz e => by cases e))
        clear hf bl ok
        gi_wp2_with fail
        refine ⟨by simp, .inl ⟨_, _, rfl, run_takeDeferred GD2.out, ?_⟩⟩
        refine ⟨_, results_tmp rfl _ _ _, ?_, ?_⟩
        · rw [HTX.out]
          rfl
        · exact G4.out.trans ((BL.out.mono (by omega)).trans (belowK_b (w := w) (Nat.le_refl _) _ D _ _ (by omega) GD2.out rfl rfl))
end Go.Proofs.YthkioajalhglfaaGreatDoor
