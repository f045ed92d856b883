/-
 Texts laid together.
-/
import Derived.Test.YtklgpilgalfckaaGreatDoorMA3
import Derived.Test.YtklgpilgalfckaaGreatDoorMA1
import Derived.BigQuiet
set_option maxRecDepth 100000
set_option maxHeartbeats 8000000
namespace Go.Proofs.YtklgpilgalfckaaGreatDoor
open Go.RowKit Go.KP Go.KI Go.Shelf
attribute [local go_sem] Oper.semAt_some

theorem dec9 {n : Nat} (h : n < 1000000000) : (Lib.decDigits n).length ≤ 9 := (yn (by omega)).2 (by simpa using h)
theorem yhF {l : List Nat} (h : Norm 1000000000 l) : ∀ k, k ≤ l.length → (upText l k).length ≤ 9 * k := by
 intro k
 induction k with
 |zero => intro _; simp [wK]
 |succ k ih =>
  intro hk
  have h9 := dec9 (yF (by omega) h.lt (l.length - 1 - k))
  rcases Nat.eq_zero_or_pos k with h0 | h0
  ·subst h0
   rw [ybm (by omega)]
   have : l.length - 1 - 0 = l.length - 1 := by omega
   rw [this] at h9
   omega
  ·rw [ydL h (by omega) h0]
   have := ih (by omega)
   simp only [List.length_append, List.length_replicate]
   omega
theorem repeat48 (c : Nat) : Lib.repeatL [48] c = List.replicate c 48 := by
 induction c with
 |zero => rfl
 |succ n ih => simp [Lib.repeatL, ih, List.replicate_succ]
theorem ybW {m : Bool} {n : Nat} (h : 1 ≤ n) : Lib.itoa (valS m n) = (if m then [45] else []) ++ Lib.decDigits n := by
 cases m
 ·show Lib.itoa (n : Int) = _
  rw [Lib.itoa_nonneg]
  rfl
 ·show Lib.itoa (-(n : Int)) = _
  rw [Lib.itoa_neg n h]
  rfl
theorem zv (a b : List UInt8) : Lib.byteCells a ++ Lib.strCells (strB b) = Lib.byteCells (a ++ b) := by
 rw [show Lib.strCells (strB b) = Lib.byteCells b from rfl]
 simp [Lib.byteCells]
theorem jq (a : List UInt8) : (Lib.byteCells a).length = a.length := by simp [Lib.byteCells]
theorem ky (s : ByteArray) : (Lib.strCells s).length = s.size := by
 show (Lib.byteCells s.data.toList).length = _
 rw [jq, yg]
theorem yaC {T e : TypeId} {B b : Nat} {bs : List Value} {w : World} (h : Lib.IsBuilderF T e B b bs w) : b < w.heap.size := by
 rcases h with ⟨_, v, h2, _⟩ | ⟨_, v, h2, _⟩ <;> exact yd h2
theorem yaN {bb i : Nat} {W W2 : World} {cs : Array Value} (h : Lib.OthersKept 5 (some bb) W W2) (hi : i ≠ bb) (hb : W.heap[i]? = some (.cells cs 199 (0, 0))) : W2.heap[i]? = some (.cells cs 199 (0, 0)) :=
 h i _ hb (fun e => hi (Option.some.inj e)) (fun c fz e => by injection e with _ e _; exact absurd e (by decide))
theorem yfp (m : Bool) (v : Value) (l : List Nat) (B : Nat) (w : World) (h : LimbAt B w v l) (hB : B ≤ w.heap.size) (hn : Norm 1000000000 l) (hl : l.length ≤ 100000) (hT : P10 B w) :
 Calls Tryz.prog 216 #[numV m v] w (Ret w (.string (strB (Lib.itoa (valS m (lv 1000000000 l)))))) := by
 obtain ⟨a0, c0, hv⟩ := h.form
 subst hv
 have HL := hide h; have HN := hide hn; have HT := hide hT
 clear h hn hT
 obtain ⟨n, hnn⟩ := xe l.length
 have HNN := hide hnn
 rw [← hnn] at hl ⊢
 clear hnn
 obtain ⟨b0, bs0, bb0⟩ := heap1 w (.cells #[.bool m, .slice a0 n c0] 207)
 refine (callsIn_wide (n := 0)).1 ?_
 refine callsIn_of_wp_marks Tryz.func216 rfl trivial ?_ rfl
 simp only [Tryz.ntmps216, List.size_toArray, List.length_cons, List.length_nil, Nat.reduceAdd, Nat.reduceSub, Array.replicate_succ, Array.replicate_zero, List.push_toArray, List.append_toArray, List.nil_append, List.cons_append]
 by_cases h0 : n = 0
 ·have hnil : l = [] := List.eq_nil_of_length_eq_zero (HNN.out.symm.trans h0)
  have hq : ((n : Int) == 0) = true := by rw [h0]; rfl
  have HE := hide (show Lib.itoa (valS m (lv 1000000000 l)) = [48] by
   rw [hnil, ycI]
   cases m <;> exact yP)
  have BB := hide bb0
  clear h0 hnil b0 bs0 bb0
  gi_wp2_with fail
  rw [HE.out]
  exact ⟨_, results_tmp rfl _ _ _, rfl, BB.out⟩
 ·have hq : ((n : Int) == 0) = false := by simpa using h0
  obtain ⟨b1, bs1, bb1⟩ := heap1 (w.alloc (.cells #[.bool m, .slice a0 n c0] 207)) (.cells #[.pointer none, .slice none 0 0] 261)
  obtain ⟨w1, hw1⟩ : ∃ w1, (w.alloc (.cells #[.bool m, .slice a0 n c0] 207)).alloc (.cells #[.pointer none, .slice none 0 0] 261) = w1 := ⟨_, rfl⟩
  have e0 := yc bb1 b0 (by omega)
  have eb := bb0.trans (bb1.mono (by omega))
  rw [hw1] at b1 bs1 e0 eb
  rw [bs0] at b1 bs1
  have E0 := hide e0; have E1 := hide (ycS b1); have EB := hide eb
  have c1 := ya e0 0
  have c2 := ya e0 1
  have hs1 : w.heap.size + 2 ≤ w1.heap.size := by omega
  clear b0 bs0 bb0 b1 bs1 bb1 e0 eb
  obtain ⟨pre, hpre⟩ : ∃ pre : List UInt8, pre = if m then [45] else [] := ⟨_, rfl⟩
  have HPRE := hide hpre
  have hne : l ≠ [] := fun e => h0 (by rw [HNN.out, e]; rfl)
  have hpos : 1 ≤ lv 1000000000 l := by
   have h1 := HN.out.ge hne
   have h2 : 0 < 1000000000 ^ (l.length - 1) := Nat.pow_pos (by omega)
   omega
  have HTX := hide (show Lib.itoa (valS m (lv 1000000000 l)) = pre ++ upText l n by rw [ybW hpos, ← hpre, HNN.out, yiz hne])
  clear hpos hne
  have hpl : pre.length ≤ 1 := by rw [hpre]; cases m <;> simp
  clear hpre
  cases m
  case' true =>
   gi_wp2_with fail
   refine ⟨trivial, rfl, (callsIn_wide.2 (wByte (w.heap.size + 1) (w.heap.size + 1) [] 45 w1 E1.out (by simp) (by omega))).mono ?_⟩
   rintro e w2 ⟨rfl, hb2, bl2, ok2⟩
   have E0' := hide (show w2.heap[w.heap.size]? = some (.cells #[.bool true, .slice a0 n c0] 207 (0, 0)) from yc bl2 E0.out (by omega))
   have E1' := hide (show Lib.IsBuilderF 261 5 (w.heap.size + 1) (w.heap.size + 1) (Lib.byteCells pre) w2 by rw [HPRE.out]; exact .inr hb2)
   have EB' := hide (EB.out.trans (bl2.mono (by omega)))
   have hs1' : w.heap.size + 2 ≤ w2.heap.size := by have := bl2.size; omega
   clear hb2 bl2 ok2 E0 E1 EB c1 c2 hs1 hw1
   obtain ⟨w1, rfl⟩ := xe w2
   have E0 := E0'; have E1 := E1'; have EB := EB'; have hs1 := hs1'
   clear E0' E1' EB' hs1'
   have c1 := ya E0.out 0
   have c2 := ya E0.out 1
   gi_wp2_with fail
  case' false =>
   have E1' := hide (show Lib.IsBuilderF 261 5 (w.heap.size + 1) (w.heap.size + 1) (Lib.byteCells pre) w1 by rw [HPRE.out]; exact E1.out)
   clear E1
   have E1 := E1'
   clear E1'
   gi_wp2_with fail
   clear hw1
  all_goals
   refine ⟨trivial, rfl, (callsIn_wide.2 (qM a0 n c0 w1)).mono ?_⟩
   rintro e w3 ⟨rfl, hw3⟩
   obtain ⟨b3, bs3, bb3⟩ := heap1 w1 (.cells #[.slice a0 n c0] 199)
   rw [hw3] at b3 bs3 bb3
   have F0 := hide (yc bb3 E0.out (by omega))
   have F1 := hide (show Lib.IsBuilderF 261 5 (w.heap.size + 1) (w.heap.size + 1) (Lib.byteCells pre) w3 from zp E1.out (fun i cs t fz h => yc bb3 h (yd h)))
   have F2 := hide b3; have FB := hide (EB.out.trans (bb3.mono (by omega)))
   have hs3 : w1.heap.size < w3.heap.size := by omega
   clear b3 bs3 bb3 E0 E1 EB c1 c2
   gi_wp2_with fail
  case neg.false =>
   refine ks (gf := 269) (lb := #[.pointer (some ⟨w1.heap.size, 0, none⟩)]) rfl (enters_of Tryz.func269 (by kernel_rfl) rfl) (kJ w1.heap.size n c0 a0 (fun k => (lat l (n - 1 - k) : Nat)) (by omega)) (fun _ => rfl)
    (fun k S W => S = SU (w.heap.size + 1) W ∧ Lib.IsBuilderF 261 5 (w.heap.size + 1) (w.heap.size + 1) (Lib.byteCells (pre ++ upText l k)) W ∧ W.heap[w.heap.size]? = some (.cells #[.bool false, .slice a0 n c0] 207 (0, 0)) ∧ W.heap[w1.heap.size]? = some (.cells #[.slice a0 n c0] 199 (0, 0)) ∧ Below w.heap.size w W)
    (fun _ _ _ => False) ?hI (fun _ _ _ _ h _ => h) (S0 := SU (w.heap.size + 1) w3) ?h0 ?hke
    (fun k S a1' W => a1' = { tmps := #[numV false (.slice a0 n c0), .pointer (some ⟨w.heap.size, 0, none⟩), .string ⟨#[]⟩, .pointer (some ⟨w.heap.size + 1, 0, none⟩), .int .i64 ((n : Int) - 1 - k), .int .i64 (lat l (n - 1 - k)), undef, .pointer (some ⟨w.heap.size, 1, none⟩), .slice a0 n c0, .int .i64 n, .bool false, .pointer (some ⟨w.heap.size, 0, none⟩), .bool false, undef, .pointer (some ⟨w.heap.size, 1, none⟩), .slice a0 n c0, .func (.func 269) #[] #[.pointer (some ⟨w1.heap.size, 0, none⟩)], .int .i64 ((n : Int) - 1 - k), .int .i64 (lat l (n - 1 - k)), undef, undef, undef, undef, undef, undef, undef, undef, undef, undef, undef, undef, undef, undef, undef, undef], defers := [] })
    ?hAx ?hassign ?hS ?hbody ?hdone ?hstop
   case hI =>
    rintro k S W W2 ⟨rfl, h1, h2, h3, h4⟩ hq
    exact ⟨(ydR hq).symm, zp h1 hq.old, hq.old _ _ _ _ h2, hq.old _ _ _ _ h3, ⟨h4.os.symm ▸ hq.os, h4.tape.symm ▸ hq.tape, h4.output.symm ▸ hq.output, Nat.le_trans h4.size hq.size, fun j hj => (hq.kept j (by omega) (by have := h4.size; omega)).trans (h4.block j hj)⟩⟩
   case h0 =>
    refine ⟨rfl, ?_, F0.out, F2.out, FB.out⟩
    rw [wK, List.append_nil]
    exact F1.out
   case hke =>
    rintro k S W hk ⟨rfl, h1, h2, h3, h4⟩
    refine ⟨h3, fun hlt => ?_⟩
    have hL := HL.out
    rw [← HNN.out] at hL
    rcases LimbAt.cases (l := l) (by rw [HNN.out] at hL; exact hL) with ⟨a, c, e1, e2⟩ | ⟨g, o, cap, e1, e2, e3⟩
    ·subst e2
     have := HNN.out
     simp at this
     omega
    ·injection e1 with e1 _ _
     refine ⟨g, o, e1, ?_⟩
     have h5 := e3 (n - 1 - k) (by rw [← HNN.out]; omega)
     have h6 : W.heap[g]? = w.heap[g]? := h4.block g (by omega)
     rw [← h5]
     simp [World.cell?, h6]
   case hAx =>
    rintro k S a1' W l r r2 h _
    exact h
   case hassign =>
    intro lp k S W K hsz hSlt hK
    have HK := hide hK
    clear hK
    gi_wp2
    exact HK.out _ rfl
   case hS =>
    rintro k S W ⟨rfl, h1, _⟩ b (rfl | ⟨cur, fz, hb⟩)
    ·exact yaC h1
    ·exact yd hb
   case hstop =>
    intro D c S W _ h
    exact h.elim
   case hbody =>
    rintro lp k S a1' W hk ⟨rfl, h1, h2, h3, h4⟩ rfl hsz
    obtain ⟨d, hd⟩ := xe (lat l (n - 1 - k))
    rw [← hd]
    have hdl : d < 1000000000 := by rw [hd]; exact yF (by omega) HN.out.lt _
    obtain ⟨t, ht⟩ := xe (strB (Lib.itoa d))
    have htb : strB (Lib.decDigits d) = t := by rw [ht, Lib.itoa_nonneg]
    have hts : t.size ≤ 9 := by rw [← htb, yu]; exact dec9 hdl
    have hlen : (Lib.byteCells (pre ++ upText l k)).length ≤ 1 + 9 * k := by
     rw [jq, List.length_append]
     have := yhF HN.out k (by rw [← HNN.out]; omega)
     omega
    have hTW : P10 B W := fun w' hb => HT.out w' ((h4.mono hB).trans hb)
    have hsz1 : w.heap.size + 1 < W.heap.size := by omega
    have c1 := ya h2 0
    have c2 := ya h2 1
    have G1 := hide h1; have G2 := hide h2; have G3 := hide h3; have G4 := hide h4; have HTW := hide hTW; have HD := hide hd; have HTT := hide ht; have HTB := hide htb; have HLN := hide hlen
    clear h1 h2 h3 h4 hTW hd ht htb F0 F1 F2 FB hw3 hlen
    gi_wp2_with fail
    refine ⟨trivial, rfl, (CallsIn.inRound lp (callsIn_wide.2 (yl d (by omega) (by omega) B W HTW.out))).mono ?_⟩
    rw [← HTT.out]
    rintro e W2 ⟨rfl, hb2⟩
    have K1 := hide (zp G1.out (fun i cs t fz h => yc hb2 h (yd h)))
    have K2 := bh hb2 G2; have K3 := bh hb2 G3; have K4 := hide (G4.out.trans (hb2.mono (by omega)))
    have hsz2 : W.heap.size ≤ W2.heap.size := hb2.size
    have KB := hide hb2
    have c1 := ya K2.out 0
    have c2 := ya K2.out 1
    clear hb2 G1 G2 G3 G4 HTW
    by_cases hk0 : k = 0
    ·have hte : ((n : Int) - 1 - (k : Int) < (n : Int) - 1) = False := eq_false (by omega)
     gi_wp2_with fail
     refine ⟨trivial, rfl, (CallsIn.inRound lp (callsIn_wide.2 (wString (w.heap.size + 1) (w.heap.size + 1) _ t W2 K1.out (by have := HLN.out; omega) (by omega)))).mono ?_⟩
     rintro e W4 ⟨rfl, hf, bl4, ok4⟩
     have HF := hide hf; have BL := hide bl4; have OK := hide ok4
     clear hf bl4 ok4
     gi_wp2_with fail
     refine ⟨_, ybB (b := w.heap.size + 1) (Nat.le_trans hsz2 BL.out.size) (fun i o hi hib hio => OK.out i o (yc KB.out hi (yd hi)) (by intro e; injection e with e; exact hib e) hio), rfl, ?_, yc BL.out K2.out (by omega), yaN OK.out (by omega) K3.out, K4.out.trans (BL.out.mono (by omega))⟩
     have h1 := HF.out
     rw [← HTB.out, zv, hk0, wK, List.append_nil, HD.out, hk0] at h1
     rw [hk0, ybm (by rw [← HNN.out]; omega), ← HNN.out]
     exact .inr h1
    ·have hte : (n : Int) - 1 - (k : Int) < (n : Int) - 1 := by omega
     obtain ⟨q, hq9⟩ : ∃ q : Nat, (9 : Int) - (t.size : Int) = (q : Int) := ⟨9 - t.size, by omega⟩
     have HQ := hide (show q = 9 - t.size by omega)
     have hqs : q ≤ 9 := by omega
     gi_wp2_with fail
     clear hq9
     refine ⟨trivial, rfl, (CallsIn.inRound lp (callsIn_wide.2 (xS ⟨#[48]⟩ q W2 (by omega) (by decide)))).mono ?_⟩
     rw [show (⟨#[48]⟩ : ByteArray).data.toList = [48] from rfl, repeat48]
     rintro e W3 ⟨rfl, hb3⟩
     have L1 := hide (zp K1.out (fun i cs t fz h => yc hb3 h (yd h)))
     have L2 := bh hb3 K2; have L3 := bh hb3 K3; have L4 := hide (K4.out.trans (hb3.mono (by omega)))
     have hsz3 : W2.heap.size ≤ W3.heap.size := hb3.size
     have LB := hide hb3
     obtain ⟨z, hz⟩ := xe (strB (List.replicate q 48))
     rw [← hz]
     have hzs : z.size ≤ 9 := by rw [hz, yu]; simp; omega
     have HZ := hide hz
     clear hb3 K1 K2 K3 K4 c1 c2 hz
     gi_wp2_with fail
     refine ⟨trivial, rfl, (CallsIn.inRound lp (callsIn_wide.2 (wString (w.heap.size + 1) (w.heap.size + 1) _ z W3 L1.out (by have := HLN.out; omega) (by omega)))).mono ?_⟩
     rintro e W4 ⟨rfl, hf, bl4, ok4⟩
     have HF := hide (show Lib.IsBuilderF 261 5 (w.heap.size + 1) (w.heap.size + 1) _ W4 from .inr hf); have BL := hide bl4; have OK := hide ok4
     have hsz4 : W3.heap.size ≤ W4.heap.size := bl4.size
     clear hf bl4 ok4
     gi_wp2_with fail
     refine ⟨trivial, rfl, (CallsIn.inRound lp (callsIn_wide.2 (wString (w.heap.size + 1) (w.heap.size + 1) _ t W4 HF.out (by have := HLN.out; rw [List.length_append, ky z]; omega) (by omega)))).mono ?_⟩
     rintro e W5 ⟨rfl, hf, bl5, ok5⟩
     have HF2 := hide hf; have BL5 := hide bl5; have OK5 := hide ok5
     clear hf bl5 ok5
     gi_wp2_with fail
     refine ⟨_, ybB (b := w.heap.size + 1) (Nat.le_trans hsz2 (Nat.le_trans hsz3 (Nat.le_trans hsz4 BL5.out.size))) (fun i o hi hib hio => OK5.out i o (OK.out i o (yc LB.out (yc KB.out hi (yd hi)) (by have := yd hi; omega)) (by intro e; injection e with e; exact hib e) hio) (by intro e; injection e with e; exact hib e) hio), rfl, ?_, yc BL5.out (yc BL.out L2.out (by omega)) (by omega), yaN OK5.out (by omega) (yaN OK.out (by omega) L3.out), L4.out.trans ((BL.out.mono (by omega)).trans (BL5.out.mono (by omega)))⟩
     have h1 := HF2.out
     rw [HZ.out, zv, ← HTB.out, zv, HQ.out, ← HTB.out, yu, HD.out, HNN.out] at h1
     rw [ydL HN.out (by rw [← HNN.out]; omega) (by omega)]
     rw [List.append_assoc, List.append_assoc] at h1
     exact .inr h1
   case hdone =>
    rintro D S W hD ⟨rfl, h1, h2, h3, h4⟩ hDf
    have G1 := hide h1; have G4 := hide h4; have GD := hide hDf
    have hsz1 : w.heap.size + 1 < W.heap.size := by have := yd hDf; omega
    clear h1 h2 h3 h4 hDf F0 F1 F2 FB hw3
    gi_wp2_with fail
    refine ⟨trivial, rfl, (callsIn_wide.2 (wGive (w.heap.size + 1) (w.heap.size + 1) (pre ++ upText l n) W G1.out (by omega))).mono ?_⟩
    rintro e W2 ⟨rfl, hf, bl, ok⟩
    have BL := hide bl
    have GD2 := hide (ok D _ GD.out (by intro e; injection e with e; omega) (fun c fz e => by cases e))
    clear hf bl ok
    gi_wp2_with fail
    refine ⟨by simp, .inl ⟨_, _, rfl, run_takeDeferred GD2.out, ?_⟩⟩
    refine ⟨_, results_tmp rfl _ _ _, ?_, ?_⟩
    ·rw [HTX.out]
     rfl
    ·exact G4.out.trans ((BL.out.mono (by omega)).trans (belowK_b (w := w) (Nat.le_refl _) _ D _ _ (by omega) GD2.out rfl rfl))
  case neg.true =>
   refine ks (gf := 269) (lb := #[.pointer (some ⟨w1.heap.size, 0, none⟩)]) rfl (enters_of Tryz.func269 (by kernel_rfl) rfl) (kJ w1.heap.size n c0 a0 (fun k => (lat l (n - 1 - k) : Nat)) (by omega)) (fun _ => rfl)
    (fun k S W => S = SU (w.heap.size + 1) W ∧ Lib.IsBuilderF 261 5 (w.heap.size + 1) (w.heap.size + 1) (Lib.byteCells (pre ++ upText l k)) W ∧ W.heap[w.heap.size]? = some (.cells #[.bool true, .slice a0 n c0] 207 (0, 0)) ∧ W.heap[w1.heap.size]? = some (.cells #[.slice a0 n c0] 199 (0, 0)) ∧ Below w.heap.size w W)
    (fun _ _ _ => False) ?hI (fun _ _ _ _ h _ => h) (S0 := SU (w.heap.size + 1) w3) ?h0 ?hke
    (fun k S a1' W => a1' = { tmps := #[numV true (.slice a0 n c0), .pointer (some ⟨w.heap.size, 0, none⟩), .string ⟨#[]⟩, .pointer (some ⟨w.heap.size + 1, 0, none⟩), .int .i64 ((n : Int) - 1 - k), .int .i64 (lat l (n - 1 - k)), undef, .pointer (some ⟨w.heap.size, 1, none⟩), .slice a0 n c0, .int .i64 n, .bool false, .pointer (some ⟨w.heap.size, 0, none⟩), .bool true, .nilIface, .pointer (some ⟨w.heap.size, 1, none⟩), .slice a0 n c0, .func (.func 269) #[] #[.pointer (some ⟨w1.heap.size, 0, none⟩)], .int .i64 ((n : Int) - 1 - k), .int .i64 (lat l (n - 1 - k)), undef, undef, undef, undef, undef, undef, undef, undef, undef, undef, undef, undef, undef, undef, undef, undef], defers := [] })
    ?hAx ?hassign ?hS ?hbody ?hdone ?hstop
   case hI =>
    rintro k S W W2 ⟨rfl, h1, h2, h3, h4⟩ hq
    exact ⟨(ydR hq).symm, zp h1 hq.old, hq.old _ _ _ _ h2, hq.old _ _ _ _ h3, ⟨h4.os.symm ▸ hq.os, h4.tape.symm ▸ hq.tape, h4.output.symm ▸ hq.output, Nat.le_trans h4.size hq.size, fun j hj => (hq.kept j (by omega) (by have := h4.size; omega)).trans (h4.block j hj)⟩⟩
   case h0 =>
    refine ⟨rfl, ?_, F0.out, F2.out, FB.out⟩
    rw [wK, List.append_nil]
    exact F1.out
   case hke =>
    rintro k S W hk ⟨rfl, h1, h2, h3, h4⟩
    refine ⟨h3, fun hlt => ?_⟩
    have hL := HL.out
    rw [← HNN.out] at hL
    rcases LimbAt.cases (l := l) (by rw [HNN.out] at hL; exact hL) with ⟨a, c, e1, e2⟩ | ⟨g, o, cap, e1, e2, e3⟩
    ·subst e2
     have := HNN.out
     simp at this
     omega
    ·injection e1 with e1 _ _
     refine ⟨g, o, e1, ?_⟩
     have h5 := e3 (n - 1 - k) (by rw [← HNN.out]; omega)
     have h6 : W.heap[g]? = w.heap[g]? := h4.block g (by omega)
     rw [← h5]
     simp [World.cell?, h6]
   case hAx =>
    rintro k S a1' W l r r2 h _
    exact h
   case hassign =>
    intro lp k S W K hsz hSlt hK
    have HK := hide hK
    clear hK
    gi_wp2
    exact HK.out _ rfl
   case hS =>
    rintro k S W ⟨rfl, h1, _⟩ b (rfl | ⟨cur, fz, hb⟩)
    ·exact yaC h1
    ·exact yd hb
   case hstop =>
    intro D c S W _ h
    exact h.elim
   case hbody =>
    rintro lp k S a1' W hk ⟨rfl, h1, h2, h3, h4⟩ rfl hsz
    obtain ⟨d, hd⟩ := xe (lat l (n - 1 - k))
    rw [← hd]
    have hdl : d < 1000000000 := by rw [hd]; exact yF (by omega) HN.out.lt _
    obtain ⟨t, ht⟩ := xe (strB (Lib.itoa d))
    have htb : strB (Lib.decDigits d) = t := by rw [ht, Lib.itoa_nonneg]
    have hts : t.size ≤ 9 := by rw [← htb, yu]; exact dec9 hdl
    have hlen : (Lib.byteCells (pre ++ upText l k)).length ≤ 1 + 9 * k := by
     rw [jq, List.length_append]
     have := yhF HN.out k (by rw [← HNN.out]; omega)
     omega
    have hTW : P10 B W := fun w' hb => HT.out w' ((h4.mono hB).trans hb)
    have hsz1 : w.heap.size + 1 < W.heap.size := by omega
    have c1 := ya h2 0
    have c2 := ya h2 1
    have G1 := hide h1; have G2 := hide h2; have G3 := hide h3; have G4 := hide h4; have HTW := hide hTW; have HD := hide hd; have HTT := hide ht; have HTB := hide htb; have HLN := hide hlen
    clear h1 h2 h3 h4 hTW hd ht htb F0 F1 F2 FB hw3 hlen
    gi_wp2_with fail
    refine ⟨trivial, rfl, (CallsIn.inRound lp (callsIn_wide.2 (yl d (by omega) (by omega) B W HTW.out))).mono ?_⟩
    rw [← HTT.out]
    rintro e W2 ⟨rfl, hb2⟩
    have K1 := hide (zp G1.out (fun i cs t fz h => yc hb2 h (yd h)))
    have K2 := bh hb2 G2; have K3 := bh hb2 G3; have K4 := hide (G4.out.trans (hb2.mono (by omega)))
    have hsz2 : W.heap.size ≤ W2.heap.size := hb2.size
    have KB := hide hb2
    have c1 := ya K2.out 0
    have c2 := ya K2.out 1
    clear hb2 G1 G2 G3 G4 HTW
    by_cases hk0 : k = 0
    ·have hte : ((n : Int) - 1 - (k : Int) < (n : Int) - 1) = False := eq_false (by omega)
     gi_wp2_with fail
     refine ⟨trivial, rfl, (CallsIn.inRound lp (callsIn_wide.2 (wString (w.heap.size + 1) (w.heap.size + 1) _ t W2 K1.out (by have := HLN.out; omega) (by omega)))).mono ?_⟩
     rintro e W4 ⟨rfl, hf, bl4, ok4⟩
     have HF := hide hf; have BL := hide bl4; have OK := hide ok4
     clear hf bl4 ok4
     gi_wp2_with fail
     refine ⟨_, ybB (b := w.heap.size + 1) (Nat.le_trans hsz2 BL.out.size) (fun i o hi hib hio => OK.out i o (yc KB.out hi (yd hi)) (by intro e; injection e with e; exact hib e) hio), rfl, ?_, yc BL.out K2.out (by omega), yaN OK.out (by omega) K3.out, K4.out.trans (BL.out.mono (by omega))⟩
     have h1 := HF.out
     rw [← HTB.out, zv, hk0, wK, List.append_nil, HD.out, hk0] at h1
     rw [hk0, ybm (by rw [← HNN.out]; omega), ← HNN.out]
     exact .inr h1
    ·have hte : (n : Int) - 1 - (k : Int) < (n : Int) - 1 := by omega
     obtain ⟨q, hq9⟩ : ∃ q : Nat, (9 : Int) - (t.size : Int) = (q : Int) := ⟨9 - t.size, by omega⟩
     have HQ := hide (show q = 9 - t.size by omega)
     have hqs : q ≤ 9 := by omega
     gi_wp2_with fail
     clear hq9
     refine ⟨trivial, rfl, (CallsIn.inRound lp (callsIn_wide.2 (xS ⟨#[48]⟩ q W2 (by omega) (by decide)))).mono ?_⟩
     rw [show (⟨#[48]⟩ : ByteArray).data.toList = [48] from rfl, repeat48]
     rintro e W3 ⟨rfl, hb3⟩
     have L1 := hide (zp K1.out (fun i cs t fz h => yc hb3 h (yd h)))
     have L2 := bh hb3 K2; have L3 := bh hb3 K3; have L4 := hide (K4.out.trans (hb3.mono (by omega)))
     have hsz3 : W2.heap.size ≤ W3.heap.size := hb3.size
     have LB := hide hb3
     obtain ⟨z, hz⟩ := xe (strB (List.replicate q 48))
     rw [← hz]
     have hzs : z.size ≤ 9 := by rw [hz, yu]; simp; omega
     have HZ := hide hz
     clear hb3 K1 K2 K3 K4 c1 c2 hz
     gi_wp2_with fail
     refine ⟨trivial, rfl, (CallsIn.inRound lp (callsIn_wide.2 (wString (w.heap.size + 1) (w.heap.size + 1) _ z W3 L1.out (by have := HLN.out; omega) (by omega)))).mono ?_⟩
     rintro e W4 ⟨rfl, hf, bl4, ok4⟩
     have HF := hide (show Lib.IsBuilderF 261 5 (w.heap.size + 1) (w.heap.size + 1) _ W4 from .inr hf); have BL := hide bl4; have OK := hide ok4
     have hsz4 : W3.heap.size ≤ W4.heap.size := bl4.size
     clear hf bl4 ok4
     gi_wp2_with fail
     refine ⟨trivial, rfl, (CallsIn.inRound lp (callsIn_wide.2 (wString (w.heap.size + 1) (w.heap.size + 1) _ t W4 HF.out (by have := HLN.out; rw [List.length_append, ky z]; omega) (by omega)))).mono ?_⟩
     rintro e W5 ⟨rfl, hf, bl5, ok5⟩
     have HF2 := hide hf; have BL5 := hide bl5; have OK5 := hide ok5
     clear hf bl5 ok5
     gi_wp2_with fail
     refine ⟨_, ybB (b := w.heap.size + 1) (Nat.le_trans hsz2 (Nat.le_trans hsz3 (Nat.le_trans hsz4 BL5.out.size))) (fun i o hi hib hio => OK5.out i o (OK.out i o (yc LB.out (yc KB.out hi (yd hi)) (by have := yd hi; omega)) (by intro e; injection e with e; exact hib e) hio) (by intro e; injection e with e; exact hib e) hio), rfl, ?_, yc BL5.out (yc BL.out L2.out (by omega)) (by omega), yaN OK5.out (by omega) (yaN OK.out (by omega) L3.out), L4.out.trans ((BL.out.mono (by omega)).trans (BL5.out.mono (by omega)))⟩
     have h1 := HF2.out
     rw [HZ.out, zv, ← HTB.out, zv, HQ.out, ← HTB.out, yu, HD.out, HNN.out] at h1
     rw [ydL HN.out (by rw [← HNN.out]; omega) (by omega)]
     rw [List.append_assoc, List.append_assoc] at h1
     exact .inr h1
   case hdone =>
    rintro D S W hD ⟨rfl, h1, h2, h3, h4⟩ hDf
    have G1 := hide h1; have G4 := hide h4; have GD := hide hDf
    have hsz1 : w.heap.size + 1 < W.heap.size := by have := yd hDf; omega
    clear h1 h2 h3 h4 hDf F0 F1 F2 FB hw3
    gi_wp2_with fail
    refine ⟨trivial, rfl, (callsIn_wide.2 (wGive (w.heap.size + 1) (w.heap.size + 1) (pre ++ upText l n) W G1.out (by omega))).mono ?_⟩
    rintro e W2 ⟨rfl, hf, bl, ok⟩
    have BL := hide bl
    have GD2 := hide (ok D _ GD.out (by intro e; injection e with e; omega) (fun c fz e => by cases e))
    clear hf bl ok
    gi_wp2_with fail
    refine ⟨by simp, .inl ⟨_, _, rfl, run_takeDeferred GD2.out, ?_⟩⟩
    refine ⟨_, results_tmp rfl _ _ _, ?_, ?_⟩
    ·rw [HTX.out]
     rfl
    ·exact G4.out.trans ((BL.out.mono (by omega)).trans (belowK_b (w := w) (Nat.le_refl _) _ D _ _ (by omega) GD2.out rfl rfl))

theorem P10.on {B n : Nat} {w w2 : World} (h : P10 B w) (hb : Below n w w2) (hB : B ≤ n) : P10 B w2 := fun w' h2 => h w' ((hb.mono hB).trans h2)
theorem yeS {m : Bool} {l : List Nat} (h : Norm 1000000000 l) (hf : fits (valS m (lv 1000000000 l))) : l.length ≤ 40 := by
 rcases Nat.lt_or_ge 40 l.length with hl | hl
 ·exfalso
  have hne : l ≠ [] := fun e => by rw [e] at hl; simp at hl
  have h1 := h.ge hne
  have h2 : lv 1000000000 l < lim := by
   have : (valS m (lv 1000000000 l)).natAbs = lv 1000000000 l := by cases m <;> simp [valS]
   rw [← this]
   exact hf
  have h3 : lim ≤ 1000000000 ^ (l.length - 1) := by
   have e1 : (1000000000 : Nat) ^ (l.length - 1) = 10 ^ (9 * (l.length - 1)) := by rw [Nat.pow_mul]
   rw [e1]
   exact Nat.pow_le_pow_right (by omega) (by rw [yC]; omega)
  omega
 ·exact hl
theorem yfy (z : Int) : (strB (digs (Lib.itoa z))).size = (Lib.decDigits z.natAbs).length := by rw [yu, yQ]
theorem ygZ {z : Int} (h : ¬ 300 < (Lib.decDigits z.natAbs).length) : resS z = Lib.itoa z ∧ resE z = 0 := by
 have : fits z := zb.2 (by omega)
 exact ⟨if_pos this, if_pos this⟩
theorem yhN {z : Int} (h : 300 < (Lib.decDigits z.natAbs).length) : resS z = [] ∧ resE z = 4 := by
 have : ¬ fits z := fun hf => by have := zb.1 hf; omega
 exact ⟨if_neg this, if_neg this⟩
abbrev pairV (s : List UInt8) (e : Int) : Value := .tuple #[.string (strB s), .int .i64 e]
theorem zw (m : Bool) (v : Value) (l : List Nat) (B : Nat) (w : World) (h : LimbAt B w v l) (hB : B ≤ w.heap.size) (hn : Norm 1000000000 l) (hl : l.length ≤ 100000) (hT : P10 B w) :
 Calls Tryz.prog 170 #[numV m v] w (Ret w (pairV (resS (valS m (lv 1000000000 l))) (resE (valS m (lv 1000000000 l))))) := by
 obtain ⟨a0, c0, hv⟩ := h.form
 subst hv
 have HW := hide (fun w2 (hb : Below w.heap.size w w2) => yfp m _ l B w2 (h.below hb hB) (by have := hb.size; omega) hn hl (hT.on hb hB))
 clear h hn hT
 obtain ⟨n, hnn⟩ := xe l.length
 rw [← hnn] at hl HW ⊢
 clear hnn
 obtain ⟨z, hz⟩ := xe (valS m (lv 1000000000 l))
 rw [← hz] at HW ⊢
 clear hz
 obtain ⟨b0, bs0, bb0⟩ := heap1 w (.cells #[.bool m, .slice a0 n c0] 207)
 have B0 := hide b0; have BB := hide bb0
 have c0' := ya b0 0
 have c1' := ya b0 1
 clear b0 bs0 bb0
 have hd := yfy z
 obtain ⟨t, ht⟩ := xe (strB (Lib.itoa z))
 obtain ⟨u, hu⟩ := xe (strB (digs (Lib.itoa z)))
 have HU := hide (fun w => zm t w)
 have HT2 := hide ht
 rw [show digs t.data.toList = digs (Lib.itoa z) by rw [ht, yh], ← hu] at HU
 rw [← ht] at HW
 rw [← hu] at hd
 by_cases h3 : 300 < (Lib.decDigits z.natAbs).length
 ·obtain ⟨e1, e2⟩ := yhN h3
  rw [e1, e2]
  have hc : (300 : Int) < (u.size : Int) := by omega
  have HT3 := hide ht
  clear h3 hd ht hu e1 e2
  go_enter Tryz.func170, Tryz.ntmps170
  go_wp2_with fail
  refine (HW.out _ BB.out).mono ?_
  rintro e w1 ⟨rfl, hb1⟩
  have HB1 := hide (BB.out.trans (hb1.mono (by have := BB.out.size; omega)))
  clear hb1 HW c0' c1' BB B0
  go_wp2_with fail
  refine (HU.out _).mono ?_
  rintro e w2 ⟨rfl, rfl⟩
  clear HU
  go_wp2_with fail
  refine bodyPost_ret (results_tmp2 rfl _ _ _) rfl ?_
  exact ⟨rfl, HB1.out⟩
 ·obtain ⟨e1, e2⟩ := ygZ h3
  rw [e1, e2]
  have hc : ((300 : Int) < (u.size : Int)) = False := eq_false (by omega)
  have HT3 := hide ht
  clear h3 hd ht hu e1 e2
  go_enter Tryz.func170, Tryz.ntmps170
  go_wp2_with fail
  refine (HW.out _ BB.out).mono ?_
  rintro e w1 ⟨rfl, hb1⟩
  have HB1 := hide (BB.out.trans (hb1.mono (by have := BB.out.size; omega)))
  clear hb1 HW c0' c1' BB B0
  go_wp2_with fail
  refine (HU.out _).mono ?_
  rintro e w2 ⟨rfl, rfl⟩
  clear HU
  go_wp2_with fail
  refine bodyPost_ret (results_tmp2 rfl _ _ _) rfl ?_
  exact ⟨by rw [HT2.out]; rfl, HB1.out⟩

theorem wJ {f : Int → Int → Int} {a b : List UInt8} (h : bothI a b ≠ 0) : op2S f a b = [] ∧ op2E f a b = bothI a b := by
 unfold bothI at h ⊢
 unfold op2S op2E
 by_cases h1 : chkI a = 0
 ·rw [if_pos h1] at h ⊢
  rw [if_neg (by simp [h1]), if_pos h, if_neg (by simp [h1]), if_pos h]
  exact ⟨rfl, rfl⟩
 ·rw [if_neg h1] at h ⊢
  rw [if_pos h1, if_pos h1]
  exact ⟨rfl, rfl⟩
theorem zE {f : Int → Int → Int} {a b : List UInt8} (h : bothI a b = 0) : chkI a = 0 ∧ chkI b = 0 ∧ op2S f a b = resS (f (valI a) (valI b)) ∧ op2E f a b = resE (f (valI a) (valI b)) := by
 unfold bothI at h
 by_cases h1 : chkI a = 0
 ·rw [if_pos h1] at h
  unfold op2S op2E
  rw [if_neg (by simp [h1]), if_neg (by simp [h]), if_neg (by simp [h1]), if_neg (by simp [h])]
  exact ⟨h1, h, rfl, rfl⟩
 ·rw [if_neg h1] at h
  exact absurd h h1
theorem yL {l : List UInt8} (h : chkI l = 0) : (∀ c ∈ digs l, isDg c = true) ∧ l.length ≤ 301 := by
 obtain ⟨h1, h2⟩ := qg h
 have hf := zb.1 h2
 have he : digs l = Lib.decDigits (valI l).natAbs := by
  have := yQ (valI l)
  rw [← h1] at this
  exact this
 refine ⟨by rw [he]; exact yE _, ?_⟩
 rcases yo (valI l) with ⟨_, e⟩ | ⟨_, e⟩
 ·rw [h1, e, List.length_cons]
  omega
 ·rw [h1, e]
  omega
theorem yU (s : ByteArray) (h : chkI s.data.toList = 0) (w : World) :
 Calls Tryz.prog 169 #[.string s] w fun e w2 => ∃ (m : Bool) (v : Value) (l : List Nat), e = .returned (numV m v) ∧ Below w.heap.size w w2 ∧ OwnL 0 w2 v l ∧ Norm 1000000000 l ∧ valS m (lv 1000000000 l) = valI s.data.toList ∧ l.length ≤ 40 := by
 obtain ⟨h1, h2⟩ := yL h
 rw [yg] at h2
 refine (ygI s (by omega) h1 w).mono ?_
 rintro e w2 ⟨_, rfl, hb, m, v, l, rfl, ho, hn, hv, _⟩
 exact ⟨m, v, l, rfl, hb, ho, hn, hv, yeS hn (by rw [hv]; exact (qg h).2)⟩
theorem LimbAt.yx {base : Nat} {w : World} {v : Value} {l : List Nat} (h : OwnL base w v l) : LimbAt w.heap.size w v l := SlAt.ygt h
theorem ka (m : Bool) (v : Value) (l : List Nat) (base B : Nat) (w : World) (h : OwnL base w v l) (hn : Norm 1000000000 l) (hl : l.length ≤ 100000) (hT : P10 B w) (hB : B ≤ w.heap.size) :
 Calls Tryz.prog 170 #[numV m v] w (Ret w (pairV (resS (valS m (lv 1000000000 l))) (resE (valS m (lv 1000000000 l))))) :=
 zw m v l w.heap.size w (.yx h) (Nat.le_refl _) hn hl (hT.mono hB)
theorem pow18 : (10 : Nat) ^ 18 = 1000000000000000000 := by decide
theorem qZ {z : Int} (h : z.natAbs < 10 ^ 40) : resS z = Lib.itoa z ∧ resE z = 0 := by
 have : fits z := yq (n := 40) (by rw [yC]; omega) h
 exact ⟨if_pos this, if_pos this⟩
theorem yhT (s t : ByteArray) (B : Nat) (w : World) (hs : s.size ≤ 1000000) (ht : t.size ≤ 1000000) (hB : B ≤ w.heap.size) (hT : P10 B w) :
 Calls Tryz.prog 134 #[.string s, .string t] w (Ret w (pairV (op2S (· + ·) s.data.toList t.data.toList) (op2E (· + ·) s.data.toList t.data.toList))) := by
 have H1 := hide (qN s t hs ht w)
 have HT := hide hT
 by_cases hE : bothI s.data.toList t.data.toList = 0
 ·obtain ⟨c1, c2, e1, e2⟩ := zE (f := (· + ·)) hE
  rw [e1, e2]
  have C1 := hide c1; have C2 := hide c2
  rw [hE] at H1
  clear e1 e2 hE hT hs ht
  by_cases hsm : s.size ≤ 18 ∧ t.size ≤ 18
  ·have H2 := hide (fun w => jf s t c1 c2 hsm.1 hsm.2 w)
   have v1 := yK (n := 18) c1 (by rw [yg]; exact hsm.1) (by omega)
   have v2 := yK (n := 18) c2 (by rw [yg]; exact hsm.2) (by omega)
   rw [pow18] at v1 v2
   obtain ⟨x, hx⟩ := xe (valI s.data.toList)
   obtain ⟨y, hy⟩ := xe (valI t.data.toList)
   rw [← hx, ← hy] at H2 ⊢
   rw [← hx] at v1
   rw [← hy] at v2
   obtain ⟨z, hz⟩ := xe (x + y)
   have hw : IntKind.i64.wrap (x + y) = z := by rw [hz]; exact IntWalk.i64_in _ (by omega)
   obtain ⟨e3, e4⟩ := qZ (z := z) (Nat.lt_of_lt_of_le (m := 10 ^ 19) (by omega) (Nat.pow_le_pow_right (by omega) (by omega)))
   have hz1 : -9223372036854775808 ≤ z := by omega
   have hz2 : z ≤ 9223372036854775807 := by omega
   show Calls _ _ _ _ (Ret w (pairV (resS (x + y)) (resE (x + y))))
   rw [← hz, e3, e4]
   clear c1 c2 hsm hx hy hz e3 e4
   go_enter Tryz.func134, Tryz.ntmps134
   go_wp2_with fail
   refine H1.out.mono ?_
   rintro e w1 ⟨rfl, hb1⟩
   have HB1 := hide hb1
   clear hb1 H1
   go_wp2_with fail
   refine (H2.out _).mono ?_
   rintro e w2 ⟨rfl, hb2⟩
   have HB2 := bt HB1 hb2
   clear hb2 H2 HB1
   go_wp2_with fail
   refine (yl z hz1 hz2 B w2 (HT.out.on HB2.out hB)).mono ?_
   rintro e w3 ⟨rfl, hb3⟩
   have HB3 := bt HB2 hb3
   clear hb3 HB2
   go_wp2_with fail
   refine bodyPost_ret (results_tmp2 rfl _ _ _) rfl ?_
   exact ⟨rfl, HB3.out⟩
  ·have H2 := hide (fun w => xF s t hsm w)
   have R1 := hide (fun w => yU s c1 w)
   have R2 := hide (fun w => yU t c2 w)
   clear c1 c2 hsm
   go_enter Tryz.func134, Tryz.ntmps134
   go_wp2_with fail
   refine H1.out.mono ?_
   rintro e w1 ⟨rfl, hb1⟩
   have HB1 := hide hb1
   clear hb1 H1
   go_wp2_with fail
   refine (H2.out _).mono ?_
   rintro e w2 ⟨rfl, hb2⟩
   have HB2 := bt HB1 hb2
   clear hb2 H2 HB1
   go_wp2_with fail
   refine (R1.out _).mono ?_
   rintro e w3 ⟨m1, a1, l1, rfl, hb3, o1, n1, q1, k1⟩
   have HB3 := bt HB2 hb3
   have O1 := hide o1; have N1 := hide n1; have Q1 := hide q1
   clear hb3 HB2 R1 o1 n1 q1
   go_wp2_with fail
   refine (R2.out _).mono ?_
   rintro e w4 ⟨m2, a2, l2, rfl, hb4, o2, n2, q2, k2⟩
   have HB4 := bt HB3 hb4
   have O1' := hide (O1.out.keep hb4)
   have O2 := hide o2; have N2 := hide n2; have Q2 := hide q2
   clear hb4 HB3 R2 o2 n2 q2 O1
   go_wp2_with fail
   refine (yc1 m1 m2 a1 a2 l1 l2 w4.heap.size w4 (.yx O1'.out) (.yx O2.out) (Nat.le_refl _) N1.out N2.out (by omega) (by omega)).mono ?_
   rintro e w5 ⟨_, rfl, hb5, m3, a3, l3, rfl, o3, n3, q3, k3⟩
   have HB5 := bt HB4 hb5
   have O3 := hide o3; have N3 := hide n3
   rw [Q1.out, Q2.out] at q3
   have Q3 := hide q3
   clear hb5 HB4 O1' O2 N1 N2 Q1 Q2 o3 n3 q3
   go_wp2_with fail
   refine (ka m3 a3 l3 0 B w5 O3.out N3.out (by omega) (HT.out.on HB5.out hB) (Nat.le_trans hB HB5.out.size)).mono ?_
   rintro e w6 ⟨rfl, hb6⟩
   rw [Q3.out]
   have HB6 := bt HB5 hb6
   clear hb6 HB5
   go_wp2_with fail
   refine bodyPost_ret (results_tmp2 rfl _ _ _) rfl ?_
   exact ⟨rfl, HB6.out⟩
 ·obtain ⟨e1, e2⟩ := wJ (f := (· + ·)) hE
  rw [e1, e2]
  have hne : (bothI s.data.toList t.data.toList != 0) = true := by simpa using hE
  obtain ⟨E, hEE⟩ := xe (bothI s.data.toList t.data.toList)
  rw [← hEE] at H1 hne ⊢
  clear e1 e2 hE hEE hT
  go_enter Tryz.func134, Tryz.ntmps134
  go_wp2_with fail
  refine H1.out.mono ?_
  rintro e w1 ⟨rfl, hb1⟩
  have HB1 := hide hb1
  clear hb1 H1
  go_wp2_with fail
  refine bodyPost_ret (results_tmp2 rfl _ _ _) rfl ?_
  exact ⟨rfl, HB1.out⟩

theorem yen (a b : Nat) (ha : a < 1000000000000000000) (hb : b < 1000000000000000000) (w : World) :
 Calls Tryz.prog 181 #[.int .i64 a, .int .i64 b] w (Ret w (.int .i64 (Nat.gcd a b : Nat))) := by
 obtain ⟨G, hG⟩ := xe (Nat.gcd a b)
 rw [← hG]
 have HG := hide hG
 clear hG
 go_enter Tryz.func181, Tryz.ntmps181
 go_wp2_with fail
 go_loopw [0, 1] (fun x y wr => ∃ p q : Nat, x = .int .i64 p ∧ y = .int .i64 q ∧ p < 1000000000000000000 ∧ q < 1000000000000000000 ∧ Hid (Nat.gcd p q = G ∧ Below w.heap.size w wr)) (fun _ y _ => (intOf y).toNat)
 case atStart => exact ⟨a, b, rfl, rfl, ha, hb, HG.out.symm, Below.refl _ _⟩
 case round =>
  obtain ⟨p, q, rfl, rfl, hp, hq, hin⟩ := hrel
  have IN := hide hin.out
  clear hin
  by_cases hq0 : q = 0
  ·subst hq0
   have hqq : (((0 : Nat) : Int) != 0) = false := rfl
   have hG : p = G := by have := IN.out.1; simpa using this
   have GG := hide hG
   clear hq hG
   go_wp2_with fail
   go_ret
   rw [← GG.out]
   exact ⟨rfl, IN.out.2⟩
  ·have hqq : ((q : Int) != 0) = true := by
    have : (q : Int) ≠ 0 := by omega
    simpa using this
   have hqz : ((q : Int) == 0) = false := by
    have : (q : Int) ≠ 0 := by omega
    simpa using this
   obtain ⟨r, hr⟩ := xe (p % q)
   have hri : (p : Int) % (q : Int) = (r : Int) := by rw [hr, Int.natCast_emod]
   have hrl : r < q := by rw [hr]; exact Nat.mod_lt _ (by omega)
   have HR := hide hr; have HRI := hide hri
   clear hq0 hr
   go_wp2_with fail
   go_quiet (fail)
   have HB := hide (below_drewN IN.out.2 nq)
   clear hqq hqz
   go_wp2_with fail
   go_roundw
   case rel =>
    refine ⟨q, r, rfl, by first | rfl | rw [HRI.out], by omega, by omega, ?_, HB.out⟩
    rw [HR.out, ← IN.out.1, Nat.gcd_comm q, ← Nat.gcd_rec, Nat.gcd_comm]
   case measure => simp [intOf]; omega

theorem set1 {w : World} {b : Nat} {u0 u1 : Value} {t : TypeId} (h : w.heap[b]? = some (.cells #[u0, u1] t (0, 0))) (v0 : Value) :
 (w.setCell ⟨b, 0, none⟩ v0).heap[b]? = some (.cells #[v0, u1] t (0, 0)) ∧ Below b w (w.setCell ⟨b, 0, none⟩ v0) := by
 refine ⟨?_, (Below.refl b w).setCell (p := ⟨b, 0, none⟩) (Nat.le_refl _) _⟩
 simp only [World.setCell, Array.getElem?_modify, h]
 simp
theorem ybo (m : Bool) (n : Nat) : valS (!m) n = - valS m n := by cases m <;> simp [valS]
theorem yh3 (s t : ByteArray) (B : Nat) (w : World) (hs : s.size ≤ 1000000) (ht : t.size ≤ 1000000) (hB : B ≤ w.heap.size) (hT : P10 B w) :
 Calls Tryz.prog 116 #[.string s, .string t] w (Ret w (pairV (op2S (· - ·) s.data.toList t.data.toList) (op2E (· - ·) s.data.toList t.data.toList))) := by
 have H1 := hide (qN s t hs ht w)
 have HT := hide hT
 by_cases hE : bothI s.data.toList t.data.toList = 0
 ·obtain ⟨c1, c2, e1, e2⟩ := zE (f := (· - ·)) hE
  rw [e1, e2]
  have C1 := hide c1; have C2 := hide c2
  rw [hE] at H1
  clear e1 e2 hE hT hs ht
  by_cases hsm : s.size ≤ 18 ∧ t.size ≤ 18
  ·have H2 := hide (fun w => jf s t c1 c2 hsm.1 hsm.2 w)
   have v1 := yK (n := 18) c1 (by rw [yg]; exact hsm.1) (by omega)
   have v2 := yK (n := 18) c2 (by rw [yg]; exact hsm.2) (by omega)
   rw [pow18] at v1 v2
   obtain ⟨x, hx⟩ := xe (valI s.data.toList)
   obtain ⟨y, hy⟩ := xe (valI t.data.toList)
   rw [← hx, ← hy] at H2 ⊢
   rw [← hx] at v1
   rw [← hy] at v2
   obtain ⟨z, hz⟩ := xe (x - y)
   have hw : IntKind.i64.wrap (x - y) = z := by rw [hz]; exact IntWalk.i64_in _ (by omega)
   obtain ⟨e3, e4⟩ := qZ (z := z) (Nat.lt_of_lt_of_le (m := 10 ^ 19) (by omega) (Nat.pow_le_pow_right (by omega) (by omega)))
   have hz1 : -9223372036854775808 ≤ z := by omega
   have hz2 : z ≤ 9223372036854775807 := by omega
   show Calls _ _ _ _ (Ret w (pairV (resS (x - y)) (resE (x - y))))
   rw [← hz, e3, e4]
   clear c1 c2 hsm hx hy hz e3 e4
   go_enter Tryz.func116, Tryz.ntmps116
   go_wp2_with fail
   refine H1.out.mono ?_
   rintro e w1 ⟨rfl, hb1⟩
   have HB1 := hide hb1
   clear hb1 H1
   go_wp2_with fail
   refine (H2.out _).mono ?_
   rintro e w2 ⟨rfl, hb2⟩
   have HB2 := bt HB1 hb2
   clear hb2 H2 HB1
   go_wp2_with fail
   refine (yl z hz1 hz2 B w2 (HT.out.on HB2.out hB)).mono ?_
   rintro e w3 ⟨rfl, hb3⟩
   have HB3 := bt HB2 hb3
   clear hb3 HB2
   go_wp2_with fail
   refine bodyPost_ret (results_tmp2 rfl _ _ _) rfl ?_
   exact ⟨rfl, HB3.out⟩
  ·have H2 := hide (fun w => xF s t hsm w)
   have R1 := hide (fun w => yU s c1 w)
   have R2 := hide (fun w => yU t c2 w)
   clear c1 c2 hsm
   go_enter Tryz.func116, Tryz.ntmps116
   go_wp2_with fail
   refine H1.out.mono ?_
   rintro e w1 ⟨rfl, hb1⟩
   have HB1 := hide hb1
   clear hb1 H1
   go_wp2_with fail
   refine (H2.out _).mono ?_
   rintro e w2 ⟨rfl, hb2⟩
   have HB2 := bt HB1 hb2
   clear hb2 H2 HB1
   go_wp2_with fail
   refine (R2.out _).mono ?_
   rintro e w3 ⟨m2, a2, l2, rfl, hb3, o2, n2, q2, k2⟩
   obtain ⟨av, cv, hvf, _, _⟩ := o2.form
   subst hvf
   obtain ⟨g0, gs0, gb0⟩ := heap1 w3 (.cells #[.bool m2, .slice av l2.length cv] 207)
   have c0 := ya g0 0
   have c1 := ya g0 1
   have f0 := yf g0 0
   have HB3 := bt HB2 hb3
   have O2 := hide o2; have N2 := hide n2; have Q2 := hide q2
   clear hb3 HB2 R2 o2 n2 q2 g0 gs0 gb0
   go_wp2_with fail
   clear c0 c1 f0
   obtain ⟨g0, gs0, gb0⟩ := heap1 w3 (.cells #[.bool (!m2), .slice av l2.length cv] 207)
   obtain ⟨w4, hw4⟩ : ∃ w4, w3.alloc (.cells #[.bool (!m2), .slice av l2.length cv] 207) = w4 := ⟨_, rfl⟩
   rw [hw4] at g0 gs0 gb0 ⊢
   have c0 := ya g0 0
   have c1 := ya g0 1
   have O4 := hide (OwnL.keep O2.out gb0)
   have HB4 := hide (HB3.out.trans (gb0.mono HB3.out.size)); have G0 := hide g0
   have hs4 : w3.heap.size < w4.heap.size := by omega
   obtain ⟨nb, hnb⟩ := xe w3.heap.size
   rw [← hnb] at c0 c1 G0 hs4 ⊢
   clear g0 gs0 gb0 hw4 O2 HB3 hnb
   go_region_held3 (fun w' => w'.cell? ⟨nb, 0, none⟩ = some (.bool (!m2)) ∧ w'.cell? ⟨nb, 1, none⟩ = some (.slice av l2.length cv)) (first | exact ⟨c0, c1⟩ | exact ⟨d0, d1⟩ | exact ⟨x0, x1⟩ | exact ⟨y0, y1⟩)
    (first
      |(go_at_call 169
        refine (R1.out _).mono ?_
        rintro e w5 ⟨m1, a1, l1, rfl, hb5, o1, n1, q1, k1⟩
        obtain ⟨d0, d1⟩ : w5.cell? ⟨nb, 0, none⟩ = some (.bool (!m2)) ∧ w5.cell? ⟨nb, 1, none⟩ = some (.slice av l2.length cv) := ⟨ya (yc hb5 G0.out hs4) 0, ya (yc hb5 G0.out hs4) 1⟩
        have D0 := hide (yc hb5 G0.out hs4)
        have D2 := hide (show OwnL 0 w5 (.slice av l2.length cv) l2 from OwnL.keep (show OwnL 0 w4.drew (.slice av l2.length cv) l2 from O4.out.drew) hb5)
        have DB := hide (show Below w.heap.size w w5 from (HB4.out.drew).trans (hb5.mono HB4.out.size))
        have hs5 : nb < w5.heap.size := Nat.lt_of_lt_of_le hs4 hb5.size
        have O1 := hide o1; have N1 := hide n1; have Q1 := hide q1
        clear hb5 o1 n1 q1)
      |(go_at_call 171
        refine (yc1 m1 (!m2) a1 _ l1 l2 w5.heap.size w5 (.yx O1.out) (.yx D2.out) (Nat.le_refl _) N1.out N2.out (by omega) (by omega)).mono ?_
        rintro e w6 ⟨_, rfl, hb6, m3, a3, l3, rfl, o3, n3, q3, k3⟩
        obtain ⟨x0, x1⟩ : w6.cell? ⟨nb, 0, none⟩ = some (.bool (!m2)) ∧ w6.cell? ⟨nb, 1, none⟩ = some (.slice av l2.length cv) := ⟨ya (yc hb6 D0.out hs5) 0, ya (yc hb6 D0.out hs5) 1⟩
        have X0 := hide (yc hb6 D0.out hs5)
        have hs6 : nb < w6.heap.size := Nat.lt_of_lt_of_le hs5 hb6.size
        have XB := hide (DB.out.trans (hb6.mono DB.out.size))
        have O3 := hide o3; have N3 := hide n3; have Q3 := hide q3
        clear hb6 o3 n3 q3)
      |(go_at_call 170
        refine (ka m3 a3 l3 0 B w6 O3.out N3.out (by omega) (HT.out.on XB.out hB) (Nat.le_trans hB XB.out.size)).mono ?_
        rintro e w7 ⟨rfl, hb7⟩
        obtain ⟨y0, y1⟩ : w7.cell? ⟨nb, 0, none⟩ = some (.bool (!m2)) ∧ w7.cell? ⟨nb, 1, none⟩ = some (.slice av l2.length cv) := ⟨ya (yc hb7 X0.out hs6) 0, ya (yc hb7 X0.out hs6) 1⟩
        have YB := hide (XB.out.trans (hb7.mono XB.out.size))
        clear hb7)
      |fail)
   have hz : valS m3 (lv 1000000000 l3) = valI s.data.toList - valI t.data.toList := by
    rw [Q3.out, Q1.out, ybo, Q2.out]
    omega
   rw [hz]
   clear hz c0 c1 d0 d1 x0 x1 y0 y1
   go_wp2_with fail
   refine bodyPost_ret (results_tmp2 rfl _ _ _) rfl ?_
   exact ⟨rfl, YB.out⟩
 ·obtain ⟨e1, e2⟩ := wJ (f := (· - ·)) hE
  rw [e1, e2]
  have hne : (bothI s.data.toList t.data.toList != 0) = true := by simpa using hE
  obtain ⟨E, hEE⟩ := xe (bothI s.data.toList t.data.toList)
  rw [← hEE] at H1 hne ⊢
  clear e1 e2 hE hEE hT
  go_enter Tryz.func116, Tryz.ntmps116
  go_wp2_with fail
  refine H1.out.mono ?_
  rintro e w1 ⟨rfl, hb1⟩
  have HB1 := hide hb1
  clear hb1 H1
  go_wp2_with fail
  refine bodyPost_ret (results_tmp2 rfl _ _ _) rfl ?_
  exact ⟨rfl, HB1.out⟩

theorem jL {l : List UInt8} (h : chkI l = 0) : 1 ≤ l.length := by
 cases l with
 |nil =>
  unfold chkI at h
  rw [if_pos (.inl rfl)] at h
  cases h
 |cons c r => simp
theorem yba (m1 m2 : Bool) (a b : Nat) : valS (!(m1 == m2)) (a * b) = valS m1 a * valS m2 b := by cases m1 <;> cases m2 <;> simp [valS, Int.mul_neg, Int.neg_mul]
theorem yfz (s t : ByteArray) (B : Nat) (w : World) (hs : s.size ≤ 1000000) (ht : t.size ≤ 1000000) (hB : B ≤ w.heap.size) (hT : P10 B w) :
 Calls Tryz.prog 132 #[.string s, .string t] w (Ret w (pairV (op2S (· * ·) s.data.toList t.data.toList) (op2E (· * ·) s.data.toList t.data.toList))) := by
 have H1 := hide (qN s t hs ht w)
 have HT := hide hT
 by_cases hE : bothI s.data.toList t.data.toList = 0
 ·obtain ⟨c1, c2, e1, e2⟩ := zE (f := (· * ·)) hE
  rw [e1, e2]
  have C1 := hide c1; have C2 := hide c2
  rw [hE] at H1
  clear e1 e2 hE hT
  by_cases hsm : s.size + t.size ≤ 18
  ·have H2 := hide (fun w => jf s t c1 c2 (by omega) (by omega) w)
   have z1 := jL c1
   have z2 := jL c2
   rw [yg] at z1 z2
   have v1 := yK (n := s.size) c1 (by rw [yg]; exact Nat.le_refl _) z1
   have v2 := yK (n := t.size) c2 (by rw [yg]; exact Nat.le_refl _) z2
   obtain ⟨x, hx⟩ := xe (valI s.data.toList)
   obtain ⟨y, hy⟩ := xe (valI t.data.toList)
   rw [← hx, ← hy] at H2 ⊢
   rw [← hx] at v1
   rw [← hy] at v2
   obtain ⟨z, hz⟩ := xe (x * y)
   have hzz : z.natAbs < 1000000000000000000 := by
    rw [hz, Int.natAbs_mul, ← pow18]
    refine Nat.lt_of_lt_of_le (Nat.mul_lt_mul'' v1 v2) ?_
    rw [← Nat.pow_add]
    exact Nat.pow_le_pow_right (by omega) hsm
   have hw : IntKind.i64.wrap (x * y) = z := by rw [← hz]; exact IntWalk.i64_in _ (by omega)
   obtain ⟨e3, e4⟩ := qZ (z := z) (Nat.lt_of_lt_of_le (m := 10 ^ 19) (by omega) (Nat.pow_le_pow_right (by omega) (by omega)))
   have hz1 : -9223372036854775808 ≤ z := by omega
   have hz2 : z ≤ 9223372036854775807 := by omega
   have hle : (s.size : Int) + (t.size : Int) ≤ 18 := by omega
   show Calls _ _ _ _ (Ret w (pairV (resS (x * y)) (resE (x * y))))
   rw [← hz, e3, e4]
   clear v1 v2 z1 z2 hzz
   clear c1 c2 hsm hx hy hz e3 e4
   go_enter Tryz.func132, Tryz.ntmps132
   go_wp2_with fail
   refine H1.out.mono ?_
   rintro e w1 ⟨rfl, hb1⟩
   have HB1 := hide hb1
   clear hb1 H1
   go_wp2_with fail
   refine (H2.out _).mono ?_
   rintro e w2 ⟨rfl, hb2⟩
   have HB2 := bt HB1 hb2
   clear hb2 H2 HB1
   go_wp2_with fail
   refine (yl z hz1 hz2 B w2 (HT.out.on HB2.out hB)).mono ?_
   rintro e w3 ⟨rfl, hb3⟩
   have HB3 := bt HB2 hb3
   clear hb3 HB2
   go_wp2_with fail
   refine bodyPost_ret (results_tmp2 rfl _ _ _) rfl ?_
   exact ⟨rfl, HB3.out⟩
  ·have hgt : ((s.size : Int) + (t.size : Int) ≤ 18) = False := eq_false (by omega)
   have R1 := hide (fun w => yU s c1 w)
   have R2 := hide (fun w => yU t c2 w)
   clear c1 c2 hsm
   go_enter Tryz.func132, Tryz.ntmps132
   go_wp2_with fail
   refine H1.out.mono ?_
   rintro e w1 ⟨rfl, hb1⟩
   have HB1 := hide hb1
   clear hb1 H1
   go_wp2_with fail
   refine (R1.out _).mono ?_
   rintro e w2 ⟨m1, a1, l1, rfl, hb2, o1, n1, q1, k1⟩
   have HB2 := bt HB1 hb2
   have O1 := hide o1; have N1 := hide n1; have Q1 := hide q1
   clear hb2 HB1 R1 o1 n1 q1
   go_wp2_with fail
   refine (R2.out _).mono ?_
   rintro e w3 ⟨m2, a2, l2, rfl, hb3, o2, n2, q2, k2⟩
   have HB3 := bt HB2 hb3
   have O1' := hide (O1.out.keep hb3)
   have O2 := hide o2; have N2 := hide n2; have Q2 := hide q2
   clear hb3 HB2 R2 o2 n2 q2 O1
   obtain ⟨av1, cv1, hvf, _, _⟩ := O1'.out.form
   subst hvf
   obtain ⟨av2, cv2, hvf, _, _⟩ := O2.out.form
   subst hvf
   go_wp2_with fail
   obtain ⟨g0, g1, gs0, gb0⟩ := heap2 w3 (.cells #[.bool m1, .slice av1 l1.length cv1] 207) (.cells #[.bool m2, .slice av2 l2.length cv2] 207)
   obtain ⟨w4, hw4⟩ : ∃ w4, (w3.alloc (.cells #[.bool m1, .slice av1 l1.length cv1] 207)).alloc (.cells #[.bool m2, .slice av2 l2.length cv2] 207) = w4 := ⟨_, rfl⟩
   rw [hw4] at g0 g1 gs0 gb0 ⊢
   have c0 := ya g0 0
   have c1 := ya g0 1
   have c2 := ya g1 0
   have c3 := ya g1 1
   have O3 := hide (OwnL.keep O1'.out gb0); have O4 := hide (OwnL.keep O2.out gb0)
   have HB4 := hide (HB3.out.trans (gb0.mono HB3.out.size)); have G0 := hide g0; have G1 := hide g1
   have hs4 : w3.heap.size + 1 < w4.heap.size := by omega
   obtain ⟨nb, hnb⟩ := xe w3.heap.size
   rw [← hnb] at c0 c1 c2 c3 G0 G1 hs4 ⊢
   clear g0 g1 gs0 gb0 hw4 O1' O2 HB3 hnb
   have hlen := l1.length
   go_region_held3 (fun w' => w'.cell? ⟨nb, 0, none⟩ = some (.bool m1) ∧ w'.cell? ⟨nb, 1, none⟩ = some (.slice av1 l1.length cv1) ∧ w'.cell? ⟨nb + 1, 0, none⟩ = some (.bool m2) ∧ w'.cell? ⟨nb + 1, 1, none⟩ = some (.slice av2 l2.length cv2)) (first | exact ⟨c0, c1, c2, c3⟩ | exact ⟨d0, d1, d2, d3⟩ | exact ⟨x0, x1, x2, x3⟩)
    (first
      |(go_at_call 184
        refine (wW _ _ l1 l2 w4.heap.size w4.drew (.yx (show OwnL 0 w4.drew _ l1 from O3.out.drew)) (.yx (show OwnL 0 w4.drew _ l2 from O4.out.drew)) (Nat.le_refl _) N1.out.lt N2.out.lt (by omega) (by omega)).mono ?_
        rintro e w5 ⟨l3, ⟨v3, rfl, hb5, o3⟩, n3, q3, k3⟩
        obtain ⟨av3, cv3, hvf, _, _⟩ := o3.form
        subst hvf
        have D0 := hide (yc hb5 G0.out (by show nb < w4.heap.size; omega))
        have D1 := hide (yc hb5 G1.out (by show nb + 1 < w4.heap.size; omega))
        obtain ⟨d0, d1, d2, d3⟩ : w5.cell? ⟨nb, 0, none⟩ = some (.bool m1) ∧ w5.cell? ⟨nb, 1, none⟩ = some (.slice av1 l1.length cv1) ∧ w5.cell? ⟨nb + 1, 0, none⟩ = some (.bool m2) ∧ w5.cell? ⟨nb + 1, 1, none⟩ = some (.slice av2 l2.length cv2) := ⟨ya D0.out 0, ya D0.out 1, ya D1.out 0, ya D1.out 1⟩
        have DB := hide (show Below w.heap.size w w5 from (HB4.out.drew).trans (hb5.mono HB4.out.size))
        have hs5 : nb + 1 < w5.heap.size := Nat.lt_of_lt_of_le hs4 hb5.size
        have O5 := hide o3; have N3 := hide n3; have Q3 := hide q3
        clear hb5 o3 n3 q3)
      |(go_at_call 170
        refine (ka (!(m1 == m2)) _ l3 _ B w5 O5.out N3.out (by omega) (HT.out.on DB.out hB) (Nat.le_trans hB DB.out.size)).mono ?_
        rintro e w7 ⟨rfl, hb7⟩
        have X0 := hide (yc hb7 D0.out (by omega))
        have X1 := hide (yc hb7 D1.out (by omega))
        obtain ⟨x0, x1, x2, x3⟩ : w7.cell? ⟨nb, 0, none⟩ = some (.bool m1) ∧ w7.cell? ⟨nb, 1, none⟩ = some (.slice av1 l1.length cv1) ∧ w7.cell? ⟨nb + 1, 0, none⟩ = some (.bool m2) ∧ w7.cell? ⟨nb + 1, 1, none⟩ = some (.slice av2 l2.length cv2) := ⟨ya X0.out 0, ya X0.out 1, ya X1.out 0, ya X1.out 1⟩
        have YB := hide (DB.out.trans (hb7.mono DB.out.size))
        clear hb7)
      |fail)
   have hz : valS (!(m1 == m2)) (lv 1000000000 l3) = valI s.data.toList * valI t.data.toList := by
    rw [Q3.out, yba, Q1.out, Q2.out]
   rw [hz]
   clear hz c0 c1 c2 c3 d0 d1 d2 d3 x0 x1 x2 x3
   go_wp2_with fail
   refine bodyPost_ret (results_tmp2 rfl _ _ _) rfl ?_
   exact ⟨rfl, YB.out⟩
 ·obtain ⟨e1, e2⟩ := wJ (f := (· * ·)) hE
  rw [e1, e2]
  have hne : (bothI s.data.toList t.data.toList != 0) = true := by simpa using hE
  obtain ⟨E, hEE⟩ := xe (bothI s.data.toList t.data.toList)
  rw [← hEE] at H1 hne ⊢
  clear e1 e2 hE hEE hT
  go_enter Tryz.func132, Tryz.ntmps132
  go_wp2_with fail
  refine H1.out.mono ?_
  rintro e w1 ⟨rfl, hb1⟩
  have HB1 := hide hb1
  clear hb1 H1
  go_wp2_with fail
  refine bodyPost_ret (results_tmp2 rfl _ _ _) rfl ?_
  exact ⟨rfl, HB1.out⟩

def cmpV (a b : List UInt8) : Int := if bothI a b = 0 then Lib.compareInt (valI a) (valI b) else 0
theorem ydO (s t : ByteArray) (w : World) (hs : s.size ≤ 1000000) (ht : t.size ≤ 1000000) :
 Calls Tryz.prog 129 #[.string s, .string t] w (Ret w (.tuple #[.int .i64 (cmpV s.data.toList t.data.toList), .int .i64 (bothI s.data.toList t.data.toList)])) := by
 have H1 := hide (qN s t hs ht w)
 by_cases hE : bothI s.data.toList t.data.toList = 0
 ·have e1 : cmpV s.data.toList t.data.toList = Lib.compareInt (valI s.data.toList) (valI t.data.toList) := if_pos hE
  obtain ⟨c1, c2, _, _⟩ := zE (f := (· + ·)) hE
  rw [e1, hE]
  have C1 := hide c1; have C2 := hide c2
  rw [hE] at H1
  clear e1 hE hs ht
  by_cases hsm : s.size ≤ 18 ∧ t.size ≤ 18
  ·have H2 := hide (fun w => jf s t c1 c2 hsm.1 hsm.2 w)
   obtain ⟨x, hx⟩ := xe (valI s.data.toList)
   obtain ⟨y, hy⟩ := xe (valI t.data.toList)
   rw [← hx, ← hy] at H2 ⊢
   clear c1 c2 hsm hx hy
   go_enter Tryz.func129, Tryz.ntmps129
   go_wp2_with fail
   refine H1.out.mono ?_
   rintro e w1 ⟨rfl, hb1⟩
   have HB1 := hide hb1
   clear hb1 H1
   go_wp2_with fail
   refine (H2.out _).mono ?_
   rintro e w2 ⟨rfl, hb2⟩
   have HB2 := bt HB1 hb2
   clear hb2 H2 HB1
   go_wp2_with fail
   refine (Tryz.cmp_Compare_int x y w2).mono ?_
   rintro e w3 ⟨rfl, rfl⟩
   go_wp2_with fail
   refine bodyPost_ret (results_tmp2 rfl _ _ _) rfl ?_
   exact ⟨rfl, HB2.out⟩
  ·have H2 := hide (fun w => xF s t hsm w)
   have R1 := hide (fun w => yU s c1 w)
   have R2 := hide (fun w => yU t c2 w)
   clear c1 c2 hsm
   go_enter Tryz.func129, Tryz.ntmps129
   go_wp2_with fail
   refine H1.out.mono ?_
   rintro e w1 ⟨rfl, hb1⟩
   have HB1 := hide hb1
   clear hb1 H1
   go_wp2_with fail
   refine (H2.out _).mono ?_
   rintro e w1 ⟨rfl, hb2⟩
   have HB1' := bt HB1 hb2
   clear hb2 H2 HB1
   go_wp2_with fail
   refine (R1.out _).mono ?_
   rintro e w2 ⟨m1, a1, l1, rfl, hb2, o1, n1, q1, k1⟩
   have HB2 := hide (HB1'.out.trans (hb2.mono HB1'.out.size))
   have O1 := hide o1; have N1 := hide n1; have Q1 := hide q1
   clear hb2 HB1' R1 o1 n1 q1
   go_wp2_with fail
   refine (R2.out _).mono ?_
   rintro e w3 ⟨m2, a2, l2, rfl, hb3, o2, n2, q2, k2⟩
   have HB3 := bt HB2 hb3
   have O1' := hide (O1.out.keep hb3)
   have O2 := hide o2; have N2 := hide n2; have Q2 := hide q2
   clear hb3 HB2 R2 o2 n2 q2 O1
   obtain ⟨av1, cv1, hvf, _, _⟩ := O1'.out.form
   subst hvf
   obtain ⟨av2, cv2, hvf, _, _⟩ := O2.out.form
   subst hvf
   obtain ⟨g0, g1, gs0, gb0⟩ := heap2 w3 (.cells #[.bool m1, .slice av1 l1.length cv1] 207) (.cells #[.bool m2, .slice av2 l2.length cv2] 207)
   have c0 := ya g0 0
   have c1 := ya g0 1
   have c2 := ya g1 0
   have c3 := ya g1 1
   have f2 := yf g1 0
   obtain ⟨h0, h1, hs0, hb0⟩ := heap2 w3 (.cells #[.bool m1, .slice av1 l1.length cv1] 207) (.cells #[.bool (!m2), .slice av2 l2.length cv2] 207)
   have H0 := hide h0; have H1 := hide h1; have HS0 := hide hs0; have HB0 := hide hb0
   clear g0 g1 gs0 gb0 h0 h1 hs0 hb0
   go_wp2_with fail
   clear c0 c1 c2 c3 f2
   obtain ⟨w4, hw4⟩ : ∃ w4, (w3.alloc (.cells #[.bool m1, .slice av1 l1.length cv1] 207)).alloc (.cells #[.bool (!m2), .slice av2 l2.length cv2] 207) = w4 := ⟨_, rfl⟩
   rw [hw4] at H0 H1 HS0 HB0 ⊢
   have O3 := OwnL.keep O1'.out HB0.out
   have O4 := OwnL.keep O2.out HB0.out
   have HB4 := hide (HB3.out.trans (HB0.out.mono HB3.out.size))
   refine (yc1 m1 (!m2) _ _ l1 l2 w4.heap.size w4 (.yx O3) (.yx O4) (Nat.le_refl _) N1.out N2.out (by omega) (by omega)).mono ?_
   rintro e w5 ⟨_, rfl, hb5, m3, a3, l3, rfl, o3, n3, q3, k3⟩
   obtain ⟨av3, cv3, hvf, _, _⟩ := o3.form
   subst hvf
   have hz : valS m3 (lv 1000000000 l3) = valI s.data.toList - valI t.data.toList := by
    rw [q3, Q1.out, ybo, Q2.out]
    omega
   have HZ := hide hz
   have HB5 := bt HB4 hb5
   obtain ⟨g0, gs0, gb0⟩ := heap1 w5 (.cells #[.bool m3, .slice av3 l3.length cv3] 207)
   have c0 := ya g0 0
   have c1 := ya g0 1
   have HB6 := hide (HB5.out.trans (gb0.mono HB5.out.size))
   obtain ⟨n3l, hn3l⟩ := xe l3.length
   have hnorm := n3.zero (by omega)
   rw [← hn3l] at c0 c1 g0 gb0 HB6 ⊢
   have h30 : n3l = 0 ↔ lv 1000000000 l3 = 0 := by
    rw [hnorm, hn3l]
    exact ⟨List.eq_nil_of_length_eq_zero, fun e => by rw [e]; rfl⟩
   clear g0 gs0 gb0 hb5 o3 n3 q3 O3 O4 hw4 H0 H1 HS0 HB0 O1' O2 hnorm hn3l HB3 HB4 HB5 hz
   by_cases hl : n3l = 0
   ·have hq : ((n3l : Int) == 0) = true := by rw [hl]; rfl
    have hv : Lib.compareInt (valI s.data.toList) (valI t.data.toList) = 0 := by
     have h2 := HZ.out
     rw [h30.1 hl] at h2
     have h3 : valI s.data.toList = valI t.data.toList := by
      cases m3 <;> simp [valS] at h2 <;> omega
     unfold Lib.compareInt
     rw [if_neg (by omega), if_neg (by omega)]
    have HV := hide hv
    clear hv h30 hl
    go_wp2_with fail
    refine bodyPost_ret (results_tmp2 rfl _ _ _) rfl ?_
    exact ⟨by rw [HV.out]; rfl, HB6.out⟩
   ·have hq : ((n3l : Int) == 0) = false := by simpa using hl
    have hp : 0 < lv 1000000000 l3 := Nat.pos_of_ne_zero (fun e => hl (h30.2 e))
    clear hl h30
    cases m3
    ·have hv : Lib.compareInt (valI s.data.toList) (valI t.data.toList) = 1 := by
      have h2 := HZ.out
      simp only [valS, Bool.false_eq_true, if_false] at h2
      unfold Lib.compareInt
      rw [if_neg (by omega), if_pos (by omega)]
     have HV := hide hv
     clear hv
     go_wp2_with fail
     refine bodyPost_ret (results_tmp2 rfl _ _ _) rfl ?_
     exact ⟨by rw [HV.out]; rfl, HB6.out⟩
    ·have hv : Lib.compareInt (valI s.data.toList) (valI t.data.toList) = -1 := by
      have h2 := HZ.out
      simp only [valS, if_true] at h2
      unfold Lib.compareInt
      rw [if_pos (by omega)]
     have HV := hide hv
     clear hv
     go_wp2_with fail
     refine bodyPost_ret (results_tmp2 rfl _ _ _) rfl ?_
     exact ⟨by rw [HV.out]; rfl, HB6.out⟩
 ·have e1 : cmpV s.data.toList t.data.toList = 0 := if_neg hE
  rw [e1]
  have hne : (bothI s.data.toList t.data.toList != 0) = true := by simpa using hE
  obtain ⟨E, hEE⟩ := xe (bothI s.data.toList t.data.toList)
  rw [← hEE] at H1 hne ⊢
  clear e1 hE hEE
  go_enter Tryz.func129, Tryz.ntmps129
  go_wp2_with fail
  refine H1.out.mono ?_
  rintro e w1 ⟨rfl, hb1⟩
  have HB1 := hide hb1
  clear hb1 H1
  go_wp2_with fail
  refine bodyPost_ret (results_tmp2 rfl _ _ _) rfl ?_
  exact ⟨rfl, HB1.out⟩

theorem zk (x : Int) {y : Int} (hy : y ≠ 0) : (x.tmod y).natAbs < y.natAbs := by
 rw [Int.natAbs_tmod]
 exact Nat.mod_lt _ (by omega)
theorem vH (x y : Int) : (x.tdiv y).natAbs ≤ x.natAbs := by
 rw [Int.natAbs_tdiv]
 exact Nat.div_le_self _ _
theorem yaM {x y : Int} (hy : y ≠ 0) (h : x.tmod y = 0 ∨ (x.tmod y < 0 ↔ y < 0)) : x.tdiv y = x.fdiv y ∧ x.tmod y = x.fmod y := by
 have h1 := Int.mul_tdiv_add_tmod x y
 have h2 := zk x hy
 rcases Int.lt_or_gt_of_ne hy with hn | hp
 ·have := (Int.fdiv_fmod_unique' (a := x) (r := x.tmod y) (q := x.tdiv y) hn).2 ⟨by omega, by omega, by omega⟩
  exact ⟨this.1.symm, this.2.symm⟩
 ·have := (Int.fdiv_fmod_unique (a := x) (r := x.tmod y) (q := x.tdiv y) hp).2 ⟨by omega, by omega, by omega⟩
  exact ⟨this.1.symm, this.2.symm⟩
theorem yaA {x y : Int} (hy : y ≠ 0) (h0 : x.tmod y ≠ 0) (h : ¬ (x.tmod y < 0 ↔ y < 0)) : x.tdiv y - 1 = x.fdiv y ∧ x.tmod y + y = x.fmod y := by
 have h1 := Int.mul_tdiv_add_tmod x y
 have h2 := zk x hy
 have h3 : y * (x.tdiv y - 1) = y * x.tdiv y - y := by rw [Int.mul_sub, Int.mul_one]
 rcases Int.lt_or_gt_of_ne hy with hn | hp
 ·have := (Int.fdiv_fmod_unique' (a := x) (r := x.tmod y + y) (q := x.tdiv y - 1) hn).2 ⟨by omega, by omega, by omega⟩
  exact ⟨this.1.symm, this.2.symm⟩
 ·have := (Int.fdiv_fmod_unique (a := x) (r := x.tmod y + y) (q := x.tdiv y - 1) hp).2 ⟨by omega, by omega, by omega⟩
  exact ⟨this.1.symm, this.2.symm⟩
abbrev tripV (s r : List UInt8) (e : Int) : Value := .tuple #[.string (strB s), .string (strB r), .int .i64 e]
theorem yt {fn : Func} {t u v : Tmp} (h : fn.results = #[.tmp t, .tmp u, .tmp v]) (tmps : Array Value) (P : Program) (w : World) :
 (results fn tmps).run P w = .ok (.tuple #[tmps.getD t undef, tmps.getD u undef, tmps.getD v undef]) w := by
 simp [results, h, go_sem]
theorem yca (s t : ByteArray) (B : Nat) (w : World) (c1 : chkI s.data.toList = 0) (c2 : chkI t.data.toList = 0) (hs : s.size ≤ 18) (ht : t.size ≤ 18) (h0 : t.data.toList ≠ [48]) (hB : B ≤ w.heap.size) (hT : P10 B w) :
 Calls Tryz.prog 179 #[.string s, .string t] w (Ret w (tripV (Lib.itoa ((valI s.data.toList).fdiv (valI t.data.toList))) (Lib.itoa ((valI s.data.toList).fmod (valI t.data.toList))) 0)) := by
 have H1 := hide (qN s t (by omega) (by omega) w)
 have hb0 : bothI s.data.toList t.data.toList = 0 := by unfold bothI; rw [if_pos c1, c2]
 rw [hb0] at H1
 have HT := hide hT
 have H2 := hide (fun w => jf s t c1 c2 hs ht w)
 have v1 := yK (n := 18) c1 (by rw [yg]; exact hs) (by omega)
 have v2 := yK (n := 18) c2 (by rw [yg]; exact ht) (by omega)
 rw [pow18] at v1 v2
 have hy0 : valI t.data.toList ≠ 0 := by
  intro e
  have := (qg c2).1
  rw [e, yP] at this
  exact h0 this
 have hq : (t.toList == [48]) = false := by rw [ByteArray.toList_eq]; simpa using h0
 obtain ⟨x, hx⟩ := xe (valI s.data.toList)
 obtain ⟨y, hy⟩ := xe (valI t.data.toList)
 rw [← hx, ← hy] at H2 ⊢
 rw [← hx] at v1
 rw [← hy] at v2 hy0
 have r1 := zk x hy0
 have q1 := vH x y
 have hyq : (y == 0) = false := by simpa using hy0
 clear c1 c2 hs ht h0 hT hx hy hb0
 go_enter Tryz.func179, Tryz.ntmps179
 go_wp2_with fail
 refine H1.out.mono ?_
 rintro e w1 ⟨rfl, hb1⟩
 have HB1 := hide hb1
 clear hb1 H1
 go_wp2_with fail
 refine (H2.out _).mono ?_
 rintro e w2 ⟨rfl, hb2⟩
 have HB2 := bt HB1 hb2
 clear hb2 H2 HB1
 go_wp2_with fail
 go_quiet (fail)
 obtain ⟨w3, hw3⟩ := xe (w2.drewN nq)
 rw [← hw3]
 have HB3 := hide (show Below w.heap.size w w3 by rw [hw3]; exact ⟨HB2.out.os, HB2.out.tape, HB2.out.output, HB2.out.size, HB2.out.block⟩)
 clear hw3 HB2
 have FS := hide (yaM (x := x) hy0); have FL := hide (yaA (x := x) hy0)
 obtain ⟨q, hq2⟩ := xe (x.tdiv y)
 obtain ⟨r, hr2⟩ := xe (x.tmod y)
 rw [← hq2] at q1
 rw [← hr2] at r1
 rw [← hq2, ← hr2] at FS FL ⊢
 clear hq2 hr2 hyq hy0 hq
 obtain ⟨g, hg⟩ := xe (x.fdiv y)
 obtain ⟨h, hh⟩ := xe (x.fmod y)
 rw [← hg, ← hh] at FS FL
 have HG := hide hg; have HH := hide hh
 clear hg hh
 by_cases hr0 : r = 0
 ·obtain ⟨f1, f2⟩ := FS.out (.inl hr0)
  have t1 : (r != 0) = false := by simp [hr0]
  have F1 := hide (f1.trans HG.out); have F2 := hide (f2.trans HH.out)
  clear hr0 f1 f2
  go_wp2_with fail
  refine (yl q (by omega) (by omega) B _ (HT.out.on HB3.out hB)).mono ?_
  rintro e w4 ⟨rfl, hb4⟩
  have HB4 := bt HB3 hb4
  clear hb4 HB3
  go_wp2_with fail
  refine (yl r (by omega) (by omega) B _ (HT.out.on HB4.out hB)).mono ?_
  rintro e w5 ⟨rfl, hb5⟩
  have HB5 := bt HB4 hb5
  clear hb5 HB4
  go_wp2_with fail
  refine bodyPost_ret (yt rfl _ _ _) rfl ?_
  exact ⟨by rw [← F1.out, ← F2.out]; rfl, HB5.out⟩
 ·have t1 : (r != 0) = true := by simpa using hr0
  by_cases h1 : r < 0
  ·by_cases h2 : y < 0
   ·obtain ⟨f1, f2⟩ := FS.out (.inr ⟨fun _ => h2, fun _ => h1⟩)
    have F1 := hide (f1.trans HG.out); have F2 := hide (f2.trans HH.out)
    clear hr0 f1 f2
    go_wp2_with fail
    refine (yl q (by omega) (by omega) B _ (HT.out.on HB3.out hB)).mono ?_
    rintro e w4 ⟨rfl, hb4⟩
    have HB4 := bt HB3 hb4
    clear hb4 HB3
    go_wp2_with fail
    refine (yl r (by omega) (by omega) B _ (HT.out.on HB4.out hB)).mono ?_
    rintro e w5 ⟨rfl, hb5⟩
    have HB5 := bt HB4 hb5
    clear hb5 HB4
    go_wp2_with fail
    refine bodyPost_ret (yt rfl _ _ _) rfl ?_
    exact ⟨by rw [← F1.out, ← F2.out]; rfl, HB5.out⟩
   ·obtain ⟨f1, f2⟩ := FL.out hr0 (fun e => h2 (e.1 h1))
    have F1 := hide (f1.trans HG.out); have F2 := hide (f2.trans HH.out)
    have t2 : (y < 0) = False := eq_false h2
    clear hr0 f1 f2 h2
    go_wp2_with fail
    refine (yl (q-1) (by omega) (by omega) B _ (HT.out.on HB3.out hB)).mono ?_
    rintro e w4 ⟨rfl, hb4⟩
    have HB4 := bt HB3 hb4
    clear hb4 HB3
    go_wp2_with fail
    refine (yl (r+y) (by omega) (by omega) B _ (HT.out.on HB4.out hB)).mono ?_
    rintro e w5 ⟨rfl, hb5⟩
    have HB5 := bt HB4 hb5
    clear hb5 HB4
    go_wp2_with fail
    refine bodyPost_ret (yt rfl _ _ _) rfl ?_
    exact ⟨by rw [← F1.out, ← F2.out]; rfl, HB5.out⟩
  ·by_cases h2 : y < 0
   ·obtain ⟨f1, f2⟩ := FL.out hr0 (fun e => h1 (e.2 h2))
    have F1 := hide (f1.trans HG.out); have F2 := hide (f2.trans HH.out)
    have t2 : (r < 0) = False := eq_false h1
    clear hr0 f1 f2 h1
    go_wp2_with fail
    refine (yl (q-1) (by omega) (by omega) B _ (HT.out.on HB3.out hB)).mono ?_
    rintro e w4 ⟨rfl, hb4⟩
    have HB4 := bt HB3 hb4
    clear hb4 HB3
    go_wp2_with fail
    refine (yl (r+y) (by omega) (by omega) B _ (HT.out.on HB4.out hB)).mono ?_
    rintro e w5 ⟨rfl, hb5⟩
    have HB5 := bt HB4 hb5
    clear hb5 HB4
    go_wp2_with fail
    refine bodyPost_ret (yt rfl _ _ _) rfl ?_
    exact ⟨by rw [← F1.out, ← F2.out]; rfl, HB5.out⟩
   ·obtain ⟨f1, f2⟩ := FS.out (.inr ⟨fun e => absurd e h1, fun e => absurd e h2⟩)
    have F1 := hide (f1.trans HG.out); have F2 := hide (f2.trans HH.out)
    have t2 : (r < 0) = False := eq_false h1
    have t3 : (y < 0) = False := eq_false h2
    clear hr0 f1 f2 h1 h2
    go_wp2_with fail
    refine (yl q (by omega) (by omega) B _ (HT.out.on HB3.out hB)).mono ?_
    rintro e w4 ⟨rfl, hb4⟩
    have HB4 := bt HB3 hb4
    clear hb4 HB3
    go_wp2_with fail
    refine (yl r (by omega) (by omega) B _ (HT.out.on HB4.out hB)).mono ?_
    rintro e w5 ⟨rfl, hb5⟩
    have HB5 := bt HB4 hb5
    clear hb5 HB4
    go_wp2_with fail
    refine bodyPost_ret (yt rfl _ _ _) rfl ?_
    exact ⟨by rw [← F1.out, ← F2.out]; rfl, HB5.out⟩
end Go.Proofs.YtklgpilgalfckaaGreatDoor
namespace Go.KI
open Go
theorem ydc (l : List UInt8) : (lead l).length ≤ l.length := by
 have := congrArg List.length (ji l).1
 rw [List.length_append] at this
 omega
theorem yds {l : List UInt8} {k : Nat} (h : k < (lead l).length) : ∃ c, l[k]? = some c ∧ isDg c = true := by
 obtain ⟨e1, e2, _⟩ := ji l
 refine ⟨(lead l)[k], ?_, e2 _ (List.getElem_mem h)⟩
 have h2 := congrArg (fun m : List UInt8 => m[k]?) e1
 rw [h2, List.getElem?_append_left h]
 exact List.getElem?_eq_getElem h
theorem ya9 {l : List UInt8} {c : UInt8} (h : l[(lead l).length]? = some c) : isDg c = false := by
 obtain ⟨_, _, e3⟩ := ji l
 refine e3 c ?_
 rw [List.head?_drop]
 exact h
theorem ycK {l : List UInt8} : l.take (lead l).length = lead l := by
 obtain ⟨e1, _, _⟩ := ji l
 have h := congrArg (List.take (lead l).length) e1
 rw [List.take_left] at h
 exact h
end Go.KI
namespace Go.Proofs.YtklgpilgalfckaaGreatDoor
open Go.RowKit Go.KP Go.KI Go.Shelf
attribute [local go_sem] Oper.semAt_some

theorem qR (s : ByteArray) (k : Nat) : s.extract k s.size = strB (s.data.toList.drop k) := by
 apply yp
 rw [yh]
 simp
 rw [List.take_of_length_le]
 rw [List.length_drop, yg]
 omega
def natIV (l : List UInt8) : Value := match natI l with
 |none => .tuple #[.int .i64 0, .string ⟨#[]⟩, .bool false]
 |some (n, rest) => .tuple #[.int .i64 n, .string (strB rest), .bool true]
theorem kh {l : List UInt8} (h : (lead l).length = 0 ∨ 8 < (lead l).length ∨ (1 < (lead l).length ∧ l.head? = some 48)) : natIV l = .tuple #[.int .i64 0, .string ⟨#[]⟩, .bool false] := by
 unfold natIV natI
 rw [if_pos h]
theorem ya4 {l : List UInt8} (h : ¬ ((lead l).length = 0 ∨ 8 < (lead l).length ∨ (1 < (lead l).length ∧ l.head? = some 48))) : natIV l = .tuple #[.int .i64 (dv (lead l) : Nat), .string (strB (l.drop (lead l).length)), .bool true] := by
 unfold natIV natI
 rw [if_neg h]
theorem xP (s : ByteArray) (hs : s.size ≤ 1000000) (w : World) :
 Calls Tryz.prog 180 #[.string s] w (Ret w (natIV s.data.toList)) := by
 obtain ⟨L, hL⟩ := xe ((lead s.data.toList).length)
 have hLs : L ≤ s.size := by rw [hL, ← yg]; exact ydc _
 have HLE := hide hL
 clear hL
 go_enter Tryz.func180, Tryz.ntmps180
 go_wp2_with fail
 go_loopw [5, 6] (fun n i wr => ∃ k A : Nat, k ≤ 9 ∧ k ≤ L ∧ i = .int .i64 k ∧ n = .int .i64 A ∧ Hid (A = dv (s.data.toList.take k)) ∧ wr = w) (fun _ i _ => 9 - (intOf i).toNat)
 case atStart => exact ⟨0, 0, by omega, by omega, rfl, rfl, rfl, rfl⟩
 case round =>
  obtain ⟨k, A, hk9, hkL, rfl, rfl, hA, rfl⟩ := hrel
  have hAl : A < 1000000000 := by
   have h1 := yay (s.data.toList.take k) (fun c hc => by
    have h2 : s.data.toList.take k = (lead s.data.toList).take k := by
     conv => lhs; rw [(ji s.data.toList).1]
     rw [List.take_append_of_le_length (by rw [← HLE.out]; exact hkL)]
    rw [h2] at hc
    exact (ji s.data.toList).2.1 c (List.mem_of_mem_take hc))
   rw [← hA.out] at h1
   have h3 : (s.data.toList.take k).length ≤ 9 := by rw [List.length_take]; omega
   have h4 : (10 : Nat) ^ (s.data.toList.take k).length ≤ 10 ^ 9 := Nat.pow_le_pow_right (by omega) h3
   have h5 : (10 : Nat) ^ 9 = 1000000000 := by decide
   omega
  by_cases hgo : k < L ∧ k ≤ 8
  ·obtain ⟨hkl, hk8⟩ := hgo
   have hlt : k < s.size := by omega
   have hki : (k : Int) < (s.size : Int) := by omega
   have hk8i : (k : Int) ≤ 8 := by omega
   have hk0 : (0 : Int) ≤ (k : Int) := by omega
   obtain ⟨c, hc, hcd⟩ := yds (l := s.data.toList) (k := k) (by rw [← HLE.out]; exact hkl)
   have hat : s.data.toList[k]? = some (s[k]'hlt) := by
    have h1 : s.data.toList[k]? = some s.data[k] := by simp
    exact h1
   obtain ⟨y, hyv⟩ : ∃ y : Nat, y = (s[k]'hlt).toNat := ⟨_, rfl⟩
   have hyv2 : (s[k]'hlt).toNat = y := hyv.symm
   have hdg : 48 ≤ y ∧ y ≤ 57 := by
    rw [hat] at hc
    injection hc with hc
    rw [hyv, hc]
    exact yH.1 hcd
   have hnew : dv (s.data.toList.take (k + 1)) = A * 10 + (y - 48) := by
    rw [List.take_add_one, hat]
    show dv (_ ++ [s[k]'hlt]) = _
    rw [qV, hyv2, hA.out]
   have HN := hide hnew.symm
   have y0 : (48 : Int) ≤ (y : Int) := by omega
   have y1 : (y : Int) ≤ 57 := by omega
   have a1 : (A : Int) < 1000000000 := by omega
   have HC := hide (show 10 * (A : Int) + ((y : Int) - 48) = ((A * 10 + (y - 48) : Nat) : Int) by omega)
   clear hat hyv hdg hnew hA hc hcd hAl
   go_wp2_with fail
   go_roundw
   case rel => exact ⟨k + 1, A * 10 + (y - 48), by omega, by omega, by go_num, by rw [← HC.out], HN, trivial⟩
   case measure => simp [intOf]; omega
  ·have hstop : ((k : Int) < (s.size : Int)) = False ∨ ((k : Int) < (s.size : Int) ∧ ((k : Int) ≤ 8) = False) ∨
    (∃ h : k < s.size, (k : Int) ≤ 8 ∧ ∃ y : Nat, (s[k]'h).toNat = y ∧ (y < 48 ∨ 57 < y)) := by
    by_cases h1 : k < s.size
    ·by_cases h2 : k ≤ 8
     ·have hkL2 : k = L := by omega
      obtain ⟨c, hc⟩ : ∃ c, s[k]'h1 = c := ⟨_, rfl⟩
      have hat : s.data.toList[k]? = some c := by
       have h3 : s.data.toList[k]? = some s.data[k] := by simp
       rw [h3]
       exact congrArg some hc
      have hat2 : s.data.toList[(lead s.data.toList).length]? = some c := by rw [← HLE.out, ← hkL2]; exact hat
      have h4 := ya9 hat2
      have h5 : ¬ (48 ≤ c.toNat ∧ c.toNat ≤ 57) := fun h => by
       have h6 := yH.2 h
       rw [h4] at h6
       cases h6
      exact .inr (.inr ⟨h1, by omega, c.toNat, by rw [hc], by omega⟩)
     ·exact .inr (.inl ⟨by omega, eq_false (by omega)⟩)
    ·exact .inl (eq_false (by omega))
   have hres : (((k : Int) == 0) = true ∧ natIV s.data.toList = .tuple #[.int .i64 0, .string ⟨#[]⟩, .bool false]) ∨ (((k : Int) == 0) = false ∧ (8 : Int) < (k : Int) ∧ natIV s.data.toList = .tuple #[.int .i64 0, .string ⟨#[]⟩, .bool false]) ∨
    (∃ h : 0 < s.size, ((k : Int) == 0) = false ∧ ((8 : Int) < (k : Int)) = False ∧ (1 : Int) < (k : Int) ∧ (((s[0]'h).toNat : Int) == 48) = true ∧ natIV s.data.toList = .tuple #[.int .i64 0, .string ⟨#[]⟩, .bool false]) ∨
    (∃ h : 0 < s.size, ((k : Int) == 0) = false ∧ ((8 : Int) < (k : Int)) = False ∧ (1 : Int) < (k : Int) ∧ (((s[0]'h).toNat : Int) == 48) = false ∧ natIV s.data.toList = .tuple #[.int .i64 A, .string (s.extract k s.size), .bool true]) ∨
    (((k : Int) == 0) = false ∧ ((8 : Int) < (k : Int)) = False ∧ ((1 : Int) < (k : Int)) = False ∧ natIV s.data.toList = .tuple #[.int .i64 A, .string (s.extract k s.size), .bool true]) := by
    have hz : k ≠ 0 → ((k : Int) == 0) = false := fun h => by
     simp only [beq_eq_false_iff_ne, ne_eq]
     omega
    rcases (show k = 0 ∨ 8 < k ∨ (1 < k ∧ k ≤ 8) ∨ k = 1 by omega) with h | h | ⟨h, h8⟩ | h
    ·exact .inl ⟨by rw [h]; rfl, kh (.inl (by rw [← HLE.out]; omega))⟩
    ·exact .inr (.inl ⟨hz (by omega), by omega, kh (.inr (.inl (by rw [← HLE.out]; omega)))⟩)
    ·have hkL2 : k = L := by omega
     have hp : 0 < s.size := by omega
     have hh : s.data.toList.head? = some (s[0]'hp) := by
      have h3 : s.data.toList[0]? = some s.data[0] := by simp
      rw [List.head?_eq_getElem?]
      exact h3
     by_cases h48 : s[0]'hp = 48
     ·refine .inr (.inr (.inl ⟨hp, hz (by omega), eq_false (by omega), by omega, by rw [h48]; rfl, kh (.inr (.inr ⟨by rw [← HLE.out]; omega, by rw [hh, h48]⟩))⟩))
     ·refine .inr (.inr (.inr (.inl ⟨hp, hz (by omega), eq_false (by omega), by omega, ?_, ?_⟩)))
      ·have : (s[0]'hp).toNat ≠ 48 := fun e => h48 (UInt8.toNat_inj.1 e)
       simp only [beq_eq_false_iff_ne, ne_eq]
       omega
      ·rw [ya4, hA.out, qR, hkL2, HLE.out, ycK]
       rintro (h1 | h1 | ⟨_, h1⟩)
       ·rw [← HLE.out] at h1; omega
       ·rw [← HLE.out] at h1; omega
       ·rw [hh] at h1
        injection h1 with h1
        exact h48 h1
    ·have hkL2 : k = L := by omega
     refine .inr (.inr (.inr (.inr ⟨hz (by omega), eq_false (by omega), eq_false (by omega), ?_⟩)))
     rw [ya4, hA.out, qR, hkL2, HLE.out, ycK]
     rintro (h1 | h1 | ⟨h1, _⟩)
     ·rw [← HLE.out] at h1; omega
     ·rw [← HLE.out] at h1; omega
     ·rw [← HLE.out] at h1; omega
   clear hA hgo
   have hsk : k ≤ s.size := by omega
   have hk0 : (0 : Int) ≤ (k : Int) := by omega
   have hski : (k : Int) ≤ (s.size : Int) := by omega
   rcases hstop with h1 | ⟨h1, h2⟩ | ⟨h1, h2, y, hy, h3⟩
   case' inr.inr =>
    have h1i : (k : Int) < (s.size : Int) := by omega
    rcases h3 with h3 | h3
    case' inl => have h4 : ((48 : Int) ≤ (y : Int)) = False := eq_false (by omega)
    case' inr =>
     have h4 : (48 : Int) ≤ (y : Int) := by omega
     have h5 : ((y : Int) ≤ 57) = False := eq_false (by omega)
   all_goals
    rcases hres with ⟨r0, r2⟩ | ⟨r0, r8, r2⟩ | ⟨hp, r0, r8, r1, r3, r2⟩ | ⟨hp, r0, r8, r1, r3, r2⟩ | ⟨r0, r8, r1, r2⟩
   all_goals have HR := hide r2
   all_goals clear r2
   all_goals first | (exfalso; omega) | skip
   all_goals
    go_wp2_with fail
    first
     |(refine bodyPost_ret (yt rfl _ _ _) rfl ?_
       rw [HR.out]
       exact ⟨rfl, Below.refl _ _⟩)
     |(go_quiet (fail)
       go_wp2_with fail
       refine bodyPost_ret (yt rfl _ _ _) rfl ?_
       rw [HR.out]
       exact ⟨rfl, below_drewN (Below.refl _ _) _⟩)
end Go.Proofs.YtklgpilgalfckaaGreatDoor
namespace Go.KI
open Go

def sz (p : Nat) (x : Rat) : Prop := x.num.natAbs < 10 ^ p ∧ x.den < 10 ^ p
theorem ygd {p q : Nat} {x : Rat} (h : sz p x) (hp : p ≤ q) : sz q x :=
 ⟨Nat.lt_of_lt_of_le h.1 (Nat.pow_le_pow_right (by omega) hp), Nat.lt_of_lt_of_le h.2 (Nat.pow_le_pow_right (by omega) hp)⟩
theorem jI {p : Nat} {x : Rat} (h : sz p x) (hp : p ≤ most) : fitsQ x :=
 ⟨yq hp h.1, yq hp (by rw [Int.natAbs_natCast]; exact h.2)⟩
theorem qs {a b p q : Nat} (ha : a < 10 ^ p) (hb : b < 10 ^ q) : a * b < 10 ^ (p + q) := by
 rw [Nat.pow_add]
 exact Nat.mul_lt_mul'' ha hb
theorem vC {a b p : Nat} (ha : a < 10 ^ p) (hb : b < 10 ^ p) : a + b < 10 ^ (p + 1) := by
 have : (10 : Nat) ^ (p + 1) = 10 ^ p * 10 := Nat.pow_succ ..
 omega
theorem wG {n d : Int} {p : Nat} (hd : 0 < d) (hn : n.natAbs < 10 ^ p) (hd2 : d.natAbs < 10 ^ p) : sz p (Rat.divInt n d) := by
 obtain ⟨h1, h2⟩ := jR n hd
 refine ⟨?_, ?_⟩
 ·rw [h1]
  refine Nat.lt_of_le_of_lt ?_ hn
  exact Int.natAbs_ediv_le_natAbs _ _
 ·have h3 : ((Rat.divInt n d).den : Int).natAbs ≤ d.natAbs := by
   rw [h2]
   exact Int.natAbs_ediv_le_natAbs _ _
  rw [Int.natAbs_natCast] at h3
  omega
theorem yiv (x : Rat) : (x.den : Int) ≠ 0 := by have := x.den_pos; omega
theorem jX (x y : Rat) : 0 < (x.den : Int) * y.den := by
 have h1 := x.den_pos
 have h2 := y.den_pos
 exact Int.mul_pos (by omega) (by omega)
theorem zR {p q : Nat} {x y : Rat} (hx : sz p x) (hy : sz q y) : (x.num * (y.den : Int)).natAbs < 10 ^ (p + q) ∧ (y.num * (x.den : Int)).natAbs < 10 ^ (p + q) ∧ ((x.den : Int) * y.den).natAbs < 10 ^ (p + q) ∧ (x.num * y.num).natAbs < 10 ^ (p + q) := by
 refine ⟨?_, ?_, ?_, ?_⟩
 ·rw [Int.natAbs_mul, Int.natAbs_natCast]
  exact qs hx.1 hy.2
 ·rw [Int.natAbs_mul, Int.natAbs_natCast, Nat.add_comm]
  exact qs hy.1 hx.2
 ·rw [Int.natAbs_mul, Int.natAbs_natCast, Int.natAbs_natCast]
  exact qs hx.2 hy.2
 ·rw [Int.natAbs_mul]
  exact qs hx.1 hy.1
theorem yhH {p q : Nat} {x y : Rat} (hx : sz p x) (hy : sz q y) : sz (p + q + 1) (x + y) := by
 obtain ⟨h1, h2, h3, _⟩ := zR hx hy
 rw [← qu]
 refine wG (jX x y) ?_ (Nat.lt_of_lt_of_le h3 (Nat.pow_le_pow_right (by omega) (by omega)))
 have := vC h1 h2
 omega
theorem yip {p q : Nat} {x y : Rat} (hx : sz p x) (hy : sz q y) : sz (p + q + 1) (x - y) := by
 obtain ⟨h1, h2, h3, _⟩ := zR hx hy
 rw [← kf]
 refine wG (jX x y) ?_ (Nat.lt_of_lt_of_le h3 (Nat.pow_le_pow_right (by omega) (by omega)))
 have := vC h1 h2
 omega
theorem yad {p q : Nat} {x y : Rat} (hx : sz p x) (hy : sz q y) : sz (p + q) (x * y) := by
 obtain ⟨_, _, h3, h4⟩ := zR hx hy
 rw [← qy]
 exact wG (jX x y) h4 h3
theorem yfK {p q : Nat} {x y : Rat} (hx : sz p x) (hy : sz q y) (h : p + q + 1 ≤ most) : addC x y := by
 obtain ⟨h1, h2, h3, _⟩ := zR hx hy
 have h4 := vC h1 h2
 exact ⟨yq (by omega) h1, yq (by omega) h2, yq h (by omega), yq (by omega) h3⟩
theorem yfq {p q : Nat} {x y : Rat} (hx : sz p x) (hy : sz q y) (h : p + q + 1 ≤ most) : subC x y := by
 obtain ⟨h1, h2, h3, _⟩ := zR hx hy
 have h4 := vC h1 h2
 exact ⟨yq (by omega) h1, yq (by omega) h2, yq h (by omega), yq (by omega) h3⟩
theorem yge {p q : Nat} {x y : Rat} (hx : sz p x) (hy : sz q y) (h : p + q ≤ most) : mulC x y := by
 obtain ⟨_, _, h3, h4⟩ := zR hx hy
 exact ⟨yq h h4, yq h h3⟩
theorem km {p q : Nat} {x y : Rat} (hx : sz p x) (hy : sz q y) (h : p + q ≤ most) : cmpC x y := by
 obtain ⟨h1, h2, _, _⟩ := zR hx hy
 exact ⟨yq h h1, yq h h2⟩
theorem qT {l : List UInt8} (h : natQ l) : sz 8 (valQ l) := by
 obtain ⟨h1, h2, _⟩ := ke h
 exact ⟨by simpa using h1, by simpa using h2⟩
end Go.KI
