/-
 Texts laid together.
-/
import Derived.Test.YtklgpilgalfckaaGreatDoorMA5
import Derived.Test.YtklgpilgalfckaaGreatDoorMA7
import Derived.Test.YtklgpilgalfckaaGreatDoorMA1
set_option maxRecDepth 100000
set_option maxHeartbeats 8000000
namespace Go.Proofs.YtklgpilgalfckaaGreatDoor
open Go.RowKit Go.KP Go.KI Go.Shelf
attribute [local go_sem] Oper.semAt_some

def cutV (l : List UInt8) : Value := if cutOK l then .tuple #[partsV (strB (numT l)) (strB (denS l)), .bool true] else .tuple #[partsV ⟨#[]⟩ ⟨#[]⟩, .bool false]
theorem yfH (l : List UInt8) (O : ByteArray) (hO : O.data.toList = digs (numT l)) (k : Nat) (hk : k = digN (digs (numT l))) (neg : Bool) (hneg : neg = decide ((numT l).head? = some 45)) :
 ((((k : Int) == 0) = true ∧ ¬ cutOK l) ∨ (((k : Int) == 0) = false ∧ (k : Int) < (O.size : Int) ∧ ¬ cutOK l) ∨
   (((k : Int) == 0) = false ∧ ((k : Int) < (O.size : Int)) = False ∧ neg = true ∧ (O.toList == [48]) = true ∧ ¬ cutOK l)) ∨
 ((((k : Int) == 0) = false ∧ ((k : Int) < (O.size : Int)) = False ∧ neg = true ∧ (O.toList == [48]) = false ∧ chkI (numT l) ≠ 11) ∨
   (((k : Int) == 0) = false ∧ ((k : Int) < (O.size : Int)) = False ∧ neg = false ∧ chkI (numT l) ≠ 11)) := by
 have h11 := yf3 (numT l)
 have hdn := kG (digs (numT l))
 have hno : chkI (numT l) = 11 → ¬ cutOK l := fun h hc => hc (.inl h)
 have hsz : O.size = (digs (numT l)).length := by rw [← yg, hO]
 rw [← hk] at hdn
 obtain ⟨z1, z2⟩ := beq0 (k := k)
 obtain ⟨t1, t2⟩ := zz (m := [48]) hO
 by_cases h0 : k = 0
 ·exact .inl (.inl ⟨z1 h0, hno (h11.2 (.inl (hdn.1 (.inl h0))))⟩)
 ·by_cases hl : k < (digs (numT l)).length
  ·exact .inl (.inr (.inl ⟨z2 h0, by omega, hno (h11.2 (.inl (hdn.1 (.inr hl))))⟩))
  ·have hf : ((k : Int) < (O.size : Int)) = False := eq_false (by omega)
   have hnum : ¬ ¬ numeral (digs (numT l)) := fun e => by
    rcases hdn.2 e with e1 | e1
    ·exact h0 e1
    ·exact hl e1
   by_cases hn : (numT l).head? = some 45
   ·have hn1 : neg = true := by rw [hneg, hn]; rfl
    by_cases h48 : digs (numT l) = [48]
    ·exact .inl (.inr (.inr ⟨z2 h0, hf, hn1, t1 h48, hno (h11.2 (.inr ⟨hn, h48⟩))⟩))
    ·refine .inr (.inl ⟨z2 h0, hf, hn1, t2 h48, fun e => ?_⟩)
     rcases h11.1 e with e1 | e1
     ·exact hnum e1
     ·exact h48 e1.2
   ·refine .inr (.inr ⟨z2 h0, hf, by rw [hneg]; simpa using hn, fun e => ?_⟩)
    rcases h11.1 e with e1 | e1
    ·exact hnum e1
    ·exact hn e1.1
theorem yf1 (l : List UInt8) (h47 : 47 ∈ l) (hc : chkI (numT l) ≠ 11) (D : ByteArray) (hD : D.data.toList = denT l) (k : Nat) (hk : k = digN (denT l)) :
 ((((k : Int) == 0) = true ∧ ¬ cutOK l) ∨ (((k : Int) == 0) = false ∧ (k : Int) < (D.size : Int) ∧ ¬ cutOK l) ∨
   (((k : Int) == 0) = false ∧ ((k : Int) < (D.size : Int)) = False ∧ (D.toList == [48]) = true ∧ ¬ cutOK l) ∨
   (((k : Int) == 0) = false ∧ ((k : Int) < (D.size : Int)) = False ∧ (D.toList == [48]) = false ∧ (D.toList == [49]) = true ∧ ¬ cutOK l)) ∨
   (((k : Int) == 0) = false ∧ ((k : Int) < (D.size : Int)) = False ∧ (D.toList == [48]) = false ∧ (D.toList == [49]) = false ∧ cutOK l) := by
 have hdn := kG (denT l)
 have hsz : D.size = (denT l).length := by rw [← yg, hD]
 rw [← hk] at hdn
 obtain ⟨z1, z2⟩ := beq0 (k := k)
 obtain ⟨t1, t2⟩ := zz (m := [48]) hD
 obtain ⟨u1, u2⟩ := zz (m := [49]) hD
 by_cases h0 : k = 0
 ·exact .inl (.inl ⟨z1 h0, fun h => h (.inr ⟨h47, .inl (hdn.1 (.inl h0))⟩)⟩)
 ·by_cases hl : k < (denT l).length
  ·exact .inl (.inr (.inl ⟨z2 h0, by omega, fun h => h (.inr ⟨h47, .inl (hdn.1 (.inr hl))⟩)⟩))
  ·have hf : ((k : Int) < (D.size : Int)) = False := eq_false (by omega)
   have hnum : ¬ ¬ numeral (denT l) := fun e => by
    rcases hdn.2 e with e1 | e1
    ·exact h0 e1
    ·exact hl e1
   by_cases h48 : denT l = [48]
   ·exact .inl (.inr (.inr (.inl ⟨z2 h0, hf, t1 h48, fun h => h (.inr ⟨h47, .inr (.inl h48)⟩)⟩)))
   ·by_cases h49 : denT l = [49]
    ·exact .inl (.inr (.inr (.inr ⟨z2 h0, hf, t2 h48, u1 h49, fun h => h (.inr ⟨h47, .inr (.inr h49)⟩)⟩)))
    ·refine .inr ⟨z2 h0, hf, t2 h48, u2 h49, ?_⟩
     rintro (h | ⟨_, h | h | h⟩)
     ·exact hc h
     ·exact hnum h
     ·exact h48 h
     ·exact h49 h
theorem ygO (s : ByteArray) (hs : s.size ≤ 1000000) (B : Nat) (w : World) (hB : B ≤ w.heap.size) (hT : PQ B w) :
 Calls Tryz.prog 183 #[.string s] w (Ret w (cutV s.data.toList)) := by
 have H0 := hide (heap1 w (partsO ⟨#[]⟩ ⟨#[]⟩))
 have hTT := hide (hT.on H0.out.2.2 hB)
 have nle : (numT s.data.toList).length ≤ s.size := by
  rw [← yg]
  exact List.Sublist.length_le (List.takeWhile_sublist _)
 have dle : (denT s.data.toList).length ≤ s.size := by
  have h1 : (denT s.data.toList).length ≤ (s.data.toList.dropWhile (fun c => c != 47)).length := by
   unfold denT
   rw [List.length_drop]
   omega
  have h2 := List.Sublist.length_le (List.dropWhile_sublist (l := s.data.toList) (fun c => c != 47))
  rw [yg] at h2
  omega
 have ole : (digs (numT s.data.toList)).length ≤ s.size := by rw [yZ, List.length_drop]; omega
 have HC := hide (yg3 47 s hs B _ hTT.out)
 obtain ⟨n, hn⟩ := xe (strB (numT s.data.toList))
 have HC : Hid (Calls Tryz.prog 219 #[.string s, .string ⟨#[47]⟩] (w.alloc (partsO ⟨#[]⟩ ⟨#[]⟩)) (Ret (w.alloc (partsO ⟨#[]⟩ ⟨#[]⟩)) (.tuple #[.string n, .string (strB (if 47 ∈ s.data.toList then denT s.data.toList else [])), .bool (decide (47 ∈ s.data.toList))]))) := hide (by rw [hn]; exact HC.out)
 have HP := hide (fun w => jC n w)
 have hnl : n.data.toList = numT s.data.toList := by rw [hn, yh]
 rw [hnl] at HP
 obtain ⟨O, hO⟩ := xe (strB (digs (numT s.data.toList)))
 rw [← hO] at HP
 have hOl : O.data.toList = digs (numT s.data.toList) := by rw [hO, yh]
 have hOs : O.size ≤ 1000000 := by rw [← yg, hOl]; omega
 obtain ⟨neg, hneg⟩ := xe (decide ((numT s.data.toList).head? = some 45))
 rw [← hneg] at HP
 obtain ⟨k, hk⟩ := xe (digN (digs (numT s.data.toList)))
 have HD := hide (fun w => wv O hOs w)
 rw [hOl, ← hk] at HD
 have hks : k ≤ 1000000 := by have := yfh (digs (numT s.data.toList)); omega
 have hw1 := yfH s.data.toList O hOl k hk neg hneg
 have HNE := hide hn
 have HF := hide (fun (h : ¬ cutOK s.data.toList) => show cutV s.data.toList = .tuple #[partsV ⟨#[]⟩ ⟨#[]⟩, .bool false] from if_neg h)
 have HT := hide (fun (h : cutOK s.data.toList) => show cutV s.data.toList = .tuple #[partsV n (strB (denS s.data.toList)), .bool true] by rw [hn]; exact if_pos h)
 obtain ⟨V, hV⟩ := xe (cutV s.data.toList)
 rw [← hV] at HF HT ⊢
 clear hn hnl hO hOl hneg hk hV hT
 have hw2 : (¬ 47 ∈ s.data.toList) ∨ 47 ∈ s.data.toList := by
  by_cases h : 47 ∈ s.data.toList
  ·exact .inr h
  ·exact .inl h
 rcases hw1 with hbad | hgood
 ·obtain ⟨is, his⟩ := xe (decide (47 ∈ s.data.toList))
  obtain ⟨dd, hdd⟩ := xe (strB (if 47 ∈ s.data.toList then denT s.data.toList else []))
  rw [← his, ← hdd] at HC
  clear his hdd hw2
  rcases hbad with ⟨h1, h2⟩ | ⟨h1, h3, h2⟩ | ⟨h1, h3, h4, h5, h2⟩
  case' inr.inr => subst h4
  all_goals
   have HE := hide (HF.out h2)
   clear h2
   go_enter Tryz.func183, Tryz.ntmps183
   go_wp2_with fail
   refine HC.out.mono ?_
   rintro e w1 ⟨rfl, hb1⟩
   have G1 := hide (yc hb1 H0.out.1 (yd H0.out.1))
   have HB1 := hide (H0.out.2.2.trans (hb1.mono H0.out.2.2.size))
   clear hb1
   go_wp2_with fail
   refine (HP.out _).mono ?_
   rintro e w1' ⟨rfl, rfl⟩
   go_wp2_with fail
   refine (HD.out _).mono ?_
   rintro e w2 ⟨rfl, hb2⟩
   have G2 := bh hb2 G1
   have HB2 := bt HB1 hb2
   have f0 := yf G2.out 0
   have f1 := yf G2.out 1
   have c0 := ya G2.out 0
   have c1 := ya G2.out 1
   clear hb2
   go_wp2_with fail
   refine vR G2.out (by rfl) (by rfl) (by rfl) (fun hb => ?_)
   rw [HE.out]
   exact ⟨rfl, HB2.out.trans hb⟩
 ·rcases hw2 with h47 | h47
  ·have h47d : decide (47 ∈ s.data.toList) = false := by simpa using h47
   have HDS := hide (show strB (denS s.data.toList) = ⟨#[49]⟩ by unfold denS; rw [if_neg h47]; rfl)
   have hok : chkI (numT s.data.toList) ≠ 11 → cutOK s.data.toList := fun h => by
    rintro (h1 | h1)
    ·exact h h1
    ·exact h47 h1.1
   rw [h47d] at HC
   obtain ⟨dd, hdd⟩ := xe (strB (if 47 ∈ s.data.toList then denT s.data.toList else []))
   rw [← hdd] at HC
   clear hdd h47 h47d
   rcases hgood with ⟨h1, h3, h4, h5, h2⟩ | ⟨h1, h3, h4, h2⟩
   all_goals
    subst h4
    have HE := hide (HT.out (hok h2))
    clear h2 hok
    go_enter Tryz.func183, Tryz.ntmps183
    go_wp2_with fail
    refine HC.out.mono ?_
    rintro e w1 ⟨rfl, hb1⟩
    have G1 := hide (yc hb1 H0.out.1 (yd H0.out.1))
    have HB1 := hide (H0.out.2.2.trans (hb1.mono H0.out.2.2.size))
    clear hb1
    go_wp2_with fail
    refine (HP.out _).mono ?_
    rintro e w1' ⟨rfl, rfl⟩
    go_wp2_with fail
    refine (HD.out _).mono ?_
    rintro e w2 ⟨rfl, hb2⟩
    have G2 := bh hb2 G1
    have HB2 := bt HB1 hb2
    have f0 := yf G2.out 0
    have f1 := yf G2.out 1
    have c0 := ya G2.out 0
    have c1 := ya G2.out 1
    clear hb2
    go_wp2_with fail
    refine vR G2.out (by rfl) (by rfl) (by rfl) (fun hb => ?_)
    rw [HE.out, HDS.out]
    exact ⟨rfl, HB2.out.trans hb⟩
  ·have h47d : decide (47 ∈ s.data.toList) = true := by simpa using h47
   obtain ⟨D, hD⟩ := xe (strB (denT s.data.toList))
   have hDl : D.data.toList = denT s.data.toList := by rw [hD, yh]
   have hDs : D.size ≤ 1000000 := by rw [← yg, hDl]; omega
   rw [h47d, if_pos h47, ← hD] at HC
   obtain ⟨k2, hk2⟩ := xe (digN (denT s.data.toList))
   have HD2 := hide (fun w => wv D hDs w)
   rw [hDl, ← hk2] at HD2
   have hks2 : k2 ≤ 1000000 := by have := yfh (denT s.data.toList); omega
   have HDS := hide (show strB (denS s.data.toList) = D by unfold denS; rw [if_pos h47, hD])
   have hw3 := fun hc => yf1 s.data.toList h47 hc D hDl k2 hk2
   clear hD hDl h47 h47d hk2
   rcases hgood with ⟨h1, h3, h4, h5, h2⟩ | ⟨h1, h3, h4, h2⟩
   all_goals
    subst h4
    rcases hw3 h2 with (⟨g1, g2⟩ | ⟨g1, g3, g2⟩ | ⟨g1, g3, g4, g2⟩ | ⟨g1, g3, g4, g5, g2⟩) | ⟨g1, g3, g4, g5, g2⟩
   all_goals
    have HG := hide g2
    clear g2 hw3
    go_enter Tryz.func183, Tryz.ntmps183
    go_wp2_with fail
    refine HC.out.mono ?_
    rintro e w1 ⟨rfl, hb1⟩
    have G1 := hide (yc hb1 H0.out.1 (yd H0.out.1))
    have HB1 := hide (H0.out.2.2.trans (hb1.mono H0.out.2.2.size))
    clear hb1
    go_wp2_with fail
    refine (HP.out _).mono ?_
    rintro e w1' ⟨rfl, rfl⟩
    go_wp2_with fail
    refine (HD.out _).mono ?_
    rintro e w2 ⟨rfl, hb2⟩
    have G2 := bh hb2 G1
    have HB2 := bt HB1 hb2
    have f0 := yf G2.out 0
    have f1 := yf G2.out 1
    have c0 := ya G2.out 0
    have c1 := ya G2.out 1
    clear hb2
    go_wp2_with fail
    clear c0 c1 f0 f1
    refine (HD2.out _).mono ?_
    rintro e w3 ⟨rfl, hb3⟩
    have G3 := bh hb3 G2
    have HB3 := bt HB2 hb3
    have f0 := yf G3.out 0
    have f1 := yf G3.out 1
    have c0 := ya G3.out 0
    have c1 := ya G3.out 1
    clear hb3
    go_wp2_with fail
    refine vR G3.out (by rfl) (by rfl) (by rfl) (fun hb => ?_)
    first
     |(rw [HF.out HG.out]
       exact ⟨rfl, HB3.out.trans hb⟩)
     |(rw [HT.out HG.out, HDS.out]
       exact ⟨rfl, HB3.out.trans hb⟩)

theorem kc {R : Ending → World → Prop} {a : Act} {W : World} {b : Nat} {n d : Int} {ok : Bool} (hb : W.heap[b]? = some (natO n d)) (h2 : a.tmps[2]? = some (.pointer (some ⟨b, 0, none⟩))) (h3 : a.tmps[3]? = some (.bool ok)) (hd : a.defers = []) (hR : R (.returned (.tuple #[natV n d, .bool ok])) W) :
 bodyPost Tryz.prog Tryz.f125 R .ret a W := by
 have hcell := fun o => ya hb o
 refine bodyPost_ret ?_ hd hR
 simp [results, go_sem, hcell, h2, h3]
theorem zF {R : Ending → World → Prop} {a : Act} {W : World} {b : Nat} {n d u0 u1 : Int} {ok : Bool} (hb : W.heap[b]? = some (natO u0 u1)) (h2 : a.tmps[2]? = some (.pointer (some ⟨b, 0, none⟩))) (h3 : a.tmps[3]? = some (.bool ok)) (hd : a.defers = [])
 (hR : Below b W ((W.setCell ⟨b, 0, none⟩ (.int .i64 n)).setCell ⟨b, 1, none⟩ (.int .i64 d)) → R (.returned (.tuple #[natV n d, .bool ok])) ((W.setCell ⟨b, 0, none⟩ (.int .i64 n)).setCell ⟨b, 1, none⟩ (.int .i64 d))) :
 bodyPost Tryz.prog Tryz.f125 R .ret a ((W.setCell ⟨b, 0, none⟩ (.int .i64 n)).setCell ⟨b, 1, none⟩ (.int .i64 d)) := by
 obtain ⟨s1, s2⟩ := set2 hb (.int .i64 n) (.int .i64 d)
 exact kc s1 h2 h3 hd (hR s2)
theorem jO {R : Ending → World → Prop} {a : Act} {W : World} {b : Nat} {n d u0 u1 : Int} {ok : Bool} {X : Obj} (hb : W.heap[b]? = some (natO u0 u1)) (h2 : a.tmps[2]? = some (.pointer (some ⟨b, 0, none⟩))) (h3 : a.tmps[3]? = some (.bool ok)) (hd : a.defers = [])
 (hR : Below b W (((W.setCell ⟨b, 0, none⟩ (.int .i64 n)).setCell ⟨b, 1, none⟩ (.int .i64 d)).alloc X) → R (.returned (.tuple #[natV n d, .bool ok])) (((W.setCell ⟨b, 0, none⟩ (.int .i64 n)).setCell ⟨b, 1, none⟩ (.int .i64 d)).alloc X)) :
 bodyPost Tryz.prog Tryz.f125 R .ret a (((W.setCell ⟨b, 0, none⟩ (.int .i64 n)).setCell ⟨b, 1, none⟩ (.int .i64 d)).alloc X) := by
 obtain ⟨s1, s2⟩ := set2 hb (.int .i64 n) (.int .i64 d)
 have hl := yd s1
 exact kc ((Below.heap_alloc _ _ _ hl).trans s1) h2 h3 hd (hR (s2.alloc (by have := s2.size; have := yd hb; omega) _))
theorem wZ {w : World} {b c o : Nat} {x : Obj} (h : w.heap[b]? = some x) (hne : ¬ c = b) (v : Value) : (w.setCell ⟨c, o, none⟩ v).heap[b]? = some x := by
 simp only [World.setCell]
 rw [Array.getElem?_modify, if_neg hne]
 exact h
theorem ydV {w : World} {c : Nat} {n d u : Int} (h : w.heap[c]? = some (natO n u)) : (w.setCell ⟨c, 1, none⟩ (.int .i64 d)).heap[c]? = some (natO n d) ∧ Below c w (w.setCell ⟨c, 1, none⟩ (.int .i64 d)) := by
 refine ⟨?_, (Below.refl c w).setCell (p := ⟨c, 1, none⟩) (Nat.le_refl _) _⟩
 simp only [World.setCell, Array.getElem?_modify, h]
 simp
theorem yhv {w : World} {c : Nat} {n d u : Int} (h : w.heap[c]? = some (natO u d)) : (w.setCell ⟨c, 0, none⟩ (.int .i64 n)).heap[c]? = some (natO n d) ∧ Below c w (w.setCell ⟨c, 0, none⟩ (.int .i64 n)) := by
 refine ⟨?_, (Below.refl c w).setCell (p := ⟨c, 0, none⟩) (Nat.le_refl _) _⟩
 simp only [World.setCell, Array.getElem?_modify, h]
 simp
def natOV (l : List UInt8) : Value := match natOf l with
 |none => .tuple #[natV 0 0, .bool false]
 |some (n, d) => .tuple #[natV n d, .bool true]
theorem xk {l : List UInt8} (h : natI l = none) : natIV l = .tuple #[.int .i64 0, .string ⟨#[]⟩, .bool false] := by unfold natIV; rw [h]
theorem xw {l : List UInt8} {n : Nat} {r : List UInt8} (h : natI l = some (n, r)) : natIV l = .tuple #[.int .i64 n, .string (strB r), .bool true] := by unfold natIV; rw [h]
theorem yf5 {l : List UInt8} {n : Nat} {r : List UInt8} (h : natI l = some (n, r)) : n < 100000000 ∧ r.length ≤ l.length := by
 obtain ⟨h1, h2, _⟩ := wj h
 refine ⟨by have := (yn (u := n) (n := 8) (by omega)).1 h2; simpa using this, ?_⟩
 have := congrArg List.length h1
 rw [List.length_append] at this
 omega
theorem yfP (l : List UInt8) (neg : Bool) (hs : (digs l).length < l.length ↔ neg = true) : natOf l = match natI (digs l) with
 |none => none
 |some (n, rest) => if neg = true ∧ n = 0 then none else
  match rest with
  | [] => some (if neg = true then -(n : Int) else (n : Int), 1)
  |c :: r => if c ≠ 47 then none else
   match natI r with
   |none => none
   |some (d, rest2) => if rest2 ≠ [] ∨ d < 2 ∨ Nat.gcd n d ≠ 1 then none else some (if neg = true then -(n : Int) else (n : Int), d) := by
 unfold natOf
 cases natI (digs l) with
 |none => rfl
 |some p =>
  obtain ⟨n, rest⟩ := p
  simp only [hs]
  cases rest with
  |nil => rfl
  |cons c r =>
   cases natI r with
   |none => rfl
   |some q =>
    obtain ⟨d, r2⟩ := q
    rfl
theorem kH (l : List UInt8) : (digs l).length < l.length ↔ l.head? = some 45 := by
 cases l with
 |nil => simp [digs]
 |cons c r =>
  by_cases h : c = 45
  ·simp [digs, h]
  ·simp [digs, h]
theorem zu (s : ByteArray) (hs : s.size ≤ 1000000) (w : World) :
 Calls Tryz.prog 125 #[.string s] w (Ret w (natOV s.data.toList)) := by
 have H0 := hide (heap1 w (natO 0 0))
 obtain ⟨neg, hneg⟩ := xe (decide (s.data.toList.head? = some 45))
 obtain ⟨O, hO⟩ : ∃ O : ByteArray, O = strB (digs s.data.toList) := ⟨_, rfl⟩
 have hOs : O.size ≤ s.size := by
  rw [hO, yu, yZ, List.length_drop, yg]
  omega
 have HN := hide (fun w => xP O (by omega) w)
 rw [show O.data.toList = digs s.data.toList by rw [hO, yh]] at HN
 have hOe : (neg = false → O = s) ∧ (neg = true → s.extract 1 s.size = O) := by
  constructor
  ·intro h
   rw [h] at hneg
   rw [hO]
   apply yp
   rw [yh, yZ, if_neg (of_decide_eq_false hneg.symm)]
   rfl
  ·intro h
   rw [h] at hneg
   rw [qR, hO, yZ, if_pos (of_decide_eq_true hneg.symm)]
 have hlen : ((O.size : Int) < (s.size : Int)) = (neg = true) := by
  have h1 := kH s.data.toList
  rw [yg] at h1
  have h2 : O.size = (digs s.data.toList).length := by rw [hO, yu]
  rw [← h2] at h1
  apply propext
  rw [hneg, decide_eq_true_iff, ← h1]
  omega
 have HNEG := hide (yfP s.data.toList neg (by rw [hneg, decide_eq_true_iff]; exact kH _))
 obtain ⟨V, hV⟩ := xe (natOV s.data.toList)
 have HV := hide hV
 rw [← hV]
 clear hV
 have hstart : (s.data.toList = [] ∧ neg = false) ∨ (∃ h : 0 < s.size, s.toList.isEmpty = false ∧ ((neg = false ∧ (((s[0]'h).toNat : Int) == 45) = false) ∨ (neg = true ∧ (((s[0]'h).toNat : Int) == 45) = true))) := by
  by_cases hne : s.data.toList = []
  ·exact .inl ⟨hne, by rw [hneg, hne]; rfl⟩
  ·obtain ⟨hp, hh⟩ := yT hne
   refine .inr ⟨hp, vh hne, ?_⟩
   by_cases h45 : s[0] = 45
   ·exact .inr ⟨by rw [hneg, hh, h45]; rfl, by rw [h45]; rfl⟩
   ·refine .inl ⟨?_, ?_⟩
    ·rw [hneg, hh]
     simpa using h45
    ·have : s[0].toNat ≠ 45 := fun h => h45 (UInt8.toNat_inj.1 h)
     simp only [beq_eq_false_iff_ne, ne_eq]
     omega
 clear hneg hO
 rcases hstart with ⟨h1, h2⟩ | ⟨hp, h1, ⟨h2, h3⟩ | ⟨h2, h3⟩⟩
 case' inl =>
  subst h2
  have he := jS h1
  have hs2 : s = O := (hOe.1 rfl).symm
  subst hs2
  have hl : ((s.size : Int) < (s.size : Int)) = False := eq_false (by omega)
  clear h1 hOe hlen hOs
  go_enter Tryz.func125, Tryz.ntmps125
  go_wp2_with fail
 case' inr.inl =>
  subst h2
  have hp0 : (0 : Int) < (s.size : Int) := by omega
  have hs2 : s = O := (hOe.1 rfl).symm
  subst hs2
  have hl : ((s.size : Int) < (s.size : Int)) = False := eq_false (by omega)
  clear hOe hlen hOs
  go_enter Tryz.func125, Tryz.ntmps125
  go_wp2_with fail
 case' inr.inr =>
  subst h2
  have hp0 : (0 : Int) < (s.size : Int) := by omega
  have hs1 : (1 : Int) ≤ (s.size : Int) := by omega
  have HE := hide (hOe.2 rfl)
  have hl : (O.size : Int) < (s.size : Int) := by rw [hlen]
  clear hOe hlen
  go_enter Tryz.func125, Tryz.ntmps125
  go_wp2_with fail
  rw [HE.out]
 all_goals
  refine (HN.out _).mono ?_
  rintro e w1 ⟨rfl, hb1⟩
  have G1 := hide (yc hb1 H0.out.1 (yd H0.out.1))
  have HB1 := hide (H0.out.2.2.trans (hb1.mono H0.out.2.2.size))
  have hsz1 := yd G1.out
  have f0 := yf G1.out 0
  have f1 := yf G1.out 1
  have c0 := ya G1.out 0
  have c1 := ya G1.out 1
  clear hb1 HN
  cases hNI : natI (digs s.data.toList) with
  |none =>
   rw [xk hNI]
   have HR := hide (show V = .tuple #[natV 0 0, .bool false] by
    rw [HV.out]
    unfold natOV
    rw [HNEG.out, hNI])
   clear hNI
   go_wp2_with fail
   obtain ⟨s1, s2⟩ := set2 G1.out (.int .i64 0) (.int .i64 0)
   refine kc s1 rfl rfl rfl ?_
   rw [HR.out]
   exact ⟨rfl, HB1.out.trans (s2.mono (by omega))⟩
  |some p =>
   obtain ⟨n, rest⟩ := p
   obtain ⟨hnl, hrl⟩ := yf5 hNI
   rw [xw hNI]
   have HS := hide (show natOf s.data.toList = _ from HNEG.out)
   rw [hNI] at HS
   simp only [] at HS
   have hzc : (n = 0 ∧ ((n : Int) == 0) = true) ∨ (n ≠ 0 ∧ ((n : Int) == 0) = false) := by
    by_cases h : n = 0
    ·exact .inl ⟨h, by rw [h]; rfl⟩
    ·refine .inr ⟨h, ?_⟩
     simp only [beq_eq_false_iff_ne, ne_eq]
     omega
   have HF := hide (fun (h : natOf s.data.toList = none) => show V = .tuple #[natV 0 0, .bool false] by
    rw [HV.out]
    unfold natOV
    rw [h])
   have HT := hide (fun (a : Int) (b : Nat) (h : natOf s.data.toList = some (a, b)) => show V = .tuple #[natV a b, .bool true] by
    rw [HV.out]
    unfold natOV
    rw [h])
   obtain ⟨t, ht⟩ := xe (strB rest)
   rw [← ht]
   have HTT := hide ht
   clear ht hNI HV HNEG
   have hsh : (rest = [] ∧ t.toList.isEmpty = true) ∨ (∃ h : 0 < t.size, t.toList.isEmpty = false ∧ (((t[0]'h).toNat : Int) != 47) = true ∧ ∃ c r, rest = c :: r ∧ c ≠ 47) ∨ (∃ h : 0 < t.size, t.toList.isEmpty = false ∧ (((t[0]'h).toNat : Int) != 47) = false ∧ ∃ r, rest = 47 :: r ∧ t.extract 1 t.size = strB r) := by
    have hte : t.data.toList = rest := by rw [HTT.out, yh]
    by_cases hr : rest = []
    ·exact .inl ⟨hr, jS (by rw [hte, hr])⟩
    ·obtain ⟨hp, hh⟩ := yT (s := t) (by rw [hte]; exact hr)
     obtain ⟨c, r, hcr⟩ : ∃ c r, rest = c :: r := by
      cases rest with
      |nil => exact absurd rfl hr
      |cons c r => exact ⟨c, r, rfl⟩
     have h0 : t[0]'hp = c := by
      rw [hte, hcr] at hh
      injection hh with hh
      exact hh.symm
     by_cases h47 : c = 47
     ·refine .inr (.inr ⟨hp, vh (by rw [hte]; exact hr), by rw [h0, h47]; rfl, r, by rw [hcr, h47], ?_⟩)
      rw [qR, hte, hcr]
      rfl
     ·refine .inr (.inl ⟨hp, vh (by rw [hte]; exact hr), ?_, c, r, hcr, h47⟩)
      rw [h0]
      have : c.toNat ≠ 47 := fun h => h47 (UInt8.toNat_inj.1 h)
      simp only [bne_iff_ne, ne_eq]
      omega
   have hts : t.size ≤ 1000000 := by
    rw [HTT.out, yu]
    have h1 : (digs s.data.toList).length ≤ s.data.toList.length := by rw [yZ, List.length_drop]; omega
    rw [yg] at h1
    omega
   have GA := hide (fun ob : Obj => (Below.heap_alloc w1 ob _ hsz1).trans G1.out)
   rcases hsh with ⟨g1, g2⟩ | ⟨hpt, g2, g3, g1⟩ | ⟨hpt, g2, g3, r, g1, g4⟩
   all_goals
    have GR := hide g1
    clear g1
    rcases hzc with ⟨hz, hz0⟩ | ⟨hz, hz0⟩
   all_goals
    have HZ := hide hz
    clear hz
   all_goals try have hpt0 : (0 : Int) < (t.size : Int) := Int.ofNat_lt.2 hpt
   all_goals go_wp2_with fail
   all_goals first
    |(refine zF (ok := false) G1.out (by rfl) (by rfl) (by rfl) (fun hb => ?_)
      rw [HF.out (by rw [HS.out, HZ.out]; rfl)]
      exact ⟨rfl, HB1.out.trans hb⟩)
    |(refine jO (ok := false) G1.out (by rfl) (by rfl) (by rfl) (fun hb => ?_)
      rw [HF.out (by obtain ⟨c, r, e, hc⟩ := GR.out; rw [HS.out, e]; simp [hc])]
      exact ⟨rfl, HB1.out.trans hb⟩)
    |(refine jO (ok := true) (n := (n : Int)) G1.out (by rfl) (by rfl) (by rfl) (fun hb => ?_)
      rw [HT.out (n : Int) 1 (by rw [HS.out, GR.out]; simp [HZ.out])]
      exact ⟨rfl, HB1.out.trans hb⟩)
    |(refine jO (ok := true) (n := (-(n : Int))) G1.out (by rfl) (by rfl) (by rfl) (fun hb => ?_)
      rw [HT.out (-(n : Int)) 1 (by rw [HS.out, GR.out]; simp [HZ.out])]
      exact ⟨rfl, HB1.out.trans hb⟩)
    |skip
   all_goals
    have hrr : r.length ≤ 1000000 := by
     have h1 := congrArg List.length GR.out
     rw [List.length_cons] at h1
     have h2 : (digs s.data.toList).length ≤ s.data.toList.length := by rw [yZ, List.length_drop]; omega
     rw [yg] at h2
     omega
    have HI : Hid (∀ w, Calls Tryz.prog 180 #[.string (strB r)] w (Ret w (natIV r))) := hide (fun w => by
     have h := xP (strB r) (by rw [yu]; exact hrr) w
     rwa [yh] at h)
    have G0 := hide (heap1 w1 (natO (n : Int) 1))
    refine (HI.out _).mono ?_
    rintro e w2 ⟨rfl, hb2⟩
    have G2 := hide (yc hb2 (GA.out _) (Nat.lt_of_lt_of_le hsz1 G0.out.2.2.size))
    have D2 := hide (yc hb2 G0.out.1 (yd G0.out.1))
    have HB2 := hide (HB1.out.trans ((G0.out.2.2.trans (hb2.mono G0.out.2.2.size)).mono HB1.out.size))
    have hsz2 := yd D2.out
    have hne : ¬ w1.heap.size = w.heap.size := by omega
    have hne2 : ¬ w.heap.size = w1.heap.size := by omega
    clear hb2 f0 f1 c0 c1
    have f0 := yf G2.out 0
    have f1 := yf G2.out 1
    have c0 := ya G2.out 0
    have c1 := ya G2.out 1
    have f2 := yf D2.out 0
    have f3 := yf D2.out 1
    have c2 := ya D2.out 0
    have c3 := ya D2.out 1
    cases hNI2 : natI r with
    |none =>
     rw [xk hNI2]
     have HR := hide (HF.out (by rw [HS.out, GR.out]; simp [hNI2]))
     clear hNI2
     go_wp2_with fail
     obtain ⟨s1, s2⟩ := ydV (d := 0) D2.out
     refine zF (ok := false) (wZ G2.out hne _) (by rfl) (by rfl) (by rfl) (fun hb => ?_)
     rw [HR.out]
     exact ⟨rfl, HB2.out.trans ((s2.mono (by omega)).trans hb)⟩
    |some p2 =>
     obtain ⟨d, rest2⟩ := p2
     obtain ⟨hdl, _⟩ := yf5 hNI2
     rw [xw hNI2]
     have HN2 := hide hNI2
     clear hNI2
     obtain ⟨s1, s2⟩ := ydV (d := (d : Int)) D2.out
     have S1 := hide s1; have S2 := hide s2
     have SG := hide (wZ (o := 1) G2.out hne (.int .i64 (d : Int)))
     clear s1 s2
     have hway : (rest2 ≠ [] ∧ (strB rest2).toList.isEmpty = false) ∨ (rest2 = [] ∧ (strB rest2).toList.isEmpty = true) := by
      by_cases hr : rest2 = []
      ·exact .inr ⟨hr, jS (by rw [yh, hr])⟩
      ·exact .inl ⟨hr, vh (by rw [yh]; exact hr)⟩
     obtain ⟨t2, ht2⟩ := xe (strB rest2)
     rw [← ht2] at hway ⊢
     clear ht2
     rcases hway with ⟨hr2, ht2⟩ | ⟨hr2, ht2⟩
     ·have HR := hide (HF.out (by rw [HS.out, GR.out]; simp [HN2.out, hr2]))
      clear hr2
      go_wp2_with fail
      refine zF (ok := false) SG.out (by rfl) (by rfl) (by rfl) (fun hb => ?_)
      rw [HR.out]
      exact ⟨rfl, HB2.out.trans ((S2.out.mono (by omega)).trans hb)⟩
     ·have HRE := hide hr2
      clear hr2
      by_cases hd2 : d < 2
      ·have hd2i : (d : Int) < 2 := by omega
       have HR := hide (HF.out (by rw [HS.out, GR.out]; simp [HN2.out, HRE.out, hd2]))
       clear hd2
       go_wp2_with fail
       refine zF (ok := false) SG.out (by rfl) (by rfl) (by rfl) (fun hb => ?_)
       rw [HR.out]
       exact ⟨rfl, HB2.out.trans ((S2.out.mono (by omega)).trans hb)⟩
      ·have hd2i : ((d : Int) < 2) = False := eq_false (by omega)
       have HD2 := hide hd2
       clear hd2
       go_wp2_with fail
       refine (yen n d (by omega) (by omega) _).mono ?_
       rintro e w3 ⟨rfl, hb3⟩
       have D3 := bh hb3 S1
       have G3 := bh hb3 SG
       have HB3 := hide (HB2.out.trans ((S2.out.mono (by omega)).trans (hb3.mono (by have := yd SG.out; omega))))
       have SN := hide (yhv (n := -(n : Int)) D3.out)
       clear hb3 c0 c1 c2 c3 f0 f1 f2 f3
       have f0 := yf G3.out 0
       have f1 := yf G3.out 1
       have f2 := yf D3.out 0
       have f3 := yf D3.out 1
       have c0 := ya G3.out 0
       have c1 := ya G3.out 1
       have c2 := ya D3.out 0
       have c3 := ya D3.out 1
       by_cases hg : n.gcd d = 1
       ·have hgi : (((n.gcd d : Nat) : Int) != 1) = false := by rw [hg]; rfl
        have HG := hide hg
        clear hg
        go_wp2_with fail
        first
         |(refine zF (ok := true) (n := (n : Int)) G3.out (by rfl) (by rfl) (by rfl) (fun hb => ?_)
           rw [HT.out (n : Int) d (by rw [HS.out, GR.out]; simp [HN2.out, HRE.out, HD2.out, HG.out])]
           exact ⟨rfl, HB3.out.trans hb⟩)
         |(refine zF (ok := true) (n := -(n : Int)) (wZ G3.out hne _) (by rfl) (by rfl) (by rfl) (fun hb => ?_)
           rw [HT.out (-(n : Int)) d (by rw [HS.out, GR.out]; simp [HN2.out, HRE.out, HD2.out, HG.out, HZ.out])]
           exact ⟨rfl, HB3.out.trans ((SN.out.2.mono (by omega)).trans hb)⟩)
       ·have hgi : (((n.gcd d : Nat) : Int) != 1) = true := by
         simp only [bne_iff_ne, ne_eq]
         omega
        have HR := hide (HF.out (by rw [HS.out, GR.out]; simp [HN2.out, HRE.out, hg]))
        clear hg
        go_wp2_with fail
        refine zF (ok := false) G3.out (by rfl) (by rfl) (by rfl) (fun hb => ?_)
        rw [HR.out]
        exact ⟨rfl, HB3.out.trans hb⟩

def readV (l : List UInt8) : Value := if chkQ l = 0 then .tuple #[partsV (strB (numT l)) (strB (denS l)), .int .i64 0] else .tuple #[partsV ⟨#[]⟩ ⟨#[]⟩, .int .i64 (chkQ l)]
theorem qJ {l : List UInt8} (h : natQ l) : natOV l = .tuple #[natV (valQ l).num ((valQ l).den : Nat), .bool true] := by
 unfold natOV
 rw [ydU, if_pos h]
theorem xo {l : List UInt8} (h : ¬ natQ l) : natOV l = .tuple #[natV 0 0, .bool false] := by
 unfold natOV
 rw [ydU, if_neg h]
theorem yej {l : List UInt8} (h : cutOK l) : (denS l = [49] ↔ ¬ 47 ∈ l) := by
 unfold denS
 by_cases hs : 47 ∈ l
 ·rw [if_pos hs]
  exact ⟨fun e => absurd (.inr ⟨hs, .inr (.inr e)⟩) h, fun e => absurd hs e⟩
 ·rw [if_neg hs]
  exact ⟨fun _ => hs, fun _ => rfl⟩
theorem yfn (l : List UInt8) (N D O : ByteArray) (hN : N = strB (numT l)) (hD : D = strB (denS l)) (hO : O = strB (digs (numT l))) :
 (¬ cutOK l ∧ readV l = .tuple #[partsV ⟨#[]⟩ ⟨#[]⟩, .int .i64 11]) ∨
 (cutOK l ∧ natQ l ∧ readV l = .tuple #[partsV N D, .int .i64 0]) ∨
 (cutOK l ∧ ¬ natQ l ∧ (300 : Int) < (O.size : Int) ∧ readV l = .tuple #[partsV ⟨#[]⟩ ⟨#[]⟩, .int .i64 4]) ∨
 (cutOK l ∧ ¬ natQ l ∧ ((300 : Int) < (O.size : Int)) = False ∧ (300 : Int) < (D.size : Int) ∧ readV l = .tuple #[partsV ⟨#[]⟩ ⟨#[]⟩, .int .i64 4]) ∨
 (cutOK l ∧ ¬ natQ l ∧ ((300 : Int) < (O.size : Int)) = False ∧ ((300 : Int) < (D.size : Int)) = False ∧ (D.toList == [49]) = true ∧ readV l = .tuple #[partsV N D, .int .i64 0]) ∨
 (cutOK l ∧ ¬ natQ l ∧ ((300 : Int) < (O.size : Int)) = False ∧ ((300 : Int) < (D.size : Int)) = False ∧ (D.toList == [49]) = false ∧
   ∃ (x : Int) (y : Nat), N.data.toList = Lib.itoa x ∧ D.data.toList = Lib.itoa (y : Int) ∧ fits x ∧ fits (y : Int) ∧
    ((Nat.gcd x.natAbs y = 1 ∧ readV l = .tuple #[partsV N D, .int .i64 0]) ∨ (Nat.gcd x.natAbs y ≠ 1 ∧ readV l = .tuple #[partsV ⟨#[]⟩ ⟨#[]⟩, .int .i64 11]))) := by
 have e0 : chkQ l = 0 → readV l = .tuple #[partsV N D, .int .i64 0] := fun h => by unfold readV; rw [if_pos h, hN, hD]
 have e1 : ∀ z : Int, z ≠ 0 → chkQ l = z → readV l = .tuple #[partsV ⟨#[]⟩ ⟨#[]⟩, .int .i64 z] := fun z hz h => by unfold readV; rw [h, if_neg hz]
 by_cases hc : cutOK l
 ·have hf := ycl hc
  have so : O.size = (digs (numT l)).length := by rw [hO, yu]
  have sd : D.size = (denS l).length := by rw [hD, yu]
  rw [← so, ← sd] at hf
  by_cases hq : natQ l
  ·exact .inr (.inl ⟨hc, hq, e0 hq.1⟩)
  ·by_cases h1 : 300 < O.size
   ·exact .inr (.inr (.inl ⟨hc, hq, by omega, e1 4 (by decide) (by rw [hf, if_pos (.inl h1)])⟩))
   ·have g1 : ((300 : Int) < (O.size : Int)) = False := eq_false (by omega)
    by_cases h2 : 300 < D.size
    ·exact .inr (.inr (.inr (.inl ⟨hc, hq, g1, by omega, e1 4 (by decide) (by rw [hf, if_pos (.inr h2)])⟩)))
    ·have g2 : ((300 : Int) < (D.size : Int)) = False := eq_false (by omega)
     rw [if_neg (fun h => by rcases h with h | h <;> contradiction)] at hf
     obtain ⟨u1, u2⟩ := zz (s := D) (l := denS l) (m := [49]) (by rw [hD, yh])
     by_cases h3 : denS l = [49]
     ·have h4 := (yej hc).1 h3
      exact .inr (.inr (.inr (.inr (.inl ⟨hc, hq, g1, g2, u1 h3, e0 (by rw [hf, if_neg (fun h => h4 h.1)])⟩))))
     ·have h4 : 47 ∈ l := Decidable.byContradiction fun h => h3 ((yej hc).2 h)
      have h5 : denS l = denT l := by unfold denS; rw [if_pos h4]
      obtain ⟨c1, c2⟩ := xH (fun e => hc (.inl e))
      have h6 : denT l = Lib.decDigits (dv (denT l)) := jD (Decidable.byContradiction fun e => hc (.inr ⟨h4, .inl e⟩))
      refine .inr (.inr (.inr (.inr (.inr ⟨hc, hq, g1, g2, u2 h3, valI (numT l), dv (denT l), by rw [hN, yh]; exact c1, by rw [hD, yh, h5, Lib.itoa_nonneg]; exact h6, ?_, ?_, ?_⟩))))
      ·refine zb.2 ?_
       have h7 : (digs (numT l)).length = (Lib.decDigits (valI (numT l)).natAbs).length := by
        conv => lhs; rw [c1]
        rw [yQ]
       omega
      ·refine qm.2 ?_
       rw [← h6, ← h5]
       omega
      ·by_cases hg : Nat.gcd (valI (numT l)).natAbs (dv (denT l)) = 1
       ·exact .inl ⟨hg, e0 (by rw [hf, if_neg (fun h => h.2 hg)])⟩
       ·exact .inr ⟨hg, e1 11 (by decide) (by rw [hf, if_pos ⟨h4, hg⟩])⟩
 ·exact .inl ⟨hc, e1 11 (by decide) (by unfold chkQ; rw [if_pos (Decidable.byContradiction fun e => hc e)])⟩
theorem vK {R : Ending → World → Prop} {a : Act} {W : World} {b : Nat} {n d u0 u1 : ByteArray} {z : Int} {X : Obj} (hb : W.heap[b]? = some (partsO u0 u1)) (h2 : a.tmps[2]? = some (.pointer (some ⟨b, 0, none⟩))) (h3 : a.tmps[3]? = some (.int .i64 z)) (hd : a.defers = [])
 (hR : Below b W (((W.setCell ⟨b, 0, none⟩ (.string n)).setCell ⟨b, 1, none⟩ (.string d)).alloc X) → R (.returned (.tuple #[partsV n d, .int .i64 z])) (((W.setCell ⟨b, 0, none⟩ (.string n)).setCell ⟨b, 1, none⟩ (.string d)).alloc X)) :
 bodyPost Tryz.prog Tryz.f127 R .ret a (((W.setCell ⟨b, 0, none⟩ (.string n)).setCell ⟨b, 1, none⟩ (.string d)).alloc X) := by
 obtain ⟨s1, s2⟩ := set2 hb (.string n) (.string d)
 have hl := yd s1
 exact yaG ((Below.heap_alloc _ _ _ hl).trans s1) h2 h3 hd (hR (s2.alloc (by have := s2.size; have := yd hb; omega) _))
theorem qd (s : ByteArray) (hs : s.size ≤ 1000000) (B : Nat) (w : World) (hB : B ≤ w.heap.size) (hT : PQ B w) :
 Calls Tryz.prog 127 #[.string s] w (Ret w (readV s.data.toList)) := by
 have H0 := hide (heap1 w (partsO ⟨#[]⟩ ⟨#[]⟩))
 have hTT := hide (hT.on H0.out.2.2 hB)
 have HC := hide (ygO s hs B _ (Nat.le_trans hB H0.out.2.2.size) hTT.out)
 have HN := hide (fun w => zu s hs w)
 obtain ⟨N, hN⟩ := xe (strB (numT s.data.toList))
 obtain ⟨D, hD⟩ := xe (strB (denS s.data.toList))
 obtain ⟨O, hO⟩ := xe (strB (digs (numT s.data.toList)))
 have HP := hide (fun w => zm N w)
 rw [show N.data.toList = numT s.data.toList by rw [hN, yh], ← hO] at HP
 have hw := yfn s.data.toList N D O hN hD hO
 obtain ⟨V, hV⟩ := xe (readV s.data.toList)
 rw [← hV] at hw ⊢
 have HCY := hide (fun (h : cutOK s.data.toList) => show cutV s.data.toList = .tuple #[partsV N D, .bool true] by unfold cutV; rw [if_pos h, hN, hD])
 have HCN := hide (fun (h : ¬ cutOK s.data.toList) => show cutV s.data.toList = .tuple #[partsV ⟨#[]⟩ ⟨#[]⟩, .bool false] from if_neg h)
 have HNN := hide (fun (h : ¬ natQ s.data.toList) => xo h)
 have HNY := hide (fun (h : natQ s.data.toList) => qJ h)
 have hTB := hide hT.p10
 clear hN hD hO hV hT
 rcases hw with ⟨k1, k2⟩ | ⟨k1, k3, k2⟩ | ⟨k1, k3, g1, k2⟩ | ⟨k1, k3, g1, g2, k2⟩ | ⟨k1, k3, g1, g2, g3, k2⟩ | ⟨k1, k3, g1, g2, g3, x, y, q1, q2, q3, q4, k2⟩
 case inl =>
  rw [HCN.out k1] at HC
  have HE := hide k2
  clear k1 k2
  go_enter Tryz.func127, Tryz.ntmps127
  go_wp2_with fail
  refine HC.out.mono ?_
  rintro e w1 ⟨rfl, hb1⟩
  have G1 := hide (yc hb1 H0.out.1 (yd H0.out.1))
  have HB1 := hide (H0.out.2.2.trans (hb1.mono H0.out.2.2.size))
  have f0 := yf G1.out 0
  have f1 := yf G1.out 1
  have c0 := ya G1.out 0
  have c1 := ya G1.out 1
  have hl1 := yd G1.out
  clear hb1
  go_wp2_with fail
  refine vK G1.out (by rfl) (by rfl) (by rfl) (fun hb => ?_)
  rw [HE.out]
  exact ⟨rfl, HB1.out.trans hb⟩
 all_goals
  rw [HCY.out k1] at HC
  first | rw [HNN.out k3] at HN | rw [HNY.out k3] at HN
  have HE := hide k2
  clear k1 k2 k3
 case' inr.inr.inr.inr.inr =>
  obtain ⟨gg, hgg⟩ := xe (strB (Lib.itoa ((Nat.gcd x.natAbs y : Nat) : Int)))
  have hgl : gg.data.toList = Lib.itoa ((Nat.gcd x.natAbs y : Nat) : Int) := by rw [hgg, yh]
  have HG := hide (fun w hB hT => yhD (r := gg) q1 q2 (by rw [Int.natAbs_natCast]; exact hgl) q3 q4 B w hB hT)
  have hone := vV ((Nat.gcd x.natAbs y : Nat) : Int)
  obtain ⟨u1, u2⟩ := zz (m := [49]) hgl
  have hway : ((gg.toList == [49]) = true ∧ V = .tuple #[partsV N D, .int .i64 0]) ∨ ((gg.toList == [49]) = false ∧ V = .tuple #[partsV ⟨#[]⟩ ⟨#[]⟩, .int .i64 11]) := by
   rcases HE.out with ⟨h1, h2⟩ | ⟨h1, h2⟩
   ·exact .inl ⟨u1 (hone.2 (by rw [h1]; rfl)), h2⟩
   ·exact .inr ⟨u2 (fun e => h1 (by have := hone.1 e; omega)), h2⟩
  clear HE q1 q2 q3 q4 hgg hgl hone u1 u2
  rcases hway with ⟨v1, v2⟩ | ⟨v1, v2⟩
 all_goals
  try (have HE := hide v2; clear v2)
  go_enter Tryz.func127, Tryz.ntmps127
  go_wp2_with fail
  refine HC.out.mono ?_
  rintro e w1 ⟨rfl, hb1⟩
  have G1 := hide (yc hb1 H0.out.1 (yd H0.out.1))
  have HB1 := hide (H0.out.2.2.trans (hb1.mono H0.out.2.2.size))
  have H1 := hide (heap1 w1 (partsO N D))
  have hl1 := yd G1.out
  have f0 := yf G1.out 0
  have f1 := yf G1.out 1
  have c0 := ya G1.out 0
  have c1 := ya G1.out 1
  clear hb1
  go_wp2_with fail
  refine (HN.out _).mono ?_
  rintro e w2 ⟨rfl, hb2⟩
  have G2 := hide (yc hb2 ((Below.heap_alloc _ _ _ hl1).trans G1.out) (Nat.lt_of_lt_of_le hl1 H1.out.2.2.size))
  have D2 := hide (yc hb2 H1.out.1 (yd H1.out.1))
  have HB2 := hide (HB1.out.trans ((H1.out.2.2.trans (hb2.mono H1.out.2.2.size)).mono HB1.out.size))
  have hl2 := yd D2.out
  have hl3 := yd G2.out
  have hne : ¬ w1.heap.size = w.heap.size := by omega
  have hne2 : ¬ w.heap.size = w1.heap.size := by omega
  clear hb2 f0 f1 c0 c1
  have f0 := yf G2.out 0
  have f1 := yf G2.out 1
  have c0 := ya G2.out 0
  have c1 := ya G2.out 1
  have c2 := ya D2.out 0
  have c3 := ya D2.out 1
  go_wp2_with fail
 all_goals try
  (refine (HP.out _).mono ?_
   rintro e w3 ⟨rfl, rfl⟩
   go_wp2_with fail)
 all_goals try
  (refine vK G2.out (by rfl) (by rfl) (by rfl) (fun hb => ?_)
   rw [HE.out]
   exact ⟨rfl, HB2.out.trans hb⟩)
 all_goals
  have H3 := hide (heap1 w2 (natO 0 0))
  have HB3 := hide (HB2.out.trans (H3.out.2.2.mono HB2.out.size))
  refine (HG.out _ (Nat.le_trans hB HB3.out.size) (hTB.out.on HB3.out hB)).mono ?_
  rintro e w4 ⟨rfl, hb4⟩
  have G4 := hide (yc hb4 ((Below.heap_alloc _ _ _ hl3).trans G2.out) (Nat.lt_of_lt_of_le hl3 H3.out.2.2.size))
  have D4 := hide (yc hb4 ((Below.heap_alloc _ _ _ hl2).trans D2.out) (Nat.lt_of_lt_of_le hl2 H3.out.2.2.size))
  have HB4 := bt HB3 hb4
  clear hb4 f0 f1 c0 c1 c2 c3
  have f0 := yf G4.out 0
  have f1 := yf G4.out 1
  have c0 := ya G4.out 0
  have c1 := ya G4.out 1
  have c2 := ya D4.out 0
  have c3 := ya D4.out 1
  go_wp2_with fail
  refine ybz G4.out (by rfl) (by rfl) (by rfl) (fun hb => ?_)
  rw [HE.out]
  exact ⟨rfl, HB4.out.trans hb⟩

theorem zj {l : List UInt8} (h : chkQ l = 0) : readV l = .tuple #[partsV (strB (Lib.itoa (valQ l).num)) (strB (Lib.itoa ((valQ l).den : Int))), .int .i64 0] := by
 obtain ⟨e1, e2⟩ := yhS h
 unfold readV
 rw [if_pos h, e1, e2]
theorem ja {l : List UInt8} (h : chkQ l ≠ 0) : readV l = .tuple #[partsV ⟨#[]⟩ ⟨#[]⟩, .int .i64 (chkQ l)] := if_neg h
theorem xy (s t : ByteArray) (hs : s.size ≤ 1000000) (ht : t.size ≤ 1000000) (f : Value) (h : bothQ s.data.toList t.data.toList ≠ 0) (B : Nat) (w : World) (hB : B ≤ w.heap.size) (hT : PQ B w) :
 Calls Tryz.prog 114 #[.string s, .string t, f] w (Ret w (pairV [] (bothQ s.data.toList t.data.toList))) := by
 have H1 := hide (qd s hs B w hB hT)
 have H2 := hide (fun w hB hT => qd t ht B w hB hT)
 have HT := hide hT
 have he : strB [] = ⟨#[]⟩ := rfl
 rw [show pairV [] (bothQ s.data.toList t.data.toList) = .tuple #[.string ⟨#[]⟩, .int .i64 (bothQ s.data.toList t.data.toList)] from rfl]
 clear he hT
 by_cases h1 : chkQ s.data.toList = 0
 ·have e : bothQ s.data.toList t.data.toList = chkQ t.data.toList := if_pos h1
  rw [e] at h ⊢
  rw [zj h1] at H1
  rw [ja h] at H2
  obtain ⟨E, hE⟩ := xe (chkQ t.data.toList)
  rw [← hE] at H2 h ⊢
  have hne : (E != 0) = true := by simpa using h
  obtain ⟨n, hn⟩ := xe (strB (Lib.itoa (valQ s.data.toList).num))
  obtain ⟨d, hd⟩ := xe (strB (Lib.itoa ((valQ s.data.toList).den : Int)))
  rw [← hn, ← hd] at H1
  clear e h hE h1 hn hd
  go_enter Tryz.func114, Tryz.ntmps114
  go_wp2_with fail
  refine H1.out.mono ?_
  rintro e w1 ⟨rfl, hb1⟩
  have HB1 := hide (hb1.trans ((heap1 w1 (partsO n d)).2.2.mono hb1.size))
  clear hb1
  go_wp2_with fail
  refine (H2.out _ (Nat.le_trans hB HB1.out.size) (HT.out.on HB1.out hB)).mono ?_
  rintro e w2 ⟨rfl, hb2⟩
  have HB2 := bt HB1 hb2
  clear hb2
  go_wp2_with fail
  refine bodyPost_ret (results_tmp2 rfl _ _ _) rfl ?_
  exact ⟨rfl, HB2.out.trans ((heap1 w2 _).2.2.mono HB2.out.size)⟩
 ·have e : bothQ s.data.toList t.data.toList = chkQ s.data.toList := if_neg h1
  rw [e] at h ⊢
  rw [ja h] at H1
  obtain ⟨E, hE⟩ := xe (chkQ s.data.toList)
  rw [← hE] at H1 h ⊢
  have hne : (E != 0) = true := by simpa using h
  clear e h hE h1 H2
  go_enter Tryz.func114, Tryz.ntmps114
  go_wp2_with fail
  refine H1.out.mono ?_
  rintro e w1 ⟨rfl, hb1⟩
  have HB1 := hide hb1
  clear hb1
  go_wp2_with fail
  refine bodyPost_ret (results_tmp2 rfl _ _ _) rfl ?_
  exact ⟨rfl, HB1.out.trans ((heap1 w1 _).2.2.mono HB1.out.size)⟩
theorem vt (s t : ByteArray) (hs : s.size ≤ 1000000) (ht : t.size ≤ 1000000) (f : Nat) (cap : Array Value) (h1 : chkQ s.data.toList = 0) (h2 : chkQ t.data.toList = 0) (hen : ∀ args w, (callFunc f args).run Tryz.prog w = .ok (.enter f args) w) (r : List UInt8) (z : Int) (B : Nat) (w : World) (hB : B ≤ w.heap.size) (hT : PQ B w)
 (hf : ∀ W, Below w.heap.size w W → Calls Tryz.prog f (#[partsV (strB (Lib.itoa (valQ s.data.toList).num)) (strB (Lib.itoa ((valQ s.data.toList).den : Int))), partsV (strB (Lib.itoa (valQ t.data.toList).num)) (strB (Lib.itoa ((valQ t.data.toList).den : Int)))] ++ cap) W (Ret W (pairV r z))) :
 Calls Tryz.prog 114 #[.string s, .string t, .func (.func f) #[] cap] w (Ret w (pairV r z)) := by
 have H1 := hide (qd s hs B w hB hT)
 have H2 := hide (fun w hB hT => qd t ht B w hB hT)
 have HT := hide hT
 rw [zj h1] at H1
 rw [zj h2] at H2
 have HF := hide hf
 obtain ⟨n, hn⟩ := xe (strB (Lib.itoa (valQ s.data.toList).num))
 obtain ⟨d, hd⟩ := xe (strB (Lib.itoa ((valQ s.data.toList).den : Int)))
 obtain ⟨m, hm⟩ := xe (strB (Lib.itoa (valQ t.data.toList).num))
 obtain ⟨c, hc⟩ := xe (strB (Lib.itoa ((valQ t.data.toList).den : Int)))
 rw [← hn, ← hd] at H1 HF
 rw [← hm, ← hc] at H2 HF
 obtain ⟨R, hR⟩ := xe (strB r)
 rw [show pairV r z = .tuple #[.string R, .int .i64 z] by rw [hR]] at HF ⊢
 clear hf hn hd hm hc h1 h2 hT hR
 go_enter Tryz.func114, Tryz.ntmps114
 go_wp2_with fail
 refine H1.out.mono ?_
 rintro e w1 ⟨rfl, hb1⟩
 have X1 := hide (heap1 w1 (partsO n d))
 have HB1 := hide (hb1.trans (X1.out.2.2.mono hb1.size))
 clear hb1
 go_wp2_with fail
 refine (H2.out _ (Nat.le_trans hB HB1.out.size) (HT.out.on HB1.out hB)).mono ?_
 rintro e w2 ⟨rfl, hb2⟩
 have G2 := hide (yc hb2 X1.out.1 (yd X1.out.1))
 have HB2 := bt HB1 hb2
 have X2 := hide (heap1 w2 (partsO m c))
 have HB2b := hide (HB2.out.trans (X2.out.2.2.mono HB2.out.size))
 have c0 := ya G2.out 0
 have c1 := ya G2.out 1
 have hl := yd G2.out
 clear hb2
 go_wp2_with fail
 refine (HF.out _ HB2b.out).mono ?_
 rintro e w3 ⟨rfl, hb3⟩
 have HB3 := hide (HB2b.out.trans (hb3.mono HB2b.out.size))
 clear hb3 c0 c1
 go_wp2_with fail
 refine bodyPost_ret (results_tmp2 rfl _ _ _) rfl ?_
 exact ⟨rfl, HB3.out⟩

theorem kC {s r : ByteArray} {z : Int} (h1 : s.data.toList = Lib.itoa z) (h2 : r.data.toList = Lib.itoa (-z)) (hs : s.size ≤ 1000000) (w : World) :
 Calls Tryz.prog 177 #[.string s] w fun e w' => e = .returned (.string r) ∧ w = w' := by
 obtain ⟨t1, t2⟩ := zz (m := [48]) h1
 have HP := hide (jC s w)
 rw [h1] at HP
 by_cases h0 : z = 0
 ·have e0 : Lib.itoa z = [48] := by rw [h0, yP]
  have g := t1 e0
  have HR := hide (show r = s from yp (by rw [h2, h1, h0]; rfl))
  clear t1 t2 h1 h2 e0 HP h0
  go_enter Tryz.func177, Tryz.ntmps177
  go_wp2_with fail
  go_ret
  rw [HR.out]
  exact ⟨rfl, rfl⟩
 ·have g := t2 (ydN h0)
  by_cases hn : z < 0
  ·have hd : decide ((Lib.itoa z).head? = some 45) = true := by rw [decide_eq_true_iff]; exact (yac z).2 hn
   have HR := hide (show r = strB (digs (Lib.itoa z)) from yp (by
    rw [yh, h2, yQ, show -z = ((z.natAbs : Nat) : Int) by omega, Lib.itoa_nonneg]))
   rw [hd, ← HR.out] at HP
   clear t1 t2 h1 h2 hd h0 hn
   go_enter Tryz.func177, Tryz.ntmps177
   go_wp2_with fail
   refine HP.out.mono ?_
   rintro e w1 ⟨rfl, rfl⟩
   go_wp2_with fail
   go_ret
   exact ⟨rfl, rfl⟩
  ·have hd : decide ((Lib.itoa z).head? = some 45) = false := by rw [decide_eq_false_iff_not]; exact fun h => hn ((yac z).1 h)
   have HR := hide (show r = ⟨#[45]⟩ ++ s from yp (by
    rw [h2, show -z = -((z.natAbs : Nat) : Int) by omega, Lib.itoa_neg _ (by omega), ByteArray.data_append, Array.toList_append, h1, show z = ((z.natAbs : Nat) : Int) by omega, Lib.itoa_nonneg, Int.natAbs_natCast]
    rfl))
   have hv : (9223372036854775807 < 1 + s.size) = False := eq_false (by omega)
   rw [hd] at HP
   obtain ⟨o, ho⟩ := xe (strB (digs (Lib.itoa z)))
   rw [← ho] at HP
   clear t1 t2 h1 h2 hd h0 hn ho
   go_enter Tryz.func177, Tryz.ntmps177
   go_wp2_with fail
   refine HP.out.mono ?_
   rintro e w1 ⟨rfl, rfl⟩
   go_wp2_with fail
   go_ret
   rw [HR.out]
   exact ⟨rfl, rfl⟩

theorem hasMinus (l : List UInt8) : Lib.hasPrefix l [45] = decide (l.head? = some 45) := by
 cases l with
 |nil => rfl
 |cons c r =>
  by_cases h : c = 45
  ·subst h
   simp [Lib.hasPrefix, List.isPrefixOf]
  ·simp [Lib.hasPrefix, List.isPrefixOf, h, Ne.symm h]
theorem ycc {s : ByteArray} {z : Int} (h : s.data.toList = Lib.itoa z) (w : World) :
 Calls Tryz.prog 151 #[.string s, .string ⟨#[45]⟩] w fun e w' => e = .returned (.bool (decide (z < 0))) ∧ w = w' :=
 (Tryz.strings_HasPrefix s ⟨#[45]⟩ w).mono fun e w' ⟨he, hw⟩ => ⟨by
   rw [he, h]
   have : Lib.hasPrefix (Lib.itoa z) (⟨#[45]⟩ : ByteArray).data.toList = decide (z < 0) := by
    show Lib.hasPrefix (Lib.itoa z) [45] = _
    rw [hasMinus]
    exact decide_eq_decide.2 (yac z)
   rw [this], hw.symm⟩
theorem yed {n : Int} {g : Nat} (h : fits n) (_ : 0 < g) : fits (n / (g : Int)) := yi h (Int.natAbs_ediv_le_natAbs _ _)
theorem ygv {n : Int} {g : Nat} (h : (g : Int) ∣ n) (hg : 0 < g) : n.fdiv (g : Int) = n / (g : Int) ∧ n.fmod (g : Int) = 0 := by
 refine ⟨Int.fdiv_eq_ediv_of_nonneg _ (by omega), ?_⟩
 rw [Int.fmod_eq_emod_of_nonneg _ (by omega)]
 exact Int.emod_eq_zero_of_dvd h
theorem jr {s t : ByteArray} {n d : Int} (h1 : s.data.toList = Lib.itoa n) (h2 : t.data.toList = Lib.itoa d) (f1 : fits n) (f2 : fits d) (h0 : d ≠ 0) (B : Nat) (w : World) (hB : B ≤ w.heap.size) (hT : P10 B w) :
 Calls Tryz.prog 124 #[.string s, .string t] w (Ret w (pairV (ratS (Rat.divInt n d)) 0)) := by
 have HT := hide hT
 have hss := qF h1 f1
 have hts := qF h2 f2
 have fneg : ∀ {z : Int}, fits z → fits (-z) := fun h => yi h (by rw [Int.natAbs_neg]; exact Nat.le_refl _)
 obtain ⟨N, D, S, T, hND, e1, e2, hD, g1, g2, hsign⟩ : ∃ (N : Int) (D : Nat) (S T : ByteArray), Rat.divInt n d = Rat.divInt N D ∧ S.data.toList = Lib.itoa N ∧ T.data.toList = Lib.itoa (D : Int) ∧ 0 < D ∧ fits N ∧ fits (D : Int) ∧ ((decide (d < 0) = true ∧ N = -n ∧ (D : Int) = -d) ∨ (decide (d < 0) = false ∧ S = s ∧ T = t)) := by
  rcases Int.lt_or_lt_of_ne h0 with h | h
  ·have e : ((d.natAbs : Nat) : Int) = -d := by omega
   exact ⟨-n, d.natAbs, strB (Lib.itoa (-n)), strB (Lib.itoa (-d)), by rw [e, Rat.neg_divInt_neg], yh _, by rw [yh, e], by omega, fneg f1, by rw [e]; exact fneg f2, .inl ⟨by simpa using h, rfl, e⟩⟩
  ·have e : ((d.natAbs : Nat) : Int) = d := by omega
   exact ⟨n, d.natAbs, s, t, by rw [e], h1, by rw [e]; exact h2, by omega, f1, by rw [e]; exact f2, .inr ⟨by rw [decide_eq_false_iff_not]; omega, rfl, rfl⟩⟩
 rw [hND]
 have HM := hide (fun w => ycc h2 w)
 have HOP := hide (fun (a : N = -n) (b : (D : Int) = -d) => (And.intro (fun w => kC h1 (by rw [e1, a]) (by omega) w) (fun w => kC h2 (by rw [e2, b]) (by omega) w) : (∀ w, Calls Tryz.prog 177 #[.string s] w fun e w' => e = .returned (.string S) ∧ w = w') ∧ (∀ w, Calls Tryz.prog 177 #[.string t] w fun e w' => e = .returned (.string T) ∧ w = w')))
 obtain ⟨g, hg⟩ := xe (Nat.gcd N.natAbs D)
 have hgp : 0 < g := by rw [hg]; exact Nat.gcd_pos_of_pos_right _ hD
 have hgn : (g : Int) ∣ N := by rw [hg]; exact Int.ofNat_dvd_left.2 (Nat.gcd_dvd_left _ _)
 have hgd : (g : Int) ∣ (D : Int) := by rw [hg]; exact Int.ofNat_dvd.2 (Nat.gcd_dvd_right _ _)
 have fg : fits (g : Int) := yi g2 (by rw [Int.natAbs_natCast, Int.natAbs_natCast, hg]; exact Nat.gcd_le_right _ hD)
 obtain ⟨G, hG⟩ := xe (strB (Lib.itoa (g : Int)))
 have hGl : G.data.toList = Lib.itoa (g : Int) := by rw [hG, yh]
 have HG := hide (fun w hB hT => yhD (r := G) e1 e2 (by rw [Int.natAbs_natCast, ← hg]; exact hGl) g1 g2 B w hB hT)
 obtain ⟨Nq, hNq⟩ : ∃ Nq : Int, Nq = N / (g : Int) := ⟨_, rfl⟩
 obtain ⟨Dq, hDq⟩ : ∃ Dq : Int, Dq = (D : Int) / (g : Int) := ⟨_, rfl⟩
 obtain ⟨A, hA⟩ := xe (strB (Lib.itoa Nq))
 obtain ⟨C, hC⟩ := xe (strB (Lib.itoa Dq))
 have hAl : A.data.toList = Lib.itoa Nq := by rw [hA, yh]
 have hCl : C.data.toList = Lib.itoa Dq := by rw [hC, yh]
 obtain ⟨x1, x2⟩ := ygv hgn hgp
 obtain ⟨x3, x4⟩ := ygv hgd hgp
 have hz : (strB (Lib.itoa 0)).data.toList = Lib.itoa 0 := yh _
 have HD1 := hide (fun w hB hT => yaf (q := A) (r := strB (Lib.itoa 0)) e1 hGl (by rw [x1, ← hNq]; exact hAl) (by rw [x2]; exact hz) g1 fg (by omega) B w hB hT)
 have HD2 := hide (fun w hB hT => yaf (q := C) (r := strB (Lib.itoa 0)) e2 hGl (by rw [x3, ← hDq]; exact hCl) (by rw [x4]; exact hz) g2 fg (by omega) B w hB hT)
 have fA := qF hAl (by rw [hNq]; exact yed g1 hgp)
 have fC := qF hCl (by rw [hDq]; exact yed g2 hgp)
 have v1 : (9223372036854775807 < A.size + 1) = False := eq_false (by omega)
 have v2 : (9223372036854775807 < A.size + 1 + C.size) = False := eq_false (by omega)
 have HX := hide (show ratS (Rat.divInt N D) = if Dq = 1 then Lib.itoa Nq else Lib.itoa Nq ++ 47 :: Lib.itoa Dq by
  have h := ybh (n := N) (d := (D : Int)) (by omega)
  rw [Int.natAbs_natCast, ← hg, ← hNq, ← hDq] at h
  exact h)
 obtain ⟨X, hX⟩ := xe (strB (ratS (Rat.divInt N D)))
 rw [show pairV (ratS (Rat.divInt N D)) 0 = .tuple #[.string X, .int .i64 0] by rw [hX]]
 obtain ⟨u1, u2⟩ := zz (m := [49]) hGl
 obtain ⟨y1, y2⟩ := zz (m := [49]) hCl
 have ho1 := vV (g : Int)
 have ho2 := vV Dq
 have hway1 : ((G.toList == [49]) = true ∧ S = A ∧ T = C) ∨ (G.toList == [49]) = false := by
  by_cases hg1 : g = 1
  ·refine .inl ⟨u1 (ho1.2 (by omega)), yp (by rw [e1, hAl, hNq, hg1]; simp), yp (by rw [e2, hCl, hDq, hg1]; simp)⟩
  ·exact .inr (u2 (fun e => hg1 (by have := ho1.1 e; omega)))
 have hway2 : ((C.toList == [49]) = true ∧ X = A) ∨ ((C.toList == [49]) = false ∧ X = A ++ ⟨#[47]⟩ ++ C) := by
  by_cases hd1 : Dq = 1
  ·exact .inl ⟨y1 (ho2.2 hd1), by rw [hX, HX.out, if_pos hd1, hA]⟩
  ·refine .inr ⟨y2 (fun e => hd1 (ho2.1 e)), ?_⟩
   rw [hX, HX.out, if_neg hd1]
   apply yp
   rw [yh]
   simp [hAl, hCl]
 have hTT : B ≤ w.heap.size := hB
 clear h1 h2 f1 f2 h0 hND e1 e2 hD g1 g2 hg hgp hgn hgd fg hG hGl hNq hDq hA hC hAl hCl x1 x2 x3 x4 hz HX hX u1 u2 y1 y2 ho1 ho2 hT fneg
 rcases hway1 with ⟨w1, w2, w3⟩ | w1
 case' inl =>
  subst w2; subst w3
 all_goals
  rcases hsign with ⟨z1, z2, z3⟩ | ⟨z1, z2, z3⟩
 all_goals try
  (have HO := hide (HOP.out z2 z3)
   clear z2 z3)
 all_goals try
  (subst z2
   subst z3)
 all_goals
  rw [z1] at HM
  clear HOP
  rcases hway2 with ⟨k1, k2⟩ | ⟨k1, k2⟩
 all_goals
  have HE := hide k2
  clear k2
  go_enter Tryz.func124, Tryz.ntmps124
  go_wp2_with fail
  refine (HM.out _).mono ?_
  rintro e w1' ⟨rfl, rfl⟩
  clear z1
  go_wp2_with fail
 all_goals try
  (refine (HO.out.1 _).mono ?_
   rintro e w1' ⟨rfl, rfl⟩
   go_wp2_with fail
   refine (HO.out.2 _).mono ?_
   rintro e w1' ⟨rfl, rfl⟩
   go_wp2_with fail)
 all_goals
  refine (HG.out _ hB HT.out).mono ?_
  rintro e w1 ⟨rfl, hb1⟩
  have HB1 := hide hb1
  clear hb1
  go_wp2_with fail
 all_goals try
  (refine (HD1.out _ (Nat.le_trans hB HB1.out.size) (HT.out.on HB1.out hB)).mono ?_
   rintro e w2 ⟨rfl, hb2⟩
   have HB2 := bt HB1 hb2
   clear hb2
   go_wp2_with fail
   refine (HD2.out _ (Nat.le_trans hB HB2.out.size) (HT.out.on HB2.out hB)).mono ?_
   rintro e w3 ⟨rfl, hb3⟩
   have HB3 := bt HB2 hb3
   clear hb3
   go_wp2_with fail)
 all_goals
  refine bodyPost_ret (results_tmp2 rfl _ _ _) rfl ?_
  rw [HE.out]
  first
   |exact ⟨rfl, HB3.out⟩
   |exact ⟨rfl, HB1.out⟩

theorem kk {s t : ByteArray} {x y : Int} (h1 : s.data.toList = Lib.itoa x) (h2 : t.data.toList = Lib.itoa y) (f1 : fits x) (f2 : fits y) (f3 : fits (x * y)) (B : Nat) (w : World) (hB : B ≤ w.heap.size) (hT : P10 B w) :
 Calls Tryz.prog 132 #[.string s, .string t] w (Ret w (.tuple #[.string (strB (Lib.itoa (x * y))), .int .i64 0])) := by
 have h := yd1 h1 h2 f1 f2 B w hB hT
 rw [show resS (x * y) = Lib.itoa (x * y) from if_pos f3, show resE (x * y) = 0 from if_pos f3] at h
 exact h
theorem yct {s t : ByteArray} {x y : Int} (h1 : s.data.toList = Lib.itoa x) (h2 : t.data.toList = Lib.itoa y) (f1 : fits x) (f2 : fits y) (f3 : ¬ fits (x * y)) (B : Nat) (w : World) (hB : B ≤ w.heap.size) (hT : P10 B w) :
 Calls Tryz.prog 132 #[.string s, .string t] w (Ret w (.tuple #[.string ⟨#[]⟩, .int .i64 4])) := by
 have h := yd1 h1 h2 f1 f2 B w hB hT
 rw [show resS (x * y) = [] from if_neg f3, show resE (x * y) = 4 from if_neg f3] at h
 exact h
structure Four (s a t b : ByteArray) (x p y q : Int) : Prop where
 h1 : s.data.toList = Lib.itoa x
 h2 : a.data.toList = Lib.itoa p
 h3 : t.data.toList = Lib.itoa y
 h4 : b.data.toList = Lib.itoa q
 f1 : fits x
 f2 : fits p
 f3 : fits y
 f4 : fits q
theorem vU {s a t b : ByteArray} {x p y q : Int} (h : Four s a t b x p y q) (fu : fits (x * q)) (fv : fits (y * p)) (B : Nat) (w : World) (hB : B ≤ w.heap.size) (hT : P10 B w) :
 Calls Tryz.prog 128 #[partsV s a, partsV t b] w (Ret w (.tuple #[.string (strB (Lib.itoa (x * q))), .string (strB (Lib.itoa (y * p))), .int .i64 0])) := by
 have H1 := hide (fun w hB hT => kk h.h1 h.h4 h.f1 h.f4 fu B w hB hT)
 have H2 := hide (fun w hB hT => kk h.h3 h.h2 h.f3 h.f2 fv B w hB hT)
 have HT := hide hT
 have X0 := hide (heap2 w (partsO s a) (partsO t b))
 obtain ⟨U, hU⟩ := xe (strB (Lib.itoa (x * q)))
 obtain ⟨V, hV⟩ := xe (strB (Lib.itoa (y * p)))
 rw [← hU] at H1 ⊢
 rw [← hV] at H2 ⊢
 clear hU hV h fu fv hT
 go_enter Tryz.func128, Tryz.ntmps128
 go_wp2_with fail
 refine (H1.out _ (Nat.le_trans hB X0.out.2.2.2.size) (HT.out.on X0.out.2.2.2 hB)).mono ?_
 rintro e w1 ⟨rfl, hb1⟩
 have G1 := hide (yc hb1 X0.out.1 (yd X0.out.1))
 have G2 := hide (yc hb1 X0.out.2.1 (yd X0.out.2.1))
 have HB1 := hide (X0.out.2.2.2.trans (hb1.mono X0.out.2.2.2.size))
 have c0 := ya G1.out 0
 have c1 := ya G1.out 1
 have c2 := ya G2.out 0
 have c3 := ya G2.out 1
 clear hb1
 go_wp2_with fail
 refine (H2.out _ (Nat.le_trans hB HB1.out.size) (HT.out.on HB1.out hB)).mono ?_
 rintro e w2 ⟨rfl, hb2⟩
 have HB2 := bt HB1 hb2
 clear hb2
 go_wp2_with fail
 go_ret3
 exact ⟨rfl, HB2.out⟩
def CrossBad (w : World) (e : Ending) (w2 : World) : Prop := ∃ u v : ByteArray, e = .returned (.tuple #[.string u, .string v, .int .i64 4]) ∧ Below w.heap.size w w2
theorem xZ {s a t b : ByteArray} {x p y q : Int} (h : Four s a t b x p y q) (hn : ¬ (fits (x * q) ∧ fits (y * p))) (B : Nat) (w : World) (hB : B ≤ w.heap.size) (hT : P10 B w) :
 Calls Tryz.prog 128 #[partsV s a, partsV t b] w (CrossBad w) := by
 have HT := hide hT
 have X0 := hide (heap2 w (partsO s a) (partsO t b))
 by_cases fu : fits (x * q)
 ·have H1 := hide (fun w hB hT => kk h.h1 h.h4 h.f1 h.f4 fu B w hB hT)
  have H2 := hide (fun w hB hT => yct h.h3 h.h2 h.f3 h.f2 (fun e => hn ⟨fu, e⟩) B w hB hT)
  obtain ⟨U, hU⟩ := xe (strB (Lib.itoa (x * q)))
  rw [← hU] at H1
  clear hU h fu hn hT
  go_enter Tryz.func128, Tryz.ntmps128
  go_wp2_with fail
  refine (H1.out _ (Nat.le_trans hB X0.out.2.2.2.size) (HT.out.on X0.out.2.2.2 hB)).mono ?_
  rintro e w1 ⟨rfl, hb1⟩
  have G1 := hide (yc hb1 X0.out.1 (yd X0.out.1))
  have G2 := hide (yc hb1 X0.out.2.1 (yd X0.out.2.1))
  have HB1 := hide (X0.out.2.2.2.trans (hb1.mono X0.out.2.2.2.size))
  have c0 := ya G1.out 0
  have c1 := ya G1.out 1
  have c2 := ya G2.out 0
  have c3 := ya G2.out 1
  clear hb1
  go_wp2_with fail
  refine (H2.out _ (Nat.le_trans hB HB1.out.size) (HT.out.on HB1.out hB)).mono ?_
  rintro e w2 ⟨rfl, hb2⟩
  have HB2 := bt HB1 hb2
  clear hb2
  go_wp2_with fail
  go_ret3
  exact ⟨_, _, rfl, HB2.out⟩
 ·have H1 := hide (fun w hB hT => yct h.h1 h.h4 h.f1 h.f4 fu B w hB hT)
  clear h fu hn hT
  go_enter Tryz.func128, Tryz.ntmps128
  go_wp2_with fail
  refine (H1.out _ (Nat.le_trans hB X0.out.2.2.2.size) (HT.out.on X0.out.2.2.2 hB)).mono ?_
  rintro e w1 ⟨rfl, hb1⟩
  have HB1 := hide (X0.out.2.2.2.trans (hb1.mono X0.out.2.2.2.size))
  clear hb1
  go_wp2_with fail
  go_ret3
  exact ⟨_, _, rfl, HB1.out⟩

structure IntFn (g : Nat) (f : Int → Int → Int) : Prop where
 enters : ∀ args w, (callFunc g args).run Tryz.prog w = .ok (.enter g args) w
 calls : ∀ (s t : ByteArray) (x y : Int) (B : Nat) (w : World), s.data.toList = Lib.itoa x → t.data.toList = Lib.itoa y → fits x → fits y → B ≤ w.heap.size → P10 B w →
  Calls Tryz.prog g #[.string s, .string t] w (Ret w (pairV (resS (f x y)) (resE (f x y))))
theorem yfG {f : Int → Int → Int} {s t : ByteArray} {x y : Int} (h1 : s.data.toList = Lib.itoa x) (h2 : t.data.toList = Lib.itoa y) (f1 : fits x) (f2 : fits y) :
 s.size ≤ 1000000 ∧ t.size ≤ 1000000 ∧ op2S f s.data.toList t.data.toList = resS (f x y) ∧ op2E f s.data.toList t.data.toList = resE (f x y) := by
 have c1 : chkI s.data.toList = 0 := by rw [h1]; exact yM f1
 have c2 : chkI t.data.toList = 0 := by rw [h2]; exact yM f2
 obtain ⟨_, _, e1, e2⟩ := zE (f := f) (show bothI s.data.toList t.data.toList = 0 by unfold bothI; rw [if_pos c1, c2])
 rw [e1, e2, h1, h2, ym, ym]
 have := qF h1 f1
 have := qF h2 f2
 exact ⟨by omega, by omega, rfl, rfl⟩
theorem addI : IntFn 134 (· + ·) := by
 refine ⟨enters_of Tryz.func134 (by kernel_rfl) rfl, fun s t x y B w h1 h2 f1 f2 hB hT => ?_⟩
 obtain ⟨l1, l2, e1, e2⟩ := yfG (f := (· + ·)) h1 h2 f1 f2
 rw [← e1, ← e2]
 exact yhT s t B w l1 l2 hB hT
theorem subI : IntFn 116 (· - ·) := by
 refine ⟨enters_of Tryz.func116 (by kernel_rfl) rfl, fun s t x y B w h1 h2 f1 f2 hB hT => ?_⟩
 obtain ⟨l1, l2, e1, e2⟩ := yfG (f := (· - ·)) h1 h2 f1 f2
 rw [← e1, ← e2]
 exact yh3 s t B w l1 l2 hB hT
def combC (f : Int → Int → Int) (x p y q : Int) : Prop := (fits (x * q) ∧ fits (y * p)) ∧ fits (f (x * q) (y * p)) ∧ fits (p * q)
instance (f : Int → Int → Int) (x p y q : Int) : Decidable (combC f x p y q) := inferInstanceAs (Decidable (_ ∧ _ ∧ _))
theorem kI {g : Nat} {f : Int → Int → Int} (hg : IntFn g f) {s a t b : ByteArray} {x p y q : Int} (h : Four s a t b x p y q) (h0 : p * q ≠ 0) (bx : Nat) (T : TypeId) (B : Nat) (w : World) (hb : w.heap[bx]? = some (.cells #[.func (.func g) #[] #[]] T (0, 0))) (hB : B ≤ w.heap.size) (hT : P10 B w) :
 Calls Tryz.prog 166 #[partsV s a, partsV t b, .pointer (some ⟨bx, 0, none⟩)] w (Ret w (pairV (if combC f x p y q then ratS (Rat.divInt (f (x * q) (y * p)) (p * q)) else []) (if combC f x p y q then 0 else 4))) := by
 have HT := hide hT
 have X0 := hide (heap2 w (partsO s a) (partsO t b))
 have hbl := yd hb
 have HBX := hide hb
 by_cases hc : fits (x * q) ∧ fits (y * p)
 ·have HC := hide (fun w hB hT => vU h hc.1 hc.2 B w hB hT)
  have HO := hide (fun w hB hT => hg.calls _ _ (x * q) (y * p) B w (yh _) (yh _) hc.1 hc.2 hB hT)
  have hen := hg.enters
  obtain ⟨U, hU⟩ := xe (strB (Lib.itoa (x * q)))
  obtain ⟨V, hV⟩ := xe (strB (Lib.itoa (y * p)))
  rw [← hU, ← hV] at HC HO
  by_cases hf : fits (f (x * q) (y * p))
  ·rw [show resS (f (x * q) (y * p)) = Lib.itoa (f (x * q) (y * p)) from if_pos hf, show resE (f (x * q) (y * p)) = 0 from if_pos hf] at HO
   obtain ⟨N, hN⟩ := xe (strB (Lib.itoa (f (x * q) (y * p))))
   have HO : Hid (∀ w, B ≤ w.heap.size → P10 B w → Calls Tryz.prog g #[.string U, .string V] w (Ret w (.tuple #[.string N, .int .i64 0]))) := hide (by rw [hN]; exact HO.out)
   have hNl : N.data.toList = Lib.itoa (f (x * q) (y * p)) := by rw [hN, yh]
   by_cases hd : fits (p * q)
   ·have HM := hide (fun w hB hT => kk h.h2 h.h4 h.f2 h.f4 hd B w hB hT)
    obtain ⟨D, hD⟩ := xe (strB (Lib.itoa (p * q)))
    rw [← hD] at HM
    have HN := hide (fun w hB hT => jr (t := D) hNl (by rw [hD, yh]) hf hd h0 B w hB hT)
    have hcc : combC f x p y q := ⟨hc, hf, hd⟩
    rw [if_pos hcc, if_pos hcc]
    obtain ⟨X, hX⟩ := xe (strB (ratS (Rat.divInt (f (x * q) (y * p)) (p * q))))
    rw [show pairV (ratS (Rat.divInt (f (x * q) (y * p)) (p * q))) 0 = .tuple #[.string X, .int .i64 0] by rw [hX]] at HN ⊢
    clear hcc hU hV hN hNl hD hX hc hf hd h h0 hg hT
    go_enter Tryz.func166, Tryz.ntmps166
    go_wp2_with fail
    refine (HC.out _ (Nat.le_trans hB X0.out.2.2.2.size) (HT.out.on X0.out.2.2.2 hB)).mono ?_
    rintro e w1 ⟨rfl, hb1⟩
    have G0 := hide (yc hb1 ((yc X0.out.2.2.2 HBX.out hbl)) (Nat.lt_of_lt_of_le hbl X0.out.2.2.2.size))
    have G1 := hide (yc hb1 X0.out.1 (yd X0.out.1))
    have G2 := hide (yc hb1 X0.out.2.1 (yd X0.out.2.1))
    have HB1 := hide (X0.out.2.2.2.trans (hb1.mono X0.out.2.2.2.size))
    have cx := ya G0.out 0
    clear hb1
    go_wp2_with fail
    refine (HO.out _ (Nat.le_trans hB HB1.out.size) (HT.out.on HB1.out hB)).mono ?_
    rintro e w2 ⟨rfl, hb2⟩
    have G3 := bh hb2 G1
    have G4 := bh hb2 G2
    have HB2 := bt HB1 hb2
    have c1 := ya G3.out 1
    have c3 := ya G4.out 1
    clear hb2 cx
    go_wp2_with fail
    refine (HM.out _ (Nat.le_trans hB HB2.out.size) (HT.out.on HB2.out hB)).mono ?_
    rintro e w3 ⟨rfl, hb3⟩
    have HB3 := bt HB2 hb3
    clear hb3 c1 c3
    go_wp2_with fail
    refine (HN.out _ (Nat.le_trans hB HB3.out.size) (HT.out.on HB3.out hB)).mono ?_
    rintro e w4 ⟨rfl, hb4⟩
    have HB4 := bt HB3 hb4
    clear hb4
    go_wp2_with fail
    refine bodyPost_ret (results_tmp2 rfl _ _ _) rfl ?_
    exact ⟨rfl, HB4.out⟩
   ·have HM := hide (fun w hB hT => yct h.h2 h.h4 h.f2 h.f4 hd B w hB hT)
    have hcc : ¬ combC f x p y q := fun e => hd e.2.2
    rw [if_neg hcc, if_neg hcc]
    rw [show pairV [] 4 = .tuple #[.string ⟨#[]⟩, .int .i64 4] from rfl]
    clear hcc hU hV hN hNl hc hf hd h h0 hg hT
    go_enter Tryz.func166, Tryz.ntmps166
    go_wp2_with fail
    refine (HC.out _ (Nat.le_trans hB X0.out.2.2.2.size) (HT.out.on X0.out.2.2.2 hB)).mono ?_
    rintro e w1 ⟨rfl, hb1⟩
    have G0 := hide (yc hb1 ((yc X0.out.2.2.2 HBX.out hbl)) (Nat.lt_of_lt_of_le hbl X0.out.2.2.2.size))
    have G1 := hide (yc hb1 X0.out.1 (yd X0.out.1))
    have G2 := hide (yc hb1 X0.out.2.1 (yd X0.out.2.1))
    have HB1 := hide (X0.out.2.2.2.trans (hb1.mono X0.out.2.2.2.size))
    have cx := ya G0.out 0
    clear hb1
    go_wp2_with fail
    refine (HO.out _ (Nat.le_trans hB HB1.out.size) (HT.out.on HB1.out hB)).mono ?_
    rintro e w2 ⟨rfl, hb2⟩
    have G3 := bh hb2 G1
    have G4 := bh hb2 G2
    have HB2 := bt HB1 hb2
    have c1 := ya G3.out 1
    have c3 := ya G4.out 1
    clear hb2 cx
    go_wp2_with fail
    refine (HM.out _ (Nat.le_trans hB HB2.out.size) (HT.out.on HB2.out hB)).mono ?_
    rintro e w3 ⟨rfl, hb3⟩
    have HB3 := bt HB2 hb3
    clear hb3 c1 c3
    go_wp2_with fail
    refine bodyPost_ret (results_tmp2 rfl _ _ _) rfl ?_
    exact ⟨rfl, HB3.out⟩
  ·rw [show resS (f (x * q) (y * p)) = [] from if_neg hf, show resE (f (x * q) (y * p)) = 4 from if_neg hf] at HO
   have HO : Hid (∀ w, B ≤ w.heap.size → P10 B w → Calls Tryz.prog g #[.string U, .string V] w (Ret w (.tuple #[.string ⟨#[]⟩, .int .i64 4]))) := hide HO.out
   have hcc : ¬ combC f x p y q := fun e => hf e.2.1
   rw [if_neg hcc, if_neg hcc]
   rw [show pairV [] 4 = .tuple #[.string ⟨#[]⟩, .int .i64 4] from rfl]
   clear hcc hU hV hc hf h h0 hg hT
   go_enter Tryz.func166, Tryz.ntmps166
   go_wp2_with fail
   refine (HC.out _ (Nat.le_trans hB X0.out.2.2.2.size) (HT.out.on X0.out.2.2.2 hB)).mono ?_
   rintro e w1 ⟨rfl, hb1⟩
   have G0 := hide (yc hb1 ((yc X0.out.2.2.2 HBX.out hbl)) (Nat.lt_of_lt_of_le hbl X0.out.2.2.2.size))
   have HB1 := hide (X0.out.2.2.2.trans (hb1.mono X0.out.2.2.2.size))
   have cx := ya G0.out 0
   clear hb1
   go_wp2_with fail
   refine (HO.out _ (Nat.le_trans hB HB1.out.size) (HT.out.on HB1.out hB)).mono ?_
   rintro e w2 ⟨rfl, hb2⟩
   have HB2 := bt HB1 hb2
   clear hb2 cx
   go_wp2_with fail
   refine bodyPost_ret (results_tmp2 rfl _ _ _) rfl ?_
   exact ⟨rfl, HB2.out⟩
 ·have HC := hide (fun w hB hT => xZ h hc B w hB hT)
  have hcc : ¬ combC f x p y q := fun e => hc e.1
  rw [if_neg hcc, if_neg hcc]
  rw [show pairV [] 4 = .tuple #[.string ⟨#[]⟩, .int .i64 4] from rfl]
  clear hcc hc h h0 hg hT
  go_enter Tryz.func166, Tryz.ntmps166
  go_wp2_with fail
  refine (HC.out _ (Nat.le_trans hB X0.out.2.2.2.size) (HT.out.on X0.out.2.2.2 hB)).mono ?_
  rintro e w1 ⟨u, v, rfl, hb1⟩
  have HB1 := hide (X0.out.2.2.2.trans (hb1.mono X0.out.2.2.2.size))
  clear hb1
  go_wp2_with fail
  refine bodyPost_ret (results_tmp2 rfl _ _ _) rfl ?_
  exact ⟨rfl, HB1.out⟩

structure NatFn (f : Nat) (A C : Int → Int → Int → Int → Int) : Prop where
 enters : ∀ args w, (callFunc f args).run Tryz.prog w = .ok (.enter f args) w
 calls : ∀ (a b c d : Int) (w : World), a.natAbs < 100000000 → b.natAbs < 100000000 → c.natAbs < 100000000 → d.natAbs < 100000000 → Calls Tryz.prog f #[natV a b, natV c d] w (Ret w (natV (A a b c d) (C a b c d)))
theorem zG {a b : Int} (ha : a.natAbs < 100000000) (hb : b.natAbs < 100000000) : (a * b).natAbs < 10000000000000000 ∧ IntKind.i64.wrap (a * b) = a * b := by
 have h : (a * b).natAbs < 10000000000000000 := by
  rw [Int.natAbs_mul]
  have := Nat.mul_lt_mul'' ha hb
  omega
 exact ⟨h, IntWalk.i64_in _ (by omega)⟩
theorem kW {f : Func} {R : Ending → World → Prop} {a : Act} {W : World} {b : Nat} {n d : Int} (hf : f.results = #[.cell 4 164]) (hb : W.heap[b]? = some (natO n d)) (h2 : a.tmps[4]? = some (.pointer (some ⟨b, 0, none⟩))) (hd : a.defers = []) (hR : R (.returned (natV n d)) W) :
 bodyPost Tryz.prog f R .ret a W := by
 have hcell := fun o => ya hb o
 refine bodyPost_ret ?_ hd hR
 simp [results, hf, go_sem, hcell, h2]
theorem addFn : NatFn 133 (fun a b c d => a * d + c * b) (fun _ b _ d => b * d) := by
 refine ⟨enters_of Tryz.func133 (by kernel_rfl) rfl, fun a b c d w ha hb hc hd => ?_⟩
 obtain ⟨m1, e1⟩ := zG ha hd
 obtain ⟨m2, e2⟩ := zG hc hb
 obtain ⟨m3, e3⟩ := zG hb hd
 have e4 : IntKind.i64.wrap (a * d + c * b) = a * d + c * b := IntWalk.i64_in _ (by omega)
 clear m1 m2 m3
 clear ha hb hc hd
 go_enter Tryz.func133, Tryz.ntmps133
 go_wp2_with fail
 have h3 := heap3 w (natO a b) (natO c d) (natO (a * d + c * b) (b * d))
 exact kW rfl h3.2.2.1 (by rfl) (by rfl) ⟨rfl, h3.2.2.2.2⟩
theorem subFn : NatFn 113 (fun a b c d => a * d - c * b) (fun _ b _ d => b * d) := by
 refine ⟨enters_of Tryz.func113 (by kernel_rfl) rfl, fun a b c d w ha hb hc hd => ?_⟩
 obtain ⟨m1, e1⟩ := zG ha hd
 obtain ⟨m2, e2⟩ := zG hc hb
 obtain ⟨m3, e3⟩ := zG hb hd
 have e4 : IntKind.i64.wrap (a * d - c * b) = a * d - c * b := IntWalk.i64_in _ (by omega)
 clear m1 m2 m3
 clear ha hb hc hd
 go_enter Tryz.func113, Tryz.ntmps113
 go_wp2_with fail
 have h3 := heap3 w (natO a b) (natO c d) (natO (a * d - c * b) (b * d))
 exact kW rfl h3.2.2.1 (by rfl) (by rfl) ⟨rfl, h3.2.2.2.2⟩
theorem mulFn : NatFn 130 (fun a _ c _ => a * c) (fun _ b _ d => b * d) := by
 refine ⟨enters_of Tryz.func130 (by kernel_rfl) rfl, fun a b c d w ha hb hc hd => ?_⟩
 obtain ⟨m1, e1⟩ := zG ha hc
 obtain ⟨m3, e3⟩ := zG hb hd
 clear m1 m3
 clear ha hb hc hd
 go_enter Tryz.func130, Tryz.ntmps130
 go_wp2_with fail
 have h3 := heap3 w (natO a b) (natO c d) (natO (a * c) (b * d))
 exact kW rfl h3.2.2.1 (by rfl) (by rfl) ⟨rfl, h3.2.2.2.2⟩
theorem divFn : NatFn 200 (fun a _ _ d => a * d) (fun _ b c _ => b * c) := by
 refine ⟨enters_of Tryz.func200 (by kernel_rfl) rfl, fun a b c d w ha hb hc hd => ?_⟩
 obtain ⟨m1, e1⟩ := zG ha hd
 obtain ⟨m3, e3⟩ := zG hb hc
 clear m1 m3
 clear ha hb hc hd
 go_enter Tryz.func200, Tryz.ntmps200
 go_wp2_with fail
 have h3 := heap3 w (natO a b) (natO c d) (natO (a * d) (b * c))
 exact kW rfl h3.2.2.1 (by rfl) (by rfl) ⟨rfl, h3.2.2.2.2⟩
theorem kN (s t : ByteArray) (hs : s.size ≤ 1000000) (ht : t.size ≤ 1000000) (f : Nat) (h : ¬ (natQ s.data.toList ∧ natQ t.data.toList)) (w : World) :
 Calls Tryz.prog 112 #[.string s, .string t, .func (.func f) #[] #[]] w (Ret w (.tuple #[.string ⟨#[]⟩, .bool false])) := by
 have H1 := hide (zu s hs w)
 have H2 := hide (fun w => zu t ht w)
 by_cases h1 : natQ s.data.toList
 ·rw [qJ h1] at H1
  rw [xo (fun e => h ⟨h1, e⟩)] at H2
  clear h h1
  go_enter Tryz.func112, Tryz.ntmps112
  go_wp2_with fail
  refine H1.out.mono ?_
  rintro e w1 ⟨rfl, hb1⟩
  have HB1 := hide (hb1.trans ((heap1 w1 (natO (valQ s.data.toList).num ((valQ s.data.toList).den : Nat))).2.2.mono hb1.size))
  clear hb1
  go_wp2_with fail
  refine (H2.out _).mono ?_
  rintro e w2 ⟨rfl, hb2⟩
  have HB2 := bt HB1 hb2
  clear hb2
  go_wp2_with fail
  refine bodyPost_ret (results_tmp2 rfl _ _ _) rfl ?_
  exact ⟨rfl, HB2.out.trans ((heap1 w2 _).2.2.mono HB2.out.size)⟩
 ·rw [xo h1] at H1
  clear h h1 H2
  go_enter Tryz.func112, Tryz.ntmps112
  go_wp2_with fail
  refine H1.out.mono ?_
  rintro e w1 ⟨rfl, hb1⟩
  have HB1 := hide hb1
  clear hb1
  go_wp2_with fail
  refine bodyPost_ret (results_tmp2 rfl _ _ _) rfl ?_
  exact ⟨rfl, HB1.out.trans ((heap1 w1 _).2.2.mono HB1.out.size)⟩
theorem xp (s t : ByteArray) (hs : s.size ≤ 1000000) (ht : t.size ≤ 1000000) (f : Nat) {A C : Int → Int → Int → Int → Int} (hf : NatFn f A C) (h1 : natQ s.data.toList) (h2 : natQ t.data.toList) {n d : Int} (hn : A (valQ s.data.toList).num (valQ s.data.toList).den (valQ t.data.toList).num (valQ t.data.toList).den = n) (hd : C (valQ s.data.toList).num (valQ s.data.toList).den (valQ t.data.toList).num (valQ t.data.toList).den = d)
 (n1 : n.natAbs < 100000000000000000) (d1 : d.natAbs < 100000000000000000) (d0 : d ≠ 0) (B : Nat) (w : World) (hB : B ≤ w.heap.size) (hT : P10 B w) :
 Calls Tryz.prog 112 #[.string s, .string t, .func (.func f) #[] #[]] w (Ret w (.tuple #[.string (strB (ratS (Rat.divInt n d))), .bool true])) := by
 have H1 := hide (zu s hs w)
 have H2 := hide (fun w => zu t ht w)
 rw [qJ h1] at H1
 rw [qJ h2] at H2
 obtain ⟨a1, a2, _⟩ := ke h1
 obtain ⟨b1, b2, _⟩ := ke h2
 have HF := hide (fun w => hf.calls _ _ _ _ w a1 (show ((valQ s.data.toList).den : Int).natAbs < 100000000 by rw [Int.natAbs_natCast]; exact a2) b1 (show ((valQ t.data.toList).den : Int).natAbs < 100000000 by rw [Int.natAbs_natCast]; exact b2))
 rw [hn, hd] at HF
 have hen := hf.enters
 have HT := hide hT
 have HN := hide (fun w hB hT => ycX n d n1 d1 d0 B w hB hT)
 obtain ⟨p, hp⟩ : ∃ p : Int, p = (valQ s.data.toList).num := ⟨_, rfl⟩
 obtain ⟨q, hq⟩ : ∃ p : Int, p = ((valQ s.data.toList).den : Int) := ⟨_, rfl⟩
 obtain ⟨u, hu⟩ : ∃ p : Int, p = (valQ t.data.toList).num := ⟨_, rfl⟩
 obtain ⟨v, hv⟩ : ∃ p : Int, p = ((valQ t.data.toList).den : Int) := ⟨_, rfl⟩
 rw [← hp, ← hq] at H1 HF
 rw [← hu, ← hv] at H2 HF
 obtain ⟨X, hX⟩ := xe (strB (ratS (Rat.divInt n d)))
 rw [← hX] at HN ⊢
 clear hn hd hp hq hu hv hX h1 h2 a1 a2 b1 b2 hf n1 d1 d0 hT
 go_enter Tryz.func112, Tryz.ntmps112
 go_wp2_with fail
 refine H1.out.mono ?_
 rintro e w1 ⟨rfl, hb1⟩
 have X1 := hide (heap1 w1 (natO p q))
 have HB1 := hide (hb1.trans (X1.out.2.2.mono hb1.size))
 clear hb1
 go_wp2_with fail
 refine (H2.out _).mono ?_
 rintro e w2 ⟨rfl, hb2⟩
 have G2 := hide (yc hb2 X1.out.1 (yd X1.out.1))
 have HB2 := bt HB1 hb2
 have X2 := hide (heap1 w2 (natO u v))
 have HB2b := hide (HB2.out.trans (X2.out.2.2.mono HB2.out.size))
 have c0 := ya G2.out 0
 have c1 := ya G2.out 1
 have hl := yd G2.out
 clear hb2
 go_wp2_with fail
 refine (HF.out _).mono ?_
 rintro e w3 ⟨rfl, hb3⟩
 have HB3 := hide (HB2b.out.trans (hb3.mono HB2b.out.size))
 clear hb3 c0 c1
 go_wp2_with fail
 refine (HN.out _ (Nat.le_trans hB HB3.out.size) (HT.out.on HB3.out hB)).mono ?_
 rintro e w4 ⟨rfl, hb4⟩
 have HB4 := bt HB3 hb4
 clear hb4
 go_wp2_with fail
 refine bodyPost_ret (results_tmp2 rfl _ _ _) rfl ?_
 exact ⟨rfl, HB4.out⟩
end Go.Proofs.YtklgpilgalfckaaGreatDoor
