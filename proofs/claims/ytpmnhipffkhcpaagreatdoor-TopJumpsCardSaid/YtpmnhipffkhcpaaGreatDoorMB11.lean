/-
  Texts laid together.
-/
import Derived.Test.YtpmnhipffkhcpaaGreatDoorMB10
import Derived.Test.YtpmnhipffkhcpaaGreatDoorMB4
import Derived.Test.YtpmnhipffkhcpaaGreatDoorMB5
set_option maxRecDepth 100000
set_option maxHeartbeats 8000000
namespace Go.Proofs.YtpmnhipffkhcpaaGreatDoor
open Go.RowKit Go.KP Go.KI Go.Shelf
attribute [local go_sem] Oper.semAt_some

structure NatFn (f : Nat) (A C : Int → Int → Int → Int → Int) : Prop where
  enters : ∀ args w, (callFunc f args).run Tryz.prog w = .ok (.enter f args) w
  calls : ∀ (a b c d : Int) (w : World), a.natAbs < 100000000 → b.natAbs < 100000000 → c.natAbs < 100000000 → d.natAbs < 100000000 → Calls Tryz.prog f #[natV a b, natV c d] w (Ret w (natV (A a b c d) (C a b c d)))
theorem mul_i64 {a b : Int} (ha : a.natAbs < 100000000) (hb : b.natAbs < 100000000) : (a * b).natAbs < 10000000000000000 ∧ IntKind.i64.wrap (a * b) = a * b := by
  have h : (a * b).natAbs < 10000000000000000 := by
    rw [Int.natAbs_mul]
    have := Nat.mul_lt_mul'' ha hb
    omega
  exact ⟨h, IntWalk.i64_in _ (by omega)⟩
theorem exit_nat {f : Func} {R : Ending → World → Prop} {a : Act} {W : World} {b : Nat} {n d : Int} (hf : f.results = #[.cell 4 134]) (hb : W.heap[b]? = some (natO n d)) (h2 : a.tmps[4]? = some (.pointer (some ⟨b, 0, none⟩))) (hd : a.defers = []) (hR : R (.returned (natV n d)) W) :
    bodyPost Tryz.prog f R .ret a W := by
  have hcell := fun o => cell_blk hb o
  refine bodyPost_ret ?_ hd hR
  simp [results, hf, go_sem, hcell, h2]
theorem addFn : NatFn 135 (fun a b c d => a * d + c * b) (fun _ b _ d => b * d) := by
  refine ⟨enters_of Tryz.func135 (by kernel_rfl) rfl, fun a b c d w ha hb hc hd => ?_⟩
  obtain ⟨m1, e1⟩ := mul_i64 ha hd
  obtain ⟨m2, e2⟩ := mul_i64 hc hb
  obtain ⟨m3, e3⟩ := mul_i64 hb hd
  have e4 : IntKind.i64.wrap (a * d + c * b) = a * d + c * b := IntWalk.i64_in _ (by omega)
  clear m1 m2 m3
  clear ha hb hc hd
  go_enter Tryz.func135, Tryz.ntmps135
  go_wp2_with fail
  have h3 := heap3 w (natO a b) (natO c d) (natO (a * d + c * b) (b * d))
  exact exit_nat rfl h3.2.2.1 (by rfl) (by rfl) ⟨rfl, h3.2.2.2.2⟩
theorem subFn : NatFn 222 (fun a b c d => a * d - c * b) (fun _ b _ d => b * d) := by
  refine ⟨enters_of Tryz.func222 (by kernel_rfl) rfl, fun a b c d w ha hb hc hd => ?_⟩
  obtain ⟨m1, e1⟩ := mul_i64 ha hd
  obtain ⟨m2, e2⟩ := mul_i64 hc hb
  obtain ⟨m3, e3⟩ := mul_i64 hb hd
  have e4 : IntKind.i64.wrap (a * d - c * b) = a * d - c * b := IntWalk.i64_in _ (by omega)
  clear m1 m2 m3
  clear ha hb hc hd
  go_enter Tryz.func222, Tryz.ntmps222
  go_wp2_with fail
  have h3 := heap3 w (natO a b) (natO c d) (natO (a * d - c * b) (b * d))
  exact exit_nat rfl h3.2.2.1 (by rfl) (by rfl) ⟨rfl, h3.2.2.2.2⟩
theorem mulFn : NatFn 127 (fun a _ c _ => a * c) (fun _ b _ d => b * d) := by
  refine ⟨enters_of Tryz.func127 (by kernel_rfl) rfl, fun a b c d w ha hb hc hd => ?_⟩
  obtain ⟨m1, e1⟩ := mul_i64 ha hc
  obtain ⟨m3, e3⟩ := mul_i64 hb hd
  clear m1 m3
  clear ha hb hc hd
  go_enter Tryz.func127, Tryz.ntmps127
  go_wp2_with fail
  have h3 := heap3 w (natO a b) (natO c d) (natO (a * c) (b * d))
  exact exit_nat rfl h3.2.2.1 (by rfl) (by rfl) ⟨rfl, h3.2.2.2.2⟩
theorem divFn : NatFn 349 (fun a _ _ d => a * d) (fun _ b c _ => b * c) := by
  refine ⟨enters_of Tryz.func349 (by kernel_rfl) rfl, fun a b c d w ha hb hc hd => ?_⟩
  obtain ⟨m1, e1⟩ := mul_i64 ha hd
  obtain ⟨m3, e3⟩ := mul_i64 hb hc
  clear m1 m3
  clear ha hb hc hd
  go_enter Tryz.func349, Tryz.ntmps349
  go_wp2_with fail
  have h3 := heap3 w (natO a b) (natO c d) (natO (a * d) (b * c))
  exact exit_nat rfl h3.2.2.1 (by rfl) (by rfl) ⟨rfl, h3.2.2.2.2⟩
theorem quick_no (s t : ByteArray) (hs : s.size ≤ 1000000) (ht : t.size ≤ 1000000) (f : Nat) (h : ¬ (natQ s.data.toList ∧ natQ t.data.toList)) (w : World) :
    Calls Tryz.prog 126 #[.string s, .string t, .func (.func f) #[] #[]] w (Ret w (.tuple #[.string ⟨#[]⟩, .bool false])) := by
  have H1 := hide (nativeOf_any s hs w)
  have H2 := hide (fun w => nativeOf_any t ht w)
  by_cases h1 : natQ s.data.toList
  · rw [natOV_yes h1] at H1
    rw [natOV_no (fun e => h ⟨h1, e⟩)] at H2
    clear h h1
    go_enter Tryz.func126, Tryz.ntmps126
    go_wp2_with fail
    refine H1.out.mono ?_
    rintro e w1 ⟨rfl, hb1⟩
    have HB1 := hide (hb1.trans ((heap1 w1 (natO (valQ s.data.toList).num ((valQ s.data.toList).den : Nat))).2.2.mono hb1.size))
    clear hb1
    go_wp2_with fail
    refine (H2.out _).mono ?_
    rintro e w2 ⟨rfl, hb2⟩
    have HB2 := hide (HB1.out.trans (hb2.mono HB1.out.size))
    clear hb2
    go_wp2_with fail
    refine bodyPost_ret (results_tmp2 rfl _ _ _) rfl ?_
    exact ⟨rfl, HB2.out.trans ((heap1 w2 _).2.2.mono HB2.out.size)⟩
  · rw [natOV_no h1] at H1
    clear h h1 H2
    go_enter Tryz.func126, Tryz.ntmps126
    go_wp2_with fail
    refine H1.out.mono ?_
    rintro e w1 ⟨rfl, hb1⟩
    have HB1 := hide hb1
    clear hb1
    go_wp2_with fail
    refine bodyPost_ret (results_tmp2 rfl _ _ _) rfl ?_
    exact ⟨rfl, HB1.out.trans ((heap1 w1 _).2.2.mono HB1.out.size)⟩
theorem quick_yes (s t : ByteArray) (hs : s.size ≤ 1000000) (ht : t.size ≤ 1000000) (f : Nat) {A C : Int → Int → Int → Int → Int} (hf : NatFn f A C) (h1 : natQ s.data.toList) (h2 : natQ t.data.toList) {n d : Int} (hn : A (valQ s.data.toList).num (valQ s.data.toList).den (valQ t.data.toList).num (valQ t.data.toList).den = n) (hd : C (valQ s.data.toList).num (valQ s.data.toList).den (valQ t.data.toList).num (valQ t.data.toList).den = d)
    (n1 : n.natAbs < 100000000000000000) (d1 : d.natAbs < 100000000000000000) (d0 : d ≠ 0) (B : Nat) (w : World) (hB : B ≤ w.heap.size) (hT : P10 B w) :
    Calls Tryz.prog 126 #[.string s, .string t, .func (.func f) #[] #[]] w (Ret w (.tuple #[.string (strB (ratS (Rat.divInt n d))), .bool true])) := by
  have H1 := hide (nativeOf_any s hs w)
  have H2 := hide (fun w => nativeOf_any t ht w)
  rw [natOV_yes h1] at H1
  rw [natOV_yes h2] at H2
  obtain ⟨a1, a2, _⟩ := natQ_lt h1
  obtain ⟨b1, b2, _⟩ := natQ_lt h2
  have HF := hide (fun w => hf.calls _ _ _ _ w a1 (show ((valQ s.data.toList).den : Int).natAbs < 100000000 by rw [Int.natAbs_natCast]; exact a2) b1 (show ((valQ t.data.toList).den : Int).natAbs < 100000000 by rw [Int.natAbs_natCast]; exact b2))
  rw [hn, hd] at HF
  have hen := hf.enters
  have HT := hide hT
  have HN := hide (fun w hB hT => nnumber_any n d n1 d1 d0 B w hB hT)
  obtain ⟨p, hp⟩ : ∃ p : Int, p = (valQ s.data.toList).num := ⟨_, rfl⟩
  obtain ⟨q, hq⟩ : ∃ p : Int, p = ((valQ s.data.toList).den : Int) := ⟨_, rfl⟩
  obtain ⟨u, hu⟩ : ∃ p : Int, p = (valQ t.data.toList).num := ⟨_, rfl⟩
  obtain ⟨v, hv⟩ : ∃ p : Int, p = ((valQ t.data.toList).den : Int) := ⟨_, rfl⟩
  rw [← hp, ← hq] at H1 HF
  rw [← hu, ← hv] at H2 HF
  obtain ⟨X, hX⟩ : ∃ X, X = strB (ratS (Rat.divInt n d)) := ⟨_, rfl⟩
  rw [← hX] at HN ⊢
  clear hn hd hp hq hu hv hX h1 h2 a1 a2 b1 b2 hf n1 d1 d0 hT
  go_enter Tryz.func126, Tryz.ntmps126
  go_wp2_with fail
  refine H1.out.mono ?_
  rintro e w1 ⟨rfl, hb1⟩
  have X1 := hide (heap1 w1 (natO p q))
  have HB1 := hide (hb1.trans (X1.out.2.2.mono hb1.size))
  clear hb1
  go_wp2_with fail
  refine (H2.out _).mono ?_
  rintro e w2 ⟨rfl, hb2⟩
  have G2 := hide (below_blk hb2 X1.out.1 (lt_blk X1.out.1))
  have HB2 := hide (HB1.out.trans (hb2.mono HB1.out.size))
  have X2 := hide (heap1 w2 (natO u v))
  have HB2b := hide (HB2.out.trans (X2.out.2.2.mono HB2.out.size))
  have c0 := cell_blk G2.out 0
  have c1 := cell_blk G2.out 1
  have hl := lt_blk G2.out
  clear hb2
  go_wp2_with fail
  refine (HF.out _).mono ?_
  rintro e w3 ⟨rfl, hb3⟩
  have HB3 := hide (HB2b.out.trans (hb3.mono HB2b.out.size))
  clear hb3 c0 c1
  go_wp2_with fail
  refine (HN.out _ (Nat.le_trans hB HB3.out.size) (HT.out.on HB3.out hB)).mono ?_
  rintro e w4 ⟨rfl, hb4⟩
  have HB4 := hide (HB3.out.trans (hb4.mono HB3.out.size))
  clear hb4
  go_wp2_with fail
  refine bodyPost_ret (results_tmp2 rfl _ _ _) rfl ?_
  exact ⟨rfl, HB4.out⟩
open Go.RowKit Go.KP Go.KI Go.Shelf
attribute [local go_sem] Oper.semAt_some

theorem pairV_err (z : Int) : pairV [] z = .tuple #[.string ⟨#[]⟩, .int .i64 z] := rfl
theorem mul2_any {s a t b : ByteArray} {x p y q : Int} (h : Four s a t b x p y q) (h0 : p * q ≠ 0) (B : Nat) (w : World) (hB : B ≤ w.heap.size) (hT : P10 B w) :
    Calls Tryz.prog 129 #[partsV s a, partsV t b] w (Ret w (pairV (if fits (x * y) ∧ fits (p * q) then ratS (Rat.divInt (x * y) (p * q)) else []) (if fits (x * y) ∧ fits (p * q) then 0 else 4))) := by
  have HT := hide hT
  have X0 := hide (heap2 w (partsO s a) (partsO t b))
  by_cases hf : fits (x * y)
  · have HO := hide (fun w hB hT => mul_yes h.h1 h.h3 h.f1 h.f3 hf B w hB hT)
    obtain ⟨N, hN⟩ : ∃ U, U = strB (Lib.itoa (x * y)) := ⟨_, rfl⟩
    have hNl : N.data.toList = Lib.itoa (x * y) := by rw [hN, strB_list]
    rw [← hN] at HO
    by_cases hd : fits (p * q)
    · have HM := hide (fun w hB hT => mul_yes h.h2 h.h4 h.f2 h.f4 hd B w hB hT)
      obtain ⟨D, hD⟩ : ∃ U, U = strB (Lib.itoa (p * q)) := ⟨_, rfl⟩
      rw [← hD] at HM
      have HN := hide (fun w hB hT => qnumber_any (t := D) hNl (by rw [hD, strB_list]) hf hd h0 B w hB hT)
      rw [if_pos ⟨hf, hd⟩, if_pos ⟨hf, hd⟩]
      obtain ⟨X, hX⟩ : ∃ X, X = strB (ratS (Rat.divInt (x * y) (p * q))) := ⟨_, rfl⟩
      rw [show pairV (ratS (Rat.divInt (x * y) (p * q))) 0 = .tuple #[.string X, .int .i64 0] by rw [hX]] at HN ⊢
      clear hN hNl hD hX hf hd h h0 hT
      go_enter Tryz.func129, Tryz.ntmps129
      go_wp2_with fail
      refine (HO.out _ (Nat.le_trans hB X0.out.2.2.2.size) (HT.out.on X0.out.2.2.2 hB)).mono ?_
      rintro e w1 ⟨rfl, hb1⟩
      have G1 := hide (below_blk hb1 X0.out.1 (lt_blk X0.out.1))
      have G2 := hide (below_blk hb1 X0.out.2.1 (lt_blk X0.out.2.1))
      have HB1 := hide (X0.out.2.2.2.trans (hb1.mono X0.out.2.2.2.size))
      have c1 := cell_blk G1.out 1
      have c3 := cell_blk G2.out 1
      clear hb1
      go_wp2_with fail
      refine (HM.out _ (Nat.le_trans hB HB1.out.size) (HT.out.on HB1.out hB)).mono ?_
      rintro e w3 ⟨rfl, hb3⟩
      have HB3 := hide (HB1.out.trans (hb3.mono HB1.out.size))
      clear hb3 c1 c3
      go_wp2_with fail
      refine (HN.out _ (Nat.le_trans hB HB3.out.size) (HT.out.on HB3.out hB)).mono ?_
      rintro e w4 ⟨rfl, hb4⟩
      have HB4 := hide (HB3.out.trans (hb4.mono HB3.out.size))
      clear hb4
      go_wp2_with fail
      refine bodyPost_ret (results_tmp2 rfl _ _ _) rfl ?_
      exact ⟨rfl, HB4.out⟩
    · have HM := hide (fun w hB hT => mul_no h.h2 h.h4 h.f2 h.f4 hd B w hB hT)
      rw [if_neg (fun e => hd e.2), if_neg (fun e => hd e.2), pairV_err]
      clear hN hNl hf hd h h0 hT
      go_enter Tryz.func129, Tryz.ntmps129
      go_wp2_with fail
      refine (HO.out _ (Nat.le_trans hB X0.out.2.2.2.size) (HT.out.on X0.out.2.2.2 hB)).mono ?_
      rintro e w1 ⟨rfl, hb1⟩
      have G1 := hide (below_blk hb1 X0.out.1 (lt_blk X0.out.1))
      have G2 := hide (below_blk hb1 X0.out.2.1 (lt_blk X0.out.2.1))
      have HB1 := hide (X0.out.2.2.2.trans (hb1.mono X0.out.2.2.2.size))
      have c1 := cell_blk G1.out 1
      have c3 := cell_blk G2.out 1
      clear hb1
      go_wp2_with fail
      refine (HM.out _ (Nat.le_trans hB HB1.out.size) (HT.out.on HB1.out hB)).mono ?_
      rintro e w3 ⟨rfl, hb3⟩
      have HB3 := hide (HB1.out.trans (hb3.mono HB1.out.size))
      clear hb3 c1 c3
      go_wp2_with fail
      refine bodyPost_ret (results_tmp2 rfl _ _ _) rfl ?_
      exact ⟨rfl, HB3.out⟩
  · have HO := hide (fun w hB hT => mul_no h.h1 h.h3 h.f1 h.f3 hf B w hB hT)
    rw [if_neg (fun e => hf e.1), if_neg (fun e => hf e.1), pairV_err]
    clear hf h h0 hT
    go_enter Tryz.func129, Tryz.ntmps129
    go_wp2_with fail
    refine (HO.out _ (Nat.le_trans hB X0.out.2.2.2.size) (HT.out.on X0.out.2.2.2 hB)).mono ?_
    rintro e w1 ⟨rfl, hb1⟩
    have HB1 := hide (X0.out.2.2.2.trans (hb1.mono X0.out.2.2.2.size))
    clear hb1
    go_wp2_with fail
    refine bodyPost_ret (results_tmp2 rfl _ _ _) rfl ?_
    exact ⟨rfl, HB1.out⟩
theorem div2_zero {s a t b : ByteArray} (h : t.data.toList = [48]) (w : World) :
    Calls Tryz.prog 350 #[partsV s a, partsV t b] w (Ret w (pairV [] 12)) := by
  have X0 := hide (heap2 w (partsO s a) (partsO t b))
  have he := (lit_eq (m := [48]) h).1 rfl
  rw [pairV_err]
  clear h
  go_enter Tryz.func350, Tryz.ntmps350
  go_wp2_with fail
  refine bodyPost_ret (results_tmp2 rfl _ _ _) rfl ?_
  exact ⟨rfl, X0.out.2.2.2⟩
theorem div2_any {s a t b : ByteArray} {x p y q : Int} (h : Four s a t b x p y q) (hy : y ≠ 0) (hp : p ≠ 0) (B : Nat) (w : World) (hB : B ≤ w.heap.size) (hT : P10 B w) :
    Calls Tryz.prog 350 #[partsV s a, partsV t b] w (Ret w (pairV (if fits (x * q) ∧ fits (y * p) then ratS (Rat.divInt (x * q) (y * p)) else []) (if fits (x * q) ∧ fits (y * p) then 0 else 4))) := by
  have HT := hide hT
  have X0 := hide (heap2 w (partsO s a) (partsO t b))
  have he := (lit_eq (m := [48]) h.h3).2 (itoa_nz hy)
  by_cases hc : fits (x * q) ∧ fits (y * p)
  · have HC := hide (fun w hB hT => crossed_yes h hc.1 hc.2 B w hB hT)
    have HN := hide (fun w hB hT => qnumber_any (s := strB (Lib.itoa (x * q))) (t := strB (Lib.itoa (y * p))) (strB_list _) (strB_list _) hc.1 hc.2 (Int.mul_ne_zero hy hp) B w hB hT)
    rw [if_pos hc, if_pos hc]
    obtain ⟨X, hX⟩ : ∃ X, X = strB (ratS (Rat.divInt (x * q) (y * p))) := ⟨_, rfl⟩
    obtain ⟨U, hU⟩ : ∃ U, U = strB (Lib.itoa (x * q)) := ⟨_, rfl⟩
    obtain ⟨V, hV⟩ : ∃ U, U = strB (Lib.itoa (y * p)) := ⟨_, rfl⟩
    rw [← hU, ← hV] at HC
    rw [← hU, ← hV] at HN
    rw [show pairV (ratS (Rat.divInt (x * q) (y * p))) 0 = .tuple #[.string X, .int .i64 0] by rw [hX]] at HN ⊢
    clear hX hU hV hc h hy hp hT
    go_enter Tryz.func350, Tryz.ntmps350
    go_wp2_with fail
    refine (HC.out _ (Nat.le_trans hB X0.out.2.2.2.size) (HT.out.on X0.out.2.2.2 hB)).mono ?_
    rintro e w1 ⟨rfl, hb1⟩
    have HB1 := hide (X0.out.2.2.2.trans (hb1.mono X0.out.2.2.2.size))
    clear hb1
    go_wp2_with fail
    refine (HN.out _ (Nat.le_trans hB HB1.out.size) (HT.out.on HB1.out hB)).mono ?_
    rintro e w4 ⟨rfl, hb4⟩
    have HB4 := hide (HB1.out.trans (hb4.mono HB1.out.size))
    clear hb4
    go_wp2_with fail
    refine bodyPost_ret (results_tmp2 rfl _ _ _) rfl ?_
    exact ⟨rfl, HB4.out⟩
  · have HC := hide (fun w hB hT => crossed_no h hc B w hB hT)
    rw [if_neg hc, if_neg hc, pairV_err]
    clear hc h hy hp hT
    go_enter Tryz.func350, Tryz.ntmps350
    go_wp2_with fail
    refine (HC.out _ (Nat.le_trans hB X0.out.2.2.2.size) (HT.out.on X0.out.2.2.2 hB)).mono ?_
    rintro e w1 ⟨u, v, rfl, hb1⟩
    have HB1 := hide (X0.out.2.2.2.trans (hb1.mono X0.out.2.2.2.size))
    clear hb1
    go_wp2_with fail
    refine bodyPost_ret (results_tmp2 rfl _ _ _) rfl ?_
    exact ⟨rfl, HB1.out⟩
abbrev boxF (g : Nat) : Obj := .cells #[.func (.func g) #[] #[]] 162
def CombRet (g : Nat) (w : World) (e : Ending) (w2 : World) : Prop := e = .returned (.func (.func 268) #[] #[.pointer (some ⟨w.heap.size, 0, none⟩)]) ∧ w2 = w.alloc (boxF g)
theorem makeComb_any (g : Nat) (w : World) :
    Calls Tryz.prog 136 #[.func (.func g) #[] #[]] w (CombRet g w) := by
  have hmf : ∀ (fn : Fn) (first cap : Array Value) (w : World), (Instr.makeFunc fn first cap).run Tryz.prog w = .ok (.func fn first cap) w := fun _ _ _ _ => rfl
  go_enter Tryz.func136, Tryz.ntmps136
  go_wp2_with fail
  go_ret
  exact ⟨rfl, rfl⟩
open Go.RowKit Go.KP Go.KI Go.Shelf
attribute [local go_sem] Oper.semAt_some

def qopS (C : Rat → Rat → Prop) [∀ x y, Decidable (C x y)] (f : Rat → Rat → Rat) (a b : List UInt8) : List UInt8 := if bothQ a b = 0 then (if C (valQ a) (valQ b) then ratS (f (valQ a) (valQ b)) else []) else []
def qopE (C : Rat → Rat → Prop) [∀ x y, Decidable (C x y)] (a b : List UInt8) : Int := if bothQ a b = 0 then (if C (valQ a) (valQ b) then 0 else 4) else bothQ a b
theorem bothQ_zero {a b : List UInt8} (h : bothQ a b = 0) : chkQ a = 0 ∧ chkQ b = 0 := by
  unfold bothQ at h
  by_cases h1 : chkQ a = 0
  · rw [if_pos h1] at h
    exact ⟨h1, h⟩
  · rw [if_neg h1] at h
    exact absurd h h1
theorem zero_bothQ {a b : List UInt8} (h1 : chkQ a = 0) (h2 : chkQ b = 0) : bothQ a b = 0 := by unfold bothQ; rw [if_pos h1, h2]
theorem four_of {a b : List UInt8} (h1 : chkQ a = 0) (h2 : chkQ b = 0) : Four (strB (Lib.itoa (valQ a).num)) (strB (Lib.itoa ((valQ a).den : Int))) (strB (Lib.itoa (valQ b).num)) (strB (Lib.itoa ((valQ b).den : Int))) (valQ a).num ((valQ a).den : Int) (valQ b).num ((valQ b).den : Int) := by
  obtain ⟨_, f1, _, _⟩ := chkQ_ok h1
  obtain ⟨_, f2, _, _⟩ := chkQ_ok h2
  exact ⟨strB_list _, strB_list _, strB_list _, strB_list _, f1.1, f1.2, f2.1, f2.2⟩
theorem most8 : 8 + 8 + 1 ≤ most := by rw [most_eq]; omega
theorem den_i (x : Rat) : (x.den : Int) ≠ 0 := den_ne x
theorem quick_nums {a b : List UInt8} (h1 : natQ a) (h2 : natQ b) : ((valQ a).num * ((valQ b).den : Int)).natAbs < 10000000000000000 ∧ ((valQ b).num * ((valQ a).den : Int)).natAbs < 10000000000000000 ∧ (((valQ a).den : Int) * ((valQ b).den : Int)).natAbs < 10000000000000000 ∧ ((valQ a).num * (valQ b).num).natAbs < 10000000000000000 ∧ (((valQ a).den : Int) * (valQ b).num).natAbs < 10000000000000000 := by
  obtain ⟨a1, a2, _⟩ := natQ_lt h1
  obtain ⟨b1, b2, _⟩ := natQ_lt h2
  have a3 : ((valQ a).den : Int).natAbs < 100000000 := by rw [Int.natAbs_natCast]; exact a2
  have b3 : ((valQ b).den : Int).natAbs < 100000000 := by rw [Int.natAbs_natCast]; exact b2
  exact ⟨(mul_i64 a1 b3).1, (mul_i64 b1 a3).1, (mul_i64 a3 b3).1, (mul_i64 a1 b1).1, (mul_i64 a3 b1).1⟩
theorem addC_iff (x y : Rat) : combC (· + ·) x.num (x.den : Int) y.num (y.den : Int) ↔ addC x y :=
  ⟨fun h => ⟨h.1.1, h.1.2, h.2.1, h.2.2⟩, fun h => ⟨⟨h.1, h.2.1⟩, h.2.2.1, h.2.2.2⟩⟩
theorem qAdd_any (s t : ByteArray) (hs : s.size ≤ 1000000) (ht : t.size ≤ 1000000) (B : Nat) (w : World) (hB : B ≤ w.heap.size) (hT : PQ B w) :
    Calls Tryz.prog 45 #[.string s, .string t] w (Ret w (pairV (qopS addC (· + ·) s.data.toList t.data.toList) (qopE addC s.data.toList t.data.toList))) := by
  have HT := hide hT
  by_cases hq : natQ s.data.toList ∧ natQ t.data.toList
  · obtain ⟨k1, k2, k3, _, _⟩ := quick_nums hq.1 hq.2
    have hb := zero_bothQ hq.1.1 hq.2.1
    have hc : addC (valQ s.data.toList) (valQ t.data.toList) := addC_of (natQ_sz hq.1) (natQ_sz hq.2) most8
    have e1 : qopS addC (· + ·) s.data.toList t.data.toList = ratS (valQ s.data.toList + valQ t.data.toList) := by unfold qopS; rw [if_pos hb, if_pos hc]
    have e2 : qopE addC s.data.toList t.data.toList = 0 := by unfold qopE; rw [if_pos hb, if_pos hc]
    rw [e1, e2]
    have HQ := hide (quick_yes s t hs ht 135 addFn hq.1 hq.2 rfl rfl (by omega) (by omega) (Int.mul_ne_zero (den_i _) (den_i _)) B w hB hT.p10)
    rw [divInt_add] at HQ
    obtain ⟨X, hX⟩ : ∃ X, X = strB (ratS (valQ s.data.toList + valQ t.data.toList)) := ⟨_, rfl⟩
    rw [show pairV (ratS (valQ s.data.toList + valQ t.data.toList)) 0 = .tuple #[.string X, .int .i64 0] by rw [hX]]
    rw [← hX] at HQ
    clear hX e1 e2 hc hb k1 k2 k3 hq hT
    go_enter Tryz.func45, Tryz.ntmps45
    go_wp2_with fail
    refine HQ.out.mono ?_
    rintro e w1 ⟨rfl, hb1⟩
    have HB1 := hide hb1
    clear hb1
    go_wp2_with fail
    refine bodyPost_ret (results_tmp2 rfl _ _ _) rfl ?_
    exact ⟨rfl, HB1.out⟩
  · have HQ := hide (quick_no s t hs ht 135 hq w)
    have key : ∀ W bx, Below w.heap.size w W → W.heap[bx]? = some (boxF 122) → Calls Tryz.prog 128 #[.string s, .string t, .func (.func 268) #[] #[.pointer (some ⟨bx, 0, none⟩)]] W (Ret W (pairV (qopS addC (· + ·) s.data.toList t.data.toList) (qopE addC s.data.toList t.data.toList))) := by
      intro W bx hW hbx
      have hBW := Nat.le_trans hB hW.size
      by_cases hb : bothQ s.data.toList t.data.toList = 0
      · obtain ⟨c1, c2⟩ := bothQ_zero hb
        have h4 := four_of c1 c2
        refine qboth_good s t hs ht 268 _ c1 c2 (enters_of Tryz.func268 (by kernel_rfl) rfl) _ _ B W hBW (HT.out.on hW hB) ?_
        intro W2 hW2
        have h := combined_any addI h4 (Int.mul_ne_zero (den_i _) (den_i _)) bx _ B W2 (below_blk hW2 hbx (lt_blk hbx)) (Nat.le_trans hBW hW2.size) ((HT.out.p10.on hW hB).on hW2 hBW)
        unfold qopS qopE
        rw [if_pos hb, if_pos hb]
        by_cases hc : addC (valQ s.data.toList) (valQ t.data.toList)
        · rw [if_pos (((addC_iff _ _).2 hc)), if_pos (((addC_iff _ _).2 hc)), divInt_add] at h
          rw [if_pos hc, if_pos hc]
          exact h
        · rw [if_neg (fun e => hc ((addC_iff _ _).1 e)), if_neg (fun e => hc ((addC_iff _ _).1 e))] at h
          rw [if_neg hc, if_neg hc]
          exact h
      · unfold qopS qopE
        rw [if_neg hb, if_neg hb]
        exact qboth_bad s t hs ht _ hb B W hBW (HT.out.on hW hB)
    have HK := hide key
    obtain ⟨X, hX⟩ : ∃ X, X = strB (qopS addC (· + ·) s.data.toList t.data.toList) := ⟨_, rfl⟩
    obtain ⟨E, hE⟩ : ∃ E, E = qopE addC s.data.toList t.data.toList := ⟨_, rfl⟩
    rw [show pairV (qopS addC (· + ·) s.data.toList t.data.toList) (qopE addC s.data.toList t.data.toList) = .tuple #[.string X, .int .i64 E] by rw [hX, hE]] at HK ⊢
    clear key hX hE hq hT
    go_enter Tryz.func45, Tryz.ntmps45
    go_wp2_with fail
    refine HQ.out.mono ?_
    rintro e w1 ⟨rfl, hb1⟩
    have HB1 := hide hb1
    clear hb1
    go_wp2_with fail
    refine (makeComb_any _ _).mono ?_
    rintro e w2 ⟨rfl, rfl⟩
    have X1 := hide (heap1 w1 (boxF 122))
    have HB2 := hide (HB1.out.trans (X1.out.2.2.mono HB1.out.size))
    go_wp2_with fail
    refine (HK.out _ _ HB2.out X1.out.1).mono ?_
    rintro e w3 ⟨rfl, hb3⟩
    have HB3 := hide (HB2.out.trans (hb3.mono HB2.out.size))
    clear hb3
    go_wp2_with fail
    refine bodyPost_ret (results_tmp2 rfl _ _ _) rfl ?_
    exact ⟨rfl, HB3.out⟩
theorem subC_iff (x y : Rat) : combC (· - ·) x.num (x.den : Int) y.num (y.den : Int) ↔ subC x y :=
  ⟨fun h => ⟨h.1.1, h.1.2, h.2.1, h.2.2⟩, fun h => ⟨⟨h.1, h.2.1⟩, h.2.2.1, h.2.2.2⟩⟩
theorem qSub_any (s t : ByteArray) (hs : s.size ≤ 1000000) (ht : t.size ≤ 1000000) (B : Nat) (w : World) (hB : B ≤ w.heap.size) (hT : PQ B w) :
    Calls Tryz.prog 89 #[.string s, .string t] w (Ret w (pairV (qopS subC (· - ·) s.data.toList t.data.toList) (qopE subC s.data.toList t.data.toList))) := by
  have HT := hide hT
  by_cases hq : natQ s.data.toList ∧ natQ t.data.toList
  · obtain ⟨k1, k2, k3, _, _⟩ := quick_nums hq.1 hq.2
    have hb := zero_bothQ hq.1.1 hq.2.1
    have hc : subC (valQ s.data.toList) (valQ t.data.toList) := subC_of (natQ_sz hq.1) (natQ_sz hq.2) most8
    have e1 : qopS subC (· - ·) s.data.toList t.data.toList = ratS (valQ s.data.toList - valQ t.data.toList) := by unfold qopS; rw [if_pos hb, if_pos hc]
    have e2 : qopE subC s.data.toList t.data.toList = 0 := by unfold qopE; rw [if_pos hb, if_pos hc]
    rw [e1, e2]
    have HQ := hide (quick_yes s t hs ht 222 subFn hq.1 hq.2 rfl rfl (by omega) (by omega) (Int.mul_ne_zero (den_i _) (den_i _)) B w hB hT.p10)
    rw [divInt_sub] at HQ
    obtain ⟨X, hX⟩ : ∃ X, X = strB (ratS (valQ s.data.toList - valQ t.data.toList)) := ⟨_, rfl⟩
    rw [show pairV (ratS (valQ s.data.toList - valQ t.data.toList)) 0 = .tuple #[.string X, .int .i64 0] by rw [hX]]
    rw [← hX] at HQ
    clear hX e1 e2 hc hb k1 k2 k3 hq hT
    go_enter Tryz.func89, Tryz.ntmps89
    go_wp2_with fail
    refine HQ.out.mono ?_
    rintro e w1 ⟨rfl, hb1⟩
    have HB1 := hide hb1
    clear hb1
    go_wp2_with fail
    refine bodyPost_ret (results_tmp2 rfl _ _ _) rfl ?_
    exact ⟨rfl, HB1.out⟩
  · have HQ := hide (quick_no s t hs ht 222 hq w)
    have key : ∀ W bx, Below w.heap.size w W → W.heap[bx]? = some (boxF 223) → Calls Tryz.prog 128 #[.string s, .string t, .func (.func 268) #[] #[.pointer (some ⟨bx, 0, none⟩)]] W (Ret W (pairV (qopS subC (· - ·) s.data.toList t.data.toList) (qopE subC s.data.toList t.data.toList))) := by
      intro W bx hW hbx
      have hBW := Nat.le_trans hB hW.size
      by_cases hb : bothQ s.data.toList t.data.toList = 0
      · obtain ⟨c1, c2⟩ := bothQ_zero hb
        have h4 := four_of c1 c2
        refine qboth_good s t hs ht 268 _ c1 c2 (enters_of Tryz.func268 (by kernel_rfl) rfl) _ _ B W hBW (HT.out.on hW hB) ?_
        intro W2 hW2
        have h := combined_any subI h4 (Int.mul_ne_zero (den_i _) (den_i _)) bx _ B W2 (below_blk hW2 hbx (lt_blk hbx)) (Nat.le_trans hBW hW2.size) ((HT.out.p10.on hW hB).on hW2 hBW)
        unfold qopS qopE
        rw [if_pos hb, if_pos hb]
        by_cases hc : subC (valQ s.data.toList) (valQ t.data.toList)
        · rw [if_pos (((subC_iff _ _).2 hc)), if_pos (((subC_iff _ _).2 hc)), divInt_sub] at h
          rw [if_pos hc, if_pos hc]
          exact h
        · rw [if_neg (fun e => hc ((subC_iff _ _).1 e)), if_neg (fun e => hc ((subC_iff _ _).1 e))] at h
          rw [if_neg hc, if_neg hc]
          exact h
      · unfold qopS qopE
        rw [if_neg hb, if_neg hb]
        exact qboth_bad s t hs ht _ hb B W hBW (HT.out.on hW hB)
    have HK := hide key
    obtain ⟨X, hX⟩ : ∃ X, X = strB (qopS subC (· - ·) s.data.toList t.data.toList) := ⟨_, rfl⟩
    obtain ⟨E, hE⟩ : ∃ E, E = qopE subC s.data.toList t.data.toList := ⟨_, rfl⟩
    rw [show pairV (qopS subC (· - ·) s.data.toList t.data.toList) (qopE subC s.data.toList t.data.toList) = .tuple #[.string X, .int .i64 E] by rw [hX, hE]] at HK ⊢
    clear key hX hE hq hT
    go_enter Tryz.func89, Tryz.ntmps89
    go_wp2_with fail
    refine HQ.out.mono ?_
    rintro e w1 ⟨rfl, hb1⟩
    have HB1 := hide hb1
    clear hb1
    go_wp2_with fail
    refine (makeComb_any _ _).mono ?_
    rintro e w2 ⟨rfl, rfl⟩
    have X1 := hide (heap1 w1 (boxF 223))
    have HB2 := hide (HB1.out.trans (X1.out.2.2.mono HB1.out.size))
    go_wp2_with fail
    refine (HK.out _ _ HB2.out X1.out.1).mono ?_
    rintro e w3 ⟨rfl, hb3⟩
    have HB3 := hide (HB2.out.trans (hb3.mono HB2.out.size))
    clear hb3
    go_wp2_with fail
    refine bodyPost_ret (results_tmp2 rfl _ _ _) rfl ?_
    exact ⟨rfl, HB3.out⟩
theorem qMul_any (s t : ByteArray) (hs : s.size ≤ 1000000) (ht : t.size ≤ 1000000) (B : Nat) (w : World) (hB : B ≤ w.heap.size) (hT : PQ B w) :
    Calls Tryz.prog 42 #[.string s, .string t] w (Ret w (pairV (qopS mulC (· * ·) s.data.toList t.data.toList) (qopE mulC s.data.toList t.data.toList))) := by
  have HT := hide hT
  by_cases hq : natQ s.data.toList ∧ natQ t.data.toList
  · obtain ⟨_, _, k3, k4, _⟩ := quick_nums hq.1 hq.2
    have hb := zero_bothQ hq.1.1 hq.2.1
    have hc : mulC (valQ s.data.toList) (valQ t.data.toList) := mulC_of (natQ_sz hq.1) (natQ_sz hq.2) (by rw [most_eq]; omega)
    have e1 : qopS mulC (· * ·) s.data.toList t.data.toList = ratS (valQ s.data.toList * valQ t.data.toList) := by unfold qopS; rw [if_pos hb, if_pos hc]
    have e2 : qopE mulC s.data.toList t.data.toList = 0 := by unfold qopE; rw [if_pos hb, if_pos hc]
    rw [e1, e2]
    have HQ := hide (quick_yes s t hs ht 127 mulFn hq.1 hq.2 rfl rfl (by omega) (by omega) (Int.mul_ne_zero (den_i _) (den_i _)) B w hB hT.p10)
    rw [divInt_mul] at HQ
    obtain ⟨X, hX⟩ : ∃ X, X = strB (ratS (valQ s.data.toList * valQ t.data.toList)) := ⟨_, rfl⟩
    rw [show pairV (ratS (valQ s.data.toList * valQ t.data.toList)) 0 = .tuple #[.string X, .int .i64 0] by rw [hX]]
    rw [← hX] at HQ
    clear hX e1 e2 hc hb k3 k4 hq hT
    go_enter Tryz.func42, Tryz.ntmps42
    go_wp2_with fail
    refine HQ.out.mono ?_
    rintro e w1 ⟨rfl, hb1⟩
    have HB1 := hide hb1
    clear hb1
    go_wp2_with fail
    refine bodyPost_ret (results_tmp2 rfl _ _ _) rfl ?_
    exact ⟨rfl, HB1.out⟩
  · have HQ := hide (quick_no s t hs ht 127 hq w)
    have key : ∀ W, Below w.heap.size w W → Calls Tryz.prog 128 #[.string s, .string t, .func (.func 129) #[] #[]] W (Ret W (pairV (qopS mulC (· * ·) s.data.toList t.data.toList) (qopE mulC s.data.toList t.data.toList))) := by
      intro W hW
      have hBW := Nat.le_trans hB hW.size
      by_cases hb : bothQ s.data.toList t.data.toList = 0
      · obtain ⟨c1, c2⟩ := bothQ_zero hb
        have h4 := four_of c1 c2
        refine qboth_good s t hs ht 129 #[] c1 c2 (enters_of Tryz.func129 (by kernel_rfl) rfl) _ _ B W hBW (HT.out.on hW hB) ?_
        intro W2 hW2
        have h := mul2_any h4 (Int.mul_ne_zero (den_i _) (den_i _)) B W2 (Nat.le_trans hBW hW2.size) ((HT.out.p10.on hW hB).on hW2 hBW)
        unfold qopS qopE
        rw [if_pos hb, if_pos hb]
        rw [divInt_mul] at h
        exact h
      · unfold qopS qopE
        rw [if_neg hb, if_neg hb]
        exact qboth_bad s t hs ht _ hb B W hBW (HT.out.on hW hB)
    have HK := hide key
    obtain ⟨X, hX⟩ : ∃ X, X = strB (qopS mulC (· * ·) s.data.toList t.data.toList) := ⟨_, rfl⟩
    obtain ⟨E, hE⟩ : ∃ E, E = qopE mulC s.data.toList t.data.toList := ⟨_, rfl⟩
    rw [show pairV (qopS mulC (· * ·) s.data.toList t.data.toList) (qopE mulC s.data.toList t.data.toList) = .tuple #[.string X, .int .i64 E] by rw [hX, hE]] at HK ⊢
    clear key hX hE hq hT
    go_enter Tryz.func42, Tryz.ntmps42
    go_wp2_with fail
    refine HQ.out.mono ?_
    rintro e w1 ⟨rfl, hb1⟩
    have HB1 := hide hb1
    clear hb1
    go_wp2_with fail
    refine (HK.out _ HB1.out).mono ?_
    rintro e w3 ⟨rfl, hb3⟩
    have HB3 := hide (HB1.out.trans (hb3.mono HB1.out.size))
    clear hb3
    go_wp2_with fail
    refine bodyPost_ret (results_tmp2 rfl _ _ _) rfl ?_
    exact ⟨rfl, HB3.out⟩
def divS (a b : List UInt8) : List UInt8 := if bothQ a b = 0 then (if valQ b = 0 then [] else if cmpC (valQ a) (valQ b) then ratS (valQ a / valQ b) else []) else []
def divE (a b : List UInt8) : Int := if bothQ a b = 0 then (if valQ b = 0 then 12 else if cmpC (valQ a) (valQ b) then 0 else 4) else bothQ a b
theorem ratS_zero : ratS 0 = [48] := by
  have h := ratS_int 0
  rw [itoa_zero] at h
  exact h
theorem zero_text {b : List UInt8} (h : chkQ b = 0) : b = [48] ↔ valQ b = 0 := by
  obtain ⟨e, _⟩ := chkQ_ok h
  constructor
  · intro h1
    refine ratS_inj ?_
    rw [← e, h1]
    exact ratS_zero.symm
  · intro h1
    rw [e, h1]
    exact ratS_zero
theorem num_zero {x : Rat} : x.num = 0 ↔ x = 0 := Rat.num_eq_zero
theorem qDiv_any (s t : ByteArray) (hs : s.size ≤ 1000000) (ht : t.size ≤ 1000000) (B : Nat) (w : World) (hB : B ≤ w.heap.size) (hT : PQ B w) :
    Calls Tryz.prog 251 #[.string s, .string t] w (Ret w (pairV (divS s.data.toList t.data.toList) (divE s.data.toList t.data.toList))) := by
  have HT := hide hT
  have key : ∀ W, Below w.heap.size w W → Calls Tryz.prog 128 #[.string s, .string t, .func (.func 350) #[] #[]] W (Ret W (pairV (divS s.data.toList t.data.toList) (divE s.data.toList t.data.toList))) := by
    intro W hW
    have hBW := Nat.le_trans hB hW.size
    by_cases hb : bothQ s.data.toList t.data.toList = 0
    · obtain ⟨c1, c2⟩ := bothQ_zero hb
      have h4 := four_of c1 c2
      refine qboth_good s t hs ht 350 #[] c1 c2 (enters_of Tryz.func350 (by kernel_rfl) rfl) _ _ B W hBW (HT.out.on hW hB) ?_
      intro W2 hW2
      unfold divS divE
      rw [if_pos hb, if_pos hb]
      by_cases hz : valQ t.data.toList = 0
      · rw [if_pos hz, if_pos hz]
        exact div2_zero (by rw [strB_list, hz]; exact itoa_zero) W2
      · rw [if_neg hz, if_neg hz]
        have h := div2_any h4 (fun e => hz (num_zero.1 e)) (den_i _) B W2 (Nat.le_trans hBW hW2.size) ((HT.out.p10.on hW hB).on hW2 hBW)
        rw [divInt_div] at h
        exact h
    · unfold divS divE
      rw [if_neg hb, if_neg hb]
      exact qboth_bad s t hs ht _ hb B W hBW (HT.out.on hW hB)
  have HK := hide key
  by_cases h0 : t.data.toList = [48]
  · have ht0 : (t.toList != [48]) = false := by rw [ByteArray.toList_eq, h0]; rfl
    have ht1 := (lit_eq (m := [48]) h0).1 rfl
    obtain ⟨X, hX⟩ : ∃ X, X = strB (divS s.data.toList t.data.toList) := ⟨_, rfl⟩
    obtain ⟨E, hE⟩ : ∃ E, E = divE s.data.toList t.data.toList := ⟨_, rfl⟩
    rw [show pairV (divS s.data.toList t.data.toList) (divE s.data.toList t.data.toList) = .tuple #[.string X, .int .i64 E] by rw [hX, hE]] at HK ⊢
    clear key hX hE hT h0
    go_enter Tryz.func251, Tryz.ntmps251
    go_wp2_with fail
    refine (HK.out _ (Below.refl _ _)).mono ?_
    rintro e w3 ⟨rfl, hb3⟩
    have HB3 := hide hb3
    clear hb3
    go_wp2_with fail
    refine bodyPost_ret (results_tmp2 rfl _ _ _) rfl ?_
    exact ⟨rfl, HB3.out⟩
  have ht0 : (t.toList != [48]) = true := by rw [ByteArray.toList_eq]; simpa using h0
  have ht1 := (lit_eq (m := [48]) (s := t) rfl).2 h0
  by_cases hq : natQ s.data.toList ∧ natQ t.data.toList
  · obtain ⟨k1, _, _, _, k5⟩ := quick_nums hq.1 hq.2
    have hb := zero_bothQ hq.1.1 hq.2.1
    have hz : valQ t.data.toList ≠ 0 := fun e => h0 ((zero_text hq.2.1).2 e)
    have hc : cmpC (valQ s.data.toList) (valQ t.data.toList) := cmpC_of (natQ_sz hq.1) (natQ_sz hq.2) (by rw [most_eq]; omega)
    have e1 : divS s.data.toList t.data.toList = ratS (valQ s.data.toList / valQ t.data.toList) := by unfold divS; rw [if_pos hb, if_neg hz, if_pos hc]
    have e2 : divE s.data.toList t.data.toList = 0 := by unfold divE; rw [if_pos hb, if_neg hz, if_pos hc]
    rw [e1, e2]
    have HQ := hide (quick_yes s t hs ht 349 divFn hq.1 hq.2 rfl rfl (by omega) (by omega) (Int.mul_ne_zero (den_i _) (fun e => hz (num_zero.1 e))) B w hB hT.p10)
    rw [Int.mul_comm ((valQ s.data.toList).den : Int), divInt_div] at HQ
    obtain ⟨X, hX⟩ : ∃ X, X = strB (ratS (valQ s.data.toList / valQ t.data.toList)) := ⟨_, rfl⟩
    rw [show pairV (ratS (valQ s.data.toList / valQ t.data.toList)) 0 = .tuple #[.string X, .int .i64 0] by rw [hX]]
    rw [← hX] at HQ
    clear hX e1 e2 hc hb k1 k5 hq hT h0 hz key HK
    go_enter Tryz.func251, Tryz.ntmps251
    go_wp2_with fail
    refine HQ.out.mono ?_
    rintro e w1 ⟨rfl, hb1⟩
    have HB1 := hide hb1
    clear hb1
    go_wp2_with fail
    refine bodyPost_ret (results_tmp2 rfl _ _ _) rfl ?_
    exact ⟨rfl, HB1.out⟩
  · have HQ := hide (quick_no s t hs ht 349 hq w)
    obtain ⟨X, hX⟩ : ∃ X, X = strB (divS s.data.toList t.data.toList) := ⟨_, rfl⟩
    obtain ⟨E, hE⟩ : ∃ E, E = divE s.data.toList t.data.toList := ⟨_, rfl⟩
    rw [show pairV (divS s.data.toList t.data.toList) (divE s.data.toList t.data.toList) = .tuple #[.string X, .int .i64 E] by rw [hX, hE]] at HK ⊢
    clear key hX hE hq hT h0
    go_enter Tryz.func251, Tryz.ntmps251
    go_wp2_with fail
    refine HQ.out.mono ?_
    rintro e w1 ⟨rfl, hb1⟩
    have HB1 := hide hb1
    clear hb1
    go_wp2_with fail
    refine (HK.out _ HB1.out).mono ?_
    rintro e w3 ⟨rfl, hb3⟩
    have HB3 := hide (HB1.out.trans (hb3.mono HB1.out.size))
    clear hb3
    go_wp2_with fail
    refine bodyPost_ret (results_tmp2 rfl _ _ _) rfl ?_
    exact ⟨rfl, HB3.out⟩
open Go.RowKit Go.KP Go.KI Go.Shelf
attribute [local go_sem] Oper.semAt_some

theorem qCheck_any (s : ByteArray) (hs : s.size ≤ 1000000) (B : Nat) (w : World) (hB : B ≤ w.heap.size) (hT : PQ B w) :
    Calls Tryz.prog 224 #[.string s] w (Ret w (.int .i64 (chkQ s.data.toList))) := by
  have H1 := hide (qread_any s hs B w hB hT)
  by_cases h : chkQ s.data.toList = 0
  · rw [readV_good h] at H1
    rw [h]
    obtain ⟨n, hn⟩ : ∃ n, n = strB (Lib.itoa (valQ s.data.toList).num) := ⟨_, rfl⟩
    obtain ⟨d, hd⟩ : ∃ d, d = strB (Lib.itoa ((valQ s.data.toList).den : Int)) := ⟨_, rfl⟩
    rw [← hn, ← hd] at H1
    clear hn hd h
    go_enter Tryz.func224, Tryz.ntmps224
    go_wp2_with fail
    refine H1.out.mono ?_
    rintro e w1 ⟨rfl, hb1⟩
    have HB1 := hide hb1
    clear hb1
    go_wp2_with fail
    go_ret
    exact ⟨rfl, HB1.out.trans ((heap1 w1 _).2.2.mono HB1.out.size)⟩
  · rw [readV_bad h] at H1
    obtain ⟨E, hE⟩ : ∃ E, E = chkQ s.data.toList := ⟨_, rfl⟩
    rw [← hE] at H1 ⊢
    clear h hE
    go_enter Tryz.func224, Tryz.ntmps224
    go_wp2_with fail
    refine H1.out.mono ?_
    rintro e w1 ⟨rfl, hb1⟩
    have HB1 := hide hb1
    clear hb1
    go_wp2_with fail
    go_ret
    exact ⟨rfl, HB1.out.trans ((heap1 w1 _).2.2.mono HB1.out.size)⟩
def partsR (l : List UInt8) : Value := if chkQ l = 0 then tripV (Lib.itoa (valQ l).num) (Lib.itoa ((valQ l).den : Int)) 0 else tripV [] [] (chkQ l)
theorem qParts_any (s : ByteArray) (hs : s.size ≤ 1000000) (B : Nat) (w : World) (hB : B ≤ w.heap.size) (hT : PQ B w) :
    Calls Tryz.prog 225 #[.string s] w (Ret w (partsR s.data.toList)) := by
  have H1 := hide (qread_any s hs B w hB hT)
  have hk : ∃ (n d : ByteArray) (z : Int), readV s.data.toList = .tuple #[partsV n d, .int .i64 z] ∧ partsR s.data.toList = .tuple #[.string n, .string d, .int .i64 z] := by
    by_cases h : chkQ s.data.toList = 0
    · exact ⟨_, _, _, readV_good h, if_pos h⟩
    · exact ⟨_, _, _, readV_bad h, if_neg h⟩
  obtain ⟨n, d, z, e1, e2⟩ := hk
  rw [e1] at H1
  rw [e2]
  clear e1 e2
  go_enter Tryz.func225, Tryz.ntmps225
  go_wp2_with fail
  refine H1.out.mono ?_
  rintro e w1 ⟨rfl, hb1⟩
  have HB1 := hide (hb1.trans ((heap1 w1 (partsO n d)).2.2.mono hb1.size))
  clear hb1
  go_wp2_with fail
  go_quiet (fail)
  go_wp2_with fail
  go_ret3
  exact ⟨rfl, below_drewN HB1.out _⟩
theorem fits_i64 {z : Int} (h0 : -9223372036854775808 ≤ z) (h1 : z ≤ 9223372036854775807) : fits z :=
  fits_small (n := 20) (by rw [most_eq]; omega) (Nat.lt_of_lt_of_le (m := 10000000000000000000) (by omega) (by decide))
theorem qOf_any (n d : Int) (n0 : -9223372036854775808 ≤ n) (n1 : n ≤ 9223372036854775807) (d0 : -9223372036854775808 ≤ d) (d1 : d ≤ 9223372036854775807) (hd : d ≠ 0) (B : Nat) (w : World) (hB : B ≤ w.heap.size) (hT : PQ B w) :
    Calls Tryz.prog 41 #[.int .i64 n, .int .i64 d] w (Ret w (pairV (ratS (Rat.divInt n d)) 0)) := by
  have HT := hide hT.p10
  have HI := hide (fun w hT => itoa_any n n0 n1 B w hT)
  have z0 : (d == 0) = false := by simpa using hd
  by_cases h1 : d = 1
  · subst h1
    have e1 : ratS (Rat.divInt n 1) = Lib.itoa n := by rw [show (1 : Int) = ((1 : Nat) : Int) from rfl, Rat.divInt_ofNat, Rat.mkRat_one, ratS_int]
    rw [e1]
    obtain ⟨X, hX⟩ : ∃ X, X = strB (Lib.itoa n) := ⟨_, rfl⟩
    rw [show pairV (Lib.itoa n) 0 = .tuple #[.string X, .int .i64 0] by rw [hX]]
    rw [← hX] at HI
    clear hX e1 hd hT
    go_enter Tryz.func41, Tryz.ntmps41
    go_wp2_with fail
    refine (HI.out _ HT.out).mono ?_
    rintro e w1 ⟨rfl, hb1⟩
    have HB1 := hide hb1
    clear hb1
    go_wp2_with fail
    refine bodyPost_ret (results_tmp2 rfl _ _ _) rfl ?_
    exact ⟨rfl, HB1.out⟩
  · have z1 : (d == 1) = false := by simpa using h1
    have HI2 := hide (fun w hT => itoa_any d d0 d1 B w hT)
    have HN := hide (fun w hB hT => qnumber_any (s := strB (Lib.itoa n)) (t := strB (Lib.itoa d)) (strB_list _) (strB_list _) (fits_i64 n0 n1) (fits_i64 d0 d1) hd B w hB hT)
    obtain ⟨X, hX⟩ : ∃ X, X = strB (Lib.itoa n) := ⟨_, rfl⟩
    obtain ⟨Y, hY⟩ : ∃ X, X = strB (Lib.itoa d) := ⟨_, rfl⟩
    obtain ⟨Z, hZ⟩ : ∃ X, X = strB (ratS (Rat.divInt n d)) := ⟨_, rfl⟩
    rw [show pairV (ratS (Rat.divInt n d)) 0 = .tuple #[.string Z, .int .i64 0] by rw [hZ]] at HN ⊢
    rw [← hX] at HI HN
    rw [← hY] at HI2 HN
    clear hX hY hZ hd h1 hT
    go_enter Tryz.func41, Tryz.ntmps41
    go_wp2_with fail
    refine (HI.out _ HT.out).mono ?_
    rintro e w1 ⟨rfl, hb1⟩
    have HB1 := hide hb1
    clear hb1
    go_wp2_with fail
    refine (HI2.out _ (HT.out.on HB1.out hB)).mono ?_
    rintro e w2 ⟨rfl, hb2⟩
    have HB2 := hide (HB1.out.trans (hb2.mono HB1.out.size))
    clear hb2
    go_wp2_with fail
    refine (HN.out _ (Nat.le_trans hB HB2.out.size) (HT.out.on HB2.out hB)).mono ?_
    rintro e w3 ⟨rfl, hb3⟩
    have HB3 := hide (HB2.out.trans (hb3.mono HB2.out.size))
    clear hb3
    go_wp2_with fail
    refine bodyPost_ret (results_tmp2 rfl _ _ _) rfl ?_
    exact ⟨rfl, HB3.out⟩
open Go.RowKit Go.KP Go.KI Go.Shelf
attribute [local go_sem] Oper.semAt_some

def cmpI (x y : Rat) : Int := Lib.compareInt (x.num * y.den) (y.num * x.den)
def cmpN (a b : List UInt8) : Int := if bothQ a b = 0 then (if cmpC (valQ a) (valQ b) then cmpI (valQ a) (valQ b) else 0) else 0
def cmpE (a b : List UInt8) : Int := if bothQ a b = 0 then (if cmpC (valQ a) (valQ b) then 0 else 4) else bothQ a b
abbrev cmpV2 (n e : Int) : Value := .tuple #[.int .i64 n, .int .i64 e]
theorem qCompare_any (s t : ByteArray) (hs : s.size ≤ 1000000) (ht : t.size ≤ 1000000) (B : Nat) (w : World) (hB : B ≤ w.heap.size) (hT : PQ B w) :
    Calls Tryz.prog 23 #[.string s, .string t] w (Ret w (cmpV2 (cmpN s.data.toList t.data.toList) (cmpE s.data.toList t.data.toList))) := by
  have HT := hide hT
  have HN1 := hide (nativeOf_any s hs w)
  have HN2 := hide (fun w => nativeOf_any t ht w)
  by_cases hq : natQ s.data.toList ∧ natQ t.data.toList
  · obtain ⟨k1, k2, _, _, _⟩ := quick_nums hq.1 hq.2
    have hb := zero_bothQ hq.1.1 hq.2.1
    have hc : cmpC (valQ s.data.toList) (valQ t.data.toList) := cmpC_of (natQ_sz hq.1) (natQ_sz hq.2) (by rw [most_eq]; omega)
    have e1 : cmpN s.data.toList t.data.toList = cmpI (valQ s.data.toList) (valQ t.data.toList) := by unfold cmpN; rw [if_pos hb, if_pos hc]
    have e2 : cmpE s.data.toList t.data.toList = 0 := by unfold cmpE; rw [if_pos hb, if_pos hc]
    rw [e1, e2]
    rw [natOV_yes hq.1] at HN1
    rw [natOV_yes hq.2] at HN2
    unfold cmpI
    obtain ⟨x, hx⟩ : ∃ x, x = (valQ s.data.toList).num := ⟨_, rfl⟩
    obtain ⟨p, hp⟩ : ∃ y, y = ((valQ s.data.toList).den : Int) := ⟨_, rfl⟩
    obtain ⟨y, hy⟩ : ∃ x, x = (valQ t.data.toList).num := ⟨_, rfl⟩
    obtain ⟨q, hq1⟩ : ∃ y, y = ((valQ t.data.toList).den : Int) := ⟨_, rfl⟩
    rw [← hx, ← hp] at HN1
    rw [← hy, ← hq1] at HN2
    rw [← hx, ← hq1] at k1
    rw [← hy, ← hp] at k2
    rw [← hx, ← hp, ← hy, ← hq1]
    have m1 : IntKind.i64.wrap (x * q) = x * q := IntWalk.i64_in _ (by omega)
    have m2 : IntKind.i64.wrap (y * p) = y * p := IntWalk.i64_in _ (by omega)
    obtain ⟨R, hR⟩ : ∃ R, R = Lib.compareInt (x * q) (y * p) := ⟨_, rfl⟩
    have HC := hide (fun w => Tryz.cmp_Compare_int (x * q) (y * p) w)
    rw [← hR] at HC ⊢
    clear hx hp hy hq1 k1 k2 hb hc e1 e2 hR hq hT
    go_enter Tryz.func23, Tryz.ntmps23
    go_wp2_with fail
    refine HN1.out.mono ?_
    rintro e w1 ⟨rfl, hb1⟩
    have X1 := hide (heap1 w1 (natO x p))
    have HB1 := hide (hb1.trans (X1.out.2.2.mono hb1.size))
    clear hb1
    go_wp2_with fail
    refine (HN2.out _).mono ?_
    rintro e w2 ⟨rfl, hb2⟩
    have G2 := hide (below_blk hb2 X1.out.1 (lt_blk X1.out.1))
    have HB2 := hide (HB1.out.trans (hb2.mono HB1.out.size))
    have X2 := hide (heap1 w2 (natO y q))
    have HB2b := hide (HB2.out.trans (X2.out.2.2.mono HB2.out.size))
    have c0 := cell_blk G2.out 0
    have c1 := cell_blk G2.out 1
    have hl := lt_blk G2.out
    clear hb2
    go_wp2_with fail
    refine (HC.out _).mono ?_
    rintro e w3 ⟨rfl, rfl⟩
    go_wp2_with fail
    refine bodyPost_ret (results_tmp2 rfl _ _ _) rfl ?_
    exact ⟨rfl, HB2b.out⟩
  · -- the parts are read
    have HR1 := hide (fun w hB hT => qread_any s hs B w hB hT)
    have HR2 := hide (fun w hB hT => qread_any t ht B w hB hT)
    have hway : (natQ s.data.toList ∧ ¬ natQ t.data.toList) ∨ ¬ natQ s.data.toList := by
      by_cases h1 : natQ s.data.toList
      · exact .inl ⟨h1, fun e => hq ⟨h1, e⟩⟩
      · exact .inr h1
    have hk : (chkQ s.data.toList ≠ 0 ∧ cmpN s.data.toList t.data.toList = 0 ∧ cmpE s.data.toList t.data.toList = chkQ s.data.toList) ∨
        (chkQ s.data.toList = 0 ∧ chkQ t.data.toList ≠ 0 ∧ cmpN s.data.toList t.data.toList = 0 ∧ cmpE s.data.toList t.data.toList = chkQ t.data.toList) ∨
        (chkQ s.data.toList = 0 ∧ chkQ t.data.toList = 0 ∧ ¬ cmpC (valQ s.data.toList) (valQ t.data.toList) ∧ cmpN s.data.toList t.data.toList = 0 ∧ cmpE s.data.toList t.data.toList = 4) ∨
        (chkQ s.data.toList = 0 ∧ chkQ t.data.toList = 0 ∧ cmpC (valQ s.data.toList) (valQ t.data.toList) ∧ cmpN s.data.toList t.data.toList = cmpI (valQ s.data.toList) (valQ t.data.toList) ∧ cmpE s.data.toList t.data.toList = 0) := by
      unfold cmpN cmpE
      by_cases h1 : chkQ s.data.toList = 0
      · by_cases h2 : chkQ t.data.toList = 0
        · have hb := zero_bothQ h1 h2
          by_cases h3 : cmpC (valQ s.data.toList) (valQ t.data.toList)
          · exact .inr (.inr (.inr ⟨h1, h2, h3, by rw [if_pos hb, if_pos h3], by rw [if_pos hb, if_pos h3]⟩))
          · exact .inr (.inr (.inl ⟨h1, h2, h3, by rw [if_pos hb, if_neg h3], by rw [if_pos hb, if_neg h3]⟩))
        · have hb : bothQ s.data.toList t.data.toList = chkQ t.data.toList := if_pos h1
          exact .inr (.inl ⟨h1, h2, by rw [hb, if_neg h2], by rw [hb, if_neg h2]⟩)
      · have hb : bothQ s.data.toList t.data.toList = chkQ s.data.toList := if_neg h1
        exact .inl ⟨h1, by rw [hb, if_neg h1], by rw [hb, if_neg h1]⟩
    have HY1 := hide (fun (h : natQ s.data.toList) => natOV_yes h)
    have HNN1 := hide (fun (h : ¬ natQ s.data.toList) => natOV_no h)
    have HNN2 := hide (fun (h : ¬ natQ t.data.toList) => natOV_no h)
    rcases hk with ⟨h1, e1, e2⟩ | ⟨h1, h2, e1, e2⟩ | ⟨h1, h2, h3, e1, e2⟩ | ⟨h1, h2, h3, e1, e2⟩
    · rw [e1, e2]
      rw [readV_bad h1] at HR1
      have hne : (chkQ s.data.toList != 0) = true := by simpa using h1
      obtain ⟨E, hE⟩ : ∃ E, E = chkQ s.data.toList := ⟨_, rfl⟩
      rw [← hE] at HR1 hne ⊢
      clear hE h1 e1 e2 hq hT
      rcases hway with ⟨n1, n2⟩ | n1
      · rw [HY1.out n1] at HN1
        rw [HNN2.out n2] at HN2
        clear n1 n2
        obtain ⟨x, hx⟩ : ∃ x, x = (valQ s.data.toList).num := ⟨_, rfl⟩
        obtain ⟨p, hp⟩ : ∃ y, y = ((valQ s.data.toList).den : Int) := ⟨_, rfl⟩
        rw [← hx, ← hp] at HN1
        clear hx hp
        go_enter Tryz.func23, Tryz.ntmps23
        go_wp2_with fail
        refine HN1.out.mono ?_
        rintro e w1 ⟨rfl, hb1⟩
        have HB1 := hide (hb1.trans ((heap1 w1 (natO x p)).2.2.mono hb1.size))
        clear hb1
        go_wp2_with fail
        refine (HN2.out _).mono ?_
        rintro e w2 ⟨rfl, hb2⟩
        have HB2 := hide (HB1.out.trans (hb2.mono HB1.out.size))
        have HB2b := hide (HB2.out.trans ((heap1 w2 (natO 0 0)).2.2.mono HB2.out.size))
        clear hb2
        go_wp2_with fail
        refine (HR1.out _ (Nat.le_trans hB HB2b.out.size) (HT.out.on HB2b.out hB)).mono ?_
        rintro e w3 ⟨rfl, hb3⟩
        have HB3 := hide (HB2b.out.trans (hb3.mono HB2b.out.size))
        clear hb3
        go_wp2_with fail
        refine bodyPost_ret (results_tmp2 rfl _ _ _) rfl ?_
        exact ⟨rfl, HB3.out.trans ((heap1 w3 _).2.2.mono HB3.out.size)⟩
      · rw [HNN1.out n1] at HN1
        clear n1
        go_enter Tryz.func23, Tryz.ntmps23
        go_wp2_with fail
        refine HN1.out.mono ?_
        rintro e w1 ⟨rfl, hb1⟩
        have HB2b := hide (hb1.trans ((heap1 w1 (natO 0 0)).2.2.mono hb1.size))
        clear hb1
        go_wp2_with fail
        refine (HR1.out _ (Nat.le_trans hB HB2b.out.size) (HT.out.on HB2b.out hB)).mono ?_
        rintro e w3 ⟨rfl, hb3⟩
        have HB3 := hide (HB2b.out.trans (hb3.mono HB2b.out.size))
        clear hb3
        go_wp2_with fail
        refine bodyPost_ret (results_tmp2 rfl _ _ _) rfl ?_
        exact ⟨rfl, HB3.out.trans ((heap1 w3 _).2.2.mono HB3.out.size)⟩
    · rw [e1, e2]
      rw [readV_good h1] at HR1
      rw [readV_bad h2] at HR2
      have hne : (chkQ t.data.toList != 0) = true := by simpa using h2
      obtain ⟨E, hE⟩ : ∃ E, E = chkQ t.data.toList := ⟨_, rfl⟩
      rw [← hE] at HR2 hne ⊢
      obtain ⟨n, hn⟩ : ∃ n, n = strB (Lib.itoa (valQ s.data.toList).num) := ⟨_, rfl⟩
      obtain ⟨d, hd⟩ : ∃ d, d = strB (Lib.itoa ((valQ s.data.toList).den : Int)) := ⟨_, rfl⟩
      rw [← hn, ← hd] at HR1
      clear hE h1 h2 e1 e2 hq hT hn hd
      rcases hway with ⟨n1, n2⟩ | n1
      · rw [HY1.out n1] at HN1
        rw [HNN2.out n2] at HN2
        clear n1 n2
        obtain ⟨x, hx⟩ : ∃ x, x = (valQ s.data.toList).num := ⟨_, rfl⟩
        obtain ⟨p, hp⟩ : ∃ y, y = ((valQ s.data.toList).den : Int) := ⟨_, rfl⟩
        rw [← hx, ← hp] at HN1
        clear hx hp
        go_enter Tryz.func23, Tryz.ntmps23
        go_wp2_with fail
        refine HN1.out.mono ?_
        rintro e w1 ⟨rfl, hb1⟩
        have HB1 := hide (hb1.trans ((heap1 w1 (natO x p)).2.2.mono hb1.size))
        clear hb1
        go_wp2_with fail
        refine (HN2.out _).mono ?_
        rintro e w2 ⟨rfl, hb2⟩
        have HB2 := hide (HB1.out.trans (hb2.mono HB1.out.size))
        have HB2b := hide (HB2.out.trans ((heap1 w2 (natO 0 0)).2.2.mono HB2.out.size))
        clear hb2
        go_wp2_with fail
        refine (HR1.out _ (Nat.le_trans hB HB2b.out.size) (HT.out.on HB2b.out hB)).mono ?_
        rintro e w3 ⟨rfl, hb3⟩
        have HB3 := hide (HB2b.out.trans (hb3.mono HB2b.out.size))
        have X3 := hide (heap1 w3 (partsO n d))
        have HB3b := hide (HB3.out.trans (X3.out.2.2.mono HB3.out.size))
        clear hb3
        go_wp2_with fail
        refine (HR2.out _ (Nat.le_trans hB HB3b.out.size) (HT.out.on HB3b.out hB)).mono ?_
        rintro e w4 ⟨rfl, hb4⟩
        have G4 := hide (below_blk hb4 X3.out.1 (lt_blk X3.out.1))
        have HB4 := hide (HB3b.out.trans (hb4.mono HB3b.out.size))
        clear hb4
        go_wp2_with fail
        refine bodyPost_ret (results_tmp2 rfl _ _ _) rfl ?_
        exact ⟨rfl, HB4.out.trans ((heap1 w4 _).2.2.mono HB4.out.size)⟩
      · rw [HNN1.out n1] at HN1
        clear n1
        go_enter Tryz.func23, Tryz.ntmps23
        go_wp2_with fail
        refine HN1.out.mono ?_
        rintro e w1 ⟨rfl, hb1⟩
        have HB2b := hide (hb1.trans ((heap1 w1 (natO 0 0)).2.2.mono hb1.size))
        clear hb1
        go_wp2_with fail
        refine (HR1.out _ (Nat.le_trans hB HB2b.out.size) (HT.out.on HB2b.out hB)).mono ?_
        rintro e w3 ⟨rfl, hb3⟩
        have HB3 := hide (HB2b.out.trans (hb3.mono HB2b.out.size))
        have X3 := hide (heap1 w3 (partsO n d))
        have HB3b := hide (HB3.out.trans (X3.out.2.2.mono HB3.out.size))
        clear hb3
        go_wp2_with fail
        refine (HR2.out _ (Nat.le_trans hB HB3b.out.size) (HT.out.on HB3b.out hB)).mono ?_
        rintro e w4 ⟨rfl, hb4⟩
        have G4 := hide (below_blk hb4 X3.out.1 (lt_blk X3.out.1))
        have HB4 := hide (HB3b.out.trans (hb4.mono HB3b.out.size))
        clear hb4
        go_wp2_with fail
        refine bodyPost_ret (results_tmp2 rfl _ _ _) rfl ?_
        exact ⟨rfl, HB4.out.trans ((heap1 w4 _).2.2.mono HB4.out.size)⟩
    · rw [e1, e2]
      rw [readV_good h1] at HR1
      rw [readV_good h2] at HR2
      have HC := hide (fun w hB hT => crossed_no (four_of h1 h2) h3 B w hB hT)
      obtain ⟨n, hn⟩ : ∃ n, n = strB (Lib.itoa (valQ s.data.toList).num) := ⟨_, rfl⟩
      obtain ⟨d, hd⟩ : ∃ d, d = strB (Lib.itoa ((valQ s.data.toList).den : Int)) := ⟨_, rfl⟩
      obtain ⟨m, hm⟩ : ∃ n, n = strB (Lib.itoa (valQ t.data.toList).num) := ⟨_, rfl⟩
      obtain ⟨c, hc⟩ : ∃ d, d = strB (Lib.itoa ((valQ t.data.toList).den : Int)) := ⟨_, rfl⟩
      rw [← hn, ← hd] at HR1 HC
      rw [← hm, ← hc] at HR2 HC
      clear h1 h2 h3 e1 e2 hq hT hn hd hm hc
      rcases hway with ⟨n1, n2⟩ | n1
      · rw [HY1.out n1] at HN1
        rw [HNN2.out n2] at HN2
        clear n1 n2
        obtain ⟨x, hx⟩ : ∃ x, x = (valQ s.data.toList).num := ⟨_, rfl⟩
        obtain ⟨p, hp⟩ : ∃ y, y = ((valQ s.data.toList).den : Int) := ⟨_, rfl⟩
        rw [← hx, ← hp] at HN1
        clear hx hp
        go_enter Tryz.func23, Tryz.ntmps23
        go_wp2_with fail
        refine HN1.out.mono ?_
        rintro e w1 ⟨rfl, hb1⟩
        have HB1 := hide (hb1.trans ((heap1 w1 (natO x p)).2.2.mono hb1.size))
        clear hb1
        go_wp2_with fail
        refine (HN2.out _).mono ?_
        rintro e w2 ⟨rfl, hb2⟩
        have HB2 := hide (HB1.out.trans (hb2.mono HB1.out.size))
        have HB2b := hide (HB2.out.trans ((heap1 w2 (natO 0 0)).2.2.mono HB2.out.size))
        clear hb2
        go_wp2_with fail
        refine (HR1.out _ (Nat.le_trans hB HB2b.out.size) (HT.out.on HB2b.out hB)).mono ?_
        rintro e w3 ⟨rfl, hb3⟩
        have HB3 := hide (HB2b.out.trans (hb3.mono HB2b.out.size))
        have X3 := hide (heap1 w3 (partsO n d))
        have HB3b := hide (HB3.out.trans (X3.out.2.2.mono HB3.out.size))
        clear hb3
        go_wp2_with fail
        refine (HR2.out _ (Nat.le_trans hB HB3b.out.size) (HT.out.on HB3b.out hB)).mono ?_
        rintro e w4 ⟨rfl, hb4⟩
        have G4 := hide (below_blk hb4 X3.out.1 (lt_blk X3.out.1))
        have HB4 := hide (HB3b.out.trans (hb4.mono HB3b.out.size))
        clear hb4
        have X4 := hide (heap1 w4 (partsO m c))
        have HB4b := hide (HB4.out.trans (X4.out.2.2.mono HB4.out.size))
        have c0 := cell_blk G4.out 0
        have c1 := cell_blk G4.out 1
        have hl := lt_blk G4.out
        go_wp2_with fail
        refine (HC.out _ (Nat.le_trans hB HB4b.out.size) (HT.out.p10.on HB4b.out hB)).mono ?_
        rintro e w5 ⟨u, v, rfl, hb5⟩
        have HB5 := hide (HB4b.out.trans (hb5.mono HB4b.out.size))
        clear hb5
        go_wp2_with fail
        refine bodyPost_ret (results_tmp2 rfl _ _ _) rfl ?_
        exact ⟨rfl, HB5.out⟩
      · rw [HNN1.out n1] at HN1
        clear n1
        go_enter Tryz.func23, Tryz.ntmps23
        go_wp2_with fail
        refine HN1.out.mono ?_
        rintro e w1 ⟨rfl, hb1⟩
        have HB2b := hide (hb1.trans ((heap1 w1 (natO 0 0)).2.2.mono hb1.size))
        clear hb1
        go_wp2_with fail
        refine (HR1.out _ (Nat.le_trans hB HB2b.out.size) (HT.out.on HB2b.out hB)).mono ?_
        rintro e w3 ⟨rfl, hb3⟩
        have HB3 := hide (HB2b.out.trans (hb3.mono HB2b.out.size))
        have X3 := hide (heap1 w3 (partsO n d))
        have HB3b := hide (HB3.out.trans (X3.out.2.2.mono HB3.out.size))
        clear hb3
        go_wp2_with fail
        refine (HR2.out _ (Nat.le_trans hB HB3b.out.size) (HT.out.on HB3b.out hB)).mono ?_
        rintro e w4 ⟨rfl, hb4⟩
        have G4 := hide (below_blk hb4 X3.out.1 (lt_blk X3.out.1))
        have HB4 := hide (HB3b.out.trans (hb4.mono HB3b.out.size))
        clear hb4
        have X4 := hide (heap1 w4 (partsO m c))
        have HB4b := hide (HB4.out.trans (X4.out.2.2.mono HB4.out.size))
        have c0 := cell_blk G4.out 0
        have c1 := cell_blk G4.out 1
        have hl := lt_blk G4.out
        go_wp2_with fail
        refine (HC.out _ (Nat.le_trans hB HB4b.out.size) (HT.out.p10.on HB4b.out hB)).mono ?_
        rintro e w5 ⟨u, v, rfl, hb5⟩
        have HB5 := hide (HB4b.out.trans (hb5.mono HB4b.out.size))
        clear hb5
        go_wp2_with fail
        refine bodyPost_ret (results_tmp2 rfl _ _ _) rfl ?_
        exact ⟨rfl, HB5.out⟩
    · rw [e1, e2]
      rw [readV_good h1] at HR1
      rw [readV_good h2] at HR2
      have HC := hide (fun w hB hT => crossed_yes (four_of h1 h2) h3.1 h3.2 B w hB hT)
      unfold cmpI
      have HI := hide (fun w => Compare_good (s := strB (Lib.itoa ((valQ s.data.toList).num * ((valQ t.data.toList).den : Int)))) (t := strB (Lib.itoa ((valQ t.data.toList).num * ((valQ s.data.toList).den : Int)))) (strB_list _) (strB_list _) h3.1 h3.2 w)
      obtain ⟨n, hn⟩ : ∃ n, n = strB (Lib.itoa (valQ s.data.toList).num) := ⟨_, rfl⟩
      obtain ⟨d, hd⟩ : ∃ d, d = strB (Lib.itoa ((valQ s.data.toList).den : Int)) := ⟨_, rfl⟩
      obtain ⟨m, hm⟩ : ∃ n, n = strB (Lib.itoa (valQ t.data.toList).num) := ⟨_, rfl⟩
      obtain ⟨c, hc⟩ : ∃ d, d = strB (Lib.itoa ((valQ t.data.toList).den : Int)) := ⟨_, rfl⟩
      rw [← hn, ← hd] at HR1 HC
      rw [← hm, ← hc] at HR2 HC
      obtain ⟨U, hU⟩ : ∃ n, n = strB (Lib.itoa ((valQ s.data.toList).num * ((valQ t.data.toList).den : Int))) := ⟨_, rfl⟩
      obtain ⟨V, hV⟩ : ∃ n, n = strB (Lib.itoa ((valQ t.data.toList).num * ((valQ s.data.toList).den : Int))) := ⟨_, rfl⟩
      rw [← hU, ← hV] at HC HI
      obtain ⟨K, hK⟩ : ∃ K, K = Lib.compareInt ((valQ s.data.toList).num * ((valQ t.data.toList).den : Int)) ((valQ t.data.toList).num * ((valQ s.data.toList).den : Int)) := ⟨_, rfl⟩
      rw [← hK] at HI ⊢
      clear h1 h2 h3 e1 e2 hq hT hn hd hm hc hU hV hK
      rcases hway with ⟨n1, n2⟩ | n1
      · rw [HY1.out n1] at HN1
        rw [HNN2.out n2] at HN2
        clear n1 n2
        obtain ⟨x, hx⟩ : ∃ x, x = (valQ s.data.toList).num := ⟨_, rfl⟩
        obtain ⟨p, hp⟩ : ∃ y, y = ((valQ s.data.toList).den : Int) := ⟨_, rfl⟩
        rw [← hx, ← hp] at HN1
        clear hx hp
        go_enter Tryz.func23, Tryz.ntmps23
        go_wp2_with fail
        refine HN1.out.mono ?_
        rintro e w1 ⟨rfl, hb1⟩
        have HB1 := hide (hb1.trans ((heap1 w1 (natO x p)).2.2.mono hb1.size))
        clear hb1
        go_wp2_with fail
        refine (HN2.out _).mono ?_
        rintro e w2 ⟨rfl, hb2⟩
        have HB2 := hide (HB1.out.trans (hb2.mono HB1.out.size))
        have HB2b := hide (HB2.out.trans ((heap1 w2 (natO 0 0)).2.2.mono HB2.out.size))
        clear hb2
        go_wp2_with fail
        refine (HR1.out _ (Nat.le_trans hB HB2b.out.size) (HT.out.on HB2b.out hB)).mono ?_
        rintro e w3 ⟨rfl, hb3⟩
        have HB3 := hide (HB2b.out.trans (hb3.mono HB2b.out.size))
        have X3 := hide (heap1 w3 (partsO n d))
        have HB3b := hide (HB3.out.trans (X3.out.2.2.mono HB3.out.size))
        clear hb3
        go_wp2_with fail
        refine (HR2.out _ (Nat.le_trans hB HB3b.out.size) (HT.out.on HB3b.out hB)).mono ?_
        rintro e w4 ⟨rfl, hb4⟩
        have G4 := hide (below_blk hb4 X3.out.1 (lt_blk X3.out.1))
        have HB4 := hide (HB3b.out.trans (hb4.mono HB3b.out.size))
        clear hb4
        have X4 := hide (heap1 w4 (partsO m c))
        have HB4b := hide (HB4.out.trans (X4.out.2.2.mono HB4.out.size))
        have c0 := cell_blk G4.out 0
        have c1 := cell_blk G4.out 1
        have hl := lt_blk G4.out
        go_wp2_with fail
        refine (HC.out _ (Nat.le_trans hB HB4b.out.size) (HT.out.p10.on HB4b.out hB)).mono ?_
        rintro e w5 ⟨rfl, hb5⟩
        have HB5 := hide (HB4b.out.trans (hb5.mono HB4b.out.size))
        clear hb5
        go_wp2_with fail
        refine (HI.out _).mono ?_
        rintro e w6 ⟨rfl, hb6⟩
        have HB6 := hide (HB5.out.trans (hb6.mono HB5.out.size))
        clear hb6
        go_wp2_with fail
        refine bodyPost_ret (results_tmp2 rfl _ _ _) rfl ?_
        exact ⟨rfl, HB6.out⟩
      · rw [HNN1.out n1] at HN1
        clear n1
        go_enter Tryz.func23, Tryz.ntmps23
        go_wp2_with fail
        refine HN1.out.mono ?_
        rintro e w1 ⟨rfl, hb1⟩
        have HB2b := hide (hb1.trans ((heap1 w1 (natO 0 0)).2.2.mono hb1.size))
        clear hb1
        go_wp2_with fail
        refine (HR1.out _ (Nat.le_trans hB HB2b.out.size) (HT.out.on HB2b.out hB)).mono ?_
        rintro e w3 ⟨rfl, hb3⟩
        have HB3 := hide (HB2b.out.trans (hb3.mono HB2b.out.size))
        have X3 := hide (heap1 w3 (partsO n d))
        have HB3b := hide (HB3.out.trans (X3.out.2.2.mono HB3.out.size))
        clear hb3
        go_wp2_with fail
        refine (HR2.out _ (Nat.le_trans hB HB3b.out.size) (HT.out.on HB3b.out hB)).mono ?_
        rintro e w4 ⟨rfl, hb4⟩
        have G4 := hide (below_blk hb4 X3.out.1 (lt_blk X3.out.1))
        have HB4 := hide (HB3b.out.trans (hb4.mono HB3b.out.size))
        clear hb4
        have X4 := hide (heap1 w4 (partsO m c))
        have HB4b := hide (HB4.out.trans (X4.out.2.2.mono HB4.out.size))
        have c0 := cell_blk G4.out 0
        have c1 := cell_blk G4.out 1
        have hl := lt_blk G4.out
        go_wp2_with fail
        refine (HC.out _ (Nat.le_trans hB HB4b.out.size) (HT.out.p10.on HB4b.out hB)).mono ?_
        rintro e w5 ⟨rfl, hb5⟩
        have HB5 := hide (HB4b.out.trans (hb5.mono HB4b.out.size))
        clear hb5
        go_wp2_with fail
        refine (HI.out _).mono ?_
        rintro e w6 ⟨rfl, hb6⟩
        have HB6 := hide (HB5.out.trans (hb6.mono HB5.out.size))
        clear hb6
        go_wp2_with fail
        refine bodyPost_ret (results_tmp2 rfl _ _ _) rfl ?_
        exact ⟨rfl, HB6.out⟩
open Go.RowKit Go.KP Go.KI Go.Shelf

theorem ratS_len {x : Rat} (h : fitsQ x) : (ratS x).length ≤ 1000 := by
  have h1 := itoa_len x.num
  have h2 := fits_len.1 h.1
  have h3 := fits_nat.1 h.2
  unfold ratS
  split
  · omega
  · rw [List.length_append, List.length_cons]
    omega
theorem good_len {s : ByteArray} {x : Rat} (h : s.data.toList = ratS x) (f : fitsQ x) : s.size ≤ 1000000 := by
  have := ratS_len f
  rw [← bytes_len, h]
  omega
theorem good_val {s : ByteArray} {x : Rat} (h : s.data.toList = ratS x) (f : fitsQ x) : chkQ s.data.toList = 0 ∧ valQ s.data.toList = x := by
  rw [h, ratS_num]
  exact ⟨chkQ_fits f, rfl⟩
theorem qadd_to {s t : ByteArray} {x y : Rat} (h1 : s.data.toList = ratS x) (h2 : t.data.toList = ratS y) (f1 : fitsQ x) (f2 : fitsQ y) (hc : addC x y) (B : Nat) (w : World) (hB : B ≤ w.heap.size) (hT : PQ B w) :
    Calls Tryz.prog 45 #[.string s, .string t] w (Ret w (.tuple #[.string (strB (ratS (x + y))), .int .i64 0])) := by
  obtain ⟨a1, a2⟩ := good_val h1 f1
  obtain ⟨b1, b2⟩ := good_val h2 f2
  have h := qAdd_any s t (good_len h1 f1) (good_len h2 f2) B w hB hT
  unfold qopS qopE at h
  rw [if_pos (zero_bothQ a1 b1), if_pos (zero_bothQ a1 b1), a2, b2, if_pos hc, if_pos hc] at h
  exact h
theorem qsub_to {s t : ByteArray} {x y : Rat} (h1 : s.data.toList = ratS x) (h2 : t.data.toList = ratS y) (f1 : fitsQ x) (f2 : fitsQ y) (hc : subC x y) (B : Nat) (w : World) (hB : B ≤ w.heap.size) (hT : PQ B w) :
    Calls Tryz.prog 89 #[.string s, .string t] w (Ret w (.tuple #[.string (strB (ratS (x - y))), .int .i64 0])) := by
  obtain ⟨a1, a2⟩ := good_val h1 f1
  obtain ⟨b1, b2⟩ := good_val h2 f2
  have h := qSub_any s t (good_len h1 f1) (good_len h2 f2) B w hB hT
  unfold qopS qopE at h
  rw [if_pos (zero_bothQ a1 b1), if_pos (zero_bothQ a1 b1), a2, b2, if_pos hc, if_pos hc] at h
  exact h
theorem qmul_to {s t : ByteArray} {x y : Rat} (h1 : s.data.toList = ratS x) (h2 : t.data.toList = ratS y) (f1 : fitsQ x) (f2 : fitsQ y) (hc : mulC x y) (B : Nat) (w : World) (hB : B ≤ w.heap.size) (hT : PQ B w) :
    Calls Tryz.prog 42 #[.string s, .string t] w (Ret w (.tuple #[.string (strB (ratS (x * y))), .int .i64 0])) := by
  obtain ⟨a1, a2⟩ := good_val h1 f1
  obtain ⟨b1, b2⟩ := good_val h2 f2
  have h := qMul_any s t (good_len h1 f1) (good_len h2 f2) B w hB hT
  unfold qopS qopE at h
  rw [if_pos (zero_bothQ a1 b1), if_pos (zero_bothQ a1 b1), a2, b2, if_pos hc, if_pos hc] at h
  exact h
theorem qdiv_to {s t : ByteArray} {x y : Rat} (h1 : s.data.toList = ratS x) (h2 : t.data.toList = ratS y) (f1 : fitsQ x) (f2 : fitsQ y) (hy : y ≠ 0) (hc : cmpC x y) (B : Nat) (w : World) (hB : B ≤ w.heap.size) (hT : PQ B w) :
    Calls Tryz.prog 251 #[.string s, .string t] w (Ret w (.tuple #[.string (strB (ratS (x / y))), .int .i64 0])) := by
  obtain ⟨a1, a2⟩ := good_val h1 f1
  obtain ⟨b1, b2⟩ := good_val h2 f2
  have h := qDiv_any s t (good_len h1 f1) (good_len h2 f2) B w hB hT
  unfold divS divE at h
  rw [if_pos (zero_bothQ a1 b1), if_pos (zero_bothQ a1 b1), a2, b2, if_neg hy, if_neg hy, if_pos hc, if_pos hc] at h
  exact h
theorem qcmp_to {s t : ByteArray} {x y : Rat} (h1 : s.data.toList = ratS x) (h2 : t.data.toList = ratS y) (f1 : fitsQ x) (f2 : fitsQ y) (hc : cmpC x y) (B : Nat) (w : World) (hB : B ≤ w.heap.size) (hT : PQ B w) :
    Calls Tryz.prog 23 #[.string s, .string t] w (Ret w (.tuple #[.int .i64 (if x < y then -1 else if y < x then 1 else 0), .int .i64 0])) := by
  obtain ⟨a1, a2⟩ := good_val h1 f1
  obtain ⟨b1, b2⟩ := good_val h2 f2
  have h := qCompare_any s t (good_len h1 f1) (good_len h2 f2) B w hB hT
  unfold cmpN cmpE cmpI at h
  rw [if_pos (zero_bothQ a1 b1), if_pos (zero_bothQ a1 b1), a2, b2, if_pos hc, if_pos hc, cmpQ] at h
  exact h
end Go.Proofs.YtpmnhipffkhcpaaGreatDoor
namespace Go.KI
open Go

structure V3 where
  x : Rat
  y : Rat
  z : Rat
theorem V3.ext {a b : V3} (h1 : a.x = b.x) (h2 : a.y = b.y) (h3 : a.z = b.z) : a = b := by
  cases a
  cases b
  cases h1
  cases h2
  cases h3
  rfl
theorem V3.eq_iff {a b : V3} : a = b ↔ (a.x = b.x ∧ a.y = b.y ∧ a.z = b.z) := ⟨fun h => by rw [h]; exact ⟨rfl, rfl, rfl⟩, fun h => V3.ext h.1 h.2.1 h.2.2⟩
instance : DecidableEq V3 := fun _ _ => decidable_of_iff _ V3.eq_iff.symm
theorem divInt_fits {n d : Int} (hd : 0 < d) (fn : fits n) (fd : fits d) : fitsQ (Rat.divInt n d) := by
  obtain ⟨h1, h2⟩ := divInt_parts n hd
  refine ⟨?_, ?_⟩
  · rw [h1]
    exact fits_of_le fn (Int.natAbs_ediv_le_natAbs _ _)
  · rw [h2]
    exact fits_of_le fd (Int.natAbs_ediv_le_natAbs _ _)
theorem mulC_fits {x y : Rat} (h : mulC x y) : fitsQ (x * y) := by
  rw [← divInt_mul]
  exact divInt_fits (dens_pos x y) h.1 h.2
def cmpR (x y : Rat) : Int := if x < y then -1 else if y < x then 1 else 0
end Go.KI
namespace Go.Proofs.YtpmnhipffkhcpaaGreatDoor
open Go.RowKit Go.KP Go.KI Go.Shelf
attribute [local go_sem] Oper.semAt_some

def T (q : Rat) : ByteArray := strB (ratS q)
theorem T_list (q : Rat) : (T q).data.toList = ratS q := strB_list _
theorem T_of {s : ByteArray} {q : Rat} (h : s.data.toList = ratS q) : s = T q := bytes_eq (by rw [h, T_list])
theorem T_size {q : Rat} (h : fitsQ q) : (T q).size ≤ 1000 := by
  rw [← bytes_len, T_list]
  exact ratS_len h
theorem T0 : T 0 = ⟨#[48]⟩ := by
  apply bytes_eq
  rw [T_list, show (0 : Rat) = ((0 : Int) : Rat) from rfl, ratS_int]
  show Lib.itoa ((0 : Nat) : Int) = _
  rw [Lib.itoa_nonneg, dec_zero]
def ResO (w : World) (o : Option Rat) (e : Ending) (w' : World) : Prop := (∃ v, o = some v ∧ Ret w (.tuple #[.string (T v), .int .i64 0]) e w') ∨ (o = none ∧ Ret w (.tuple #[.string ⟨#[]⟩, .int .i64 4]) e w')
theorem ResO.of {w : World} {o : Option Rat} {x : Rat} (h : o = some x) {e : Ending} {w' : World} (hr : ResO w o e w') : Ret w (.tuple #[.string (T x), .int .i64 0]) e w' := by
  rcases hr with ⟨v, h1, h2⟩ | ⟨h1, _⟩
  · rw [h] at h1
    cases h1
    exact h2
  · rw [h] at h1
    cases h1
structure BinFn (g : Nat) (F : Rat → Rat → Option Rat) : Prop where
  enters : ∀ args w, (callFunc g args).run Tryz.prog w = .ok (.enter g args) w
  calls : ∀ (x y : Rat) (B : Nat) (w : World), fitsQ x → fitsQ y → B ≤ w.heap.size → PQ B w → Calls Tryz.prog g #[.string (T x), .string (T y)] w (ResO w (F x y))
theorem T_good {x : Rat} (f : fitsQ x) : (T x).size ≤ 1000000 ∧ chkQ (T x).data.toList = 0 ∧ valQ (T x).data.toList = x := by
  have := T_size f
  rw [T_list, ratS_num]
  exact ⟨by omega, chkQ_fits f, rfl⟩
theorem qchk_T {x : Rat} (hx : fitsQ x) (B : Nat) (w : World) (hB : B ≤ w.heap.size) (hT : PQ B w) :
    Calls Tryz.prog 224 #[.string (T x)] w (Ret w (.int .i64 0)) := by
  have h := qCheck_any _ (T_good hx).1 B w hB hT
  rw [(T_good hx).2.1] at h
  exact h
theorem qcmp_T {x y : Rat} (hx : fitsQ x) (hy : fitsQ y) (hc : cmpC x y) (B : Nat) (w : World) (hB : B ≤ w.heap.size) (hT : PQ B w) :
    Calls Tryz.prog 23 #[.string (T x), .string (T y)] w (Ret w (.tuple #[.int .i64 (cmpR x y), .int .i64 0])) :=
  qcmp_to (T_list x) (T_list y) hx hy hc B w hB hT
end Go.Proofs.YtpmnhipffkhcpaaGreatDoor
namespace Go.KI
open Go

theorem mul_den (x : Rat) : x * (x.den : Rat) = (x.num : Rat) := by
  have h := Rat.num_divInt_den x
  rw [Rat.divInt_eq_div, Rat.intCast_natCast] at h
  have hd : (x.den : Rat) ≠ 0 := by
    rw [Ne, Rat.natCast_eq_zero_iff]
    exact x.den_nz
  have h2 : (x.num : Rat) / (x.den : Rat) * (x.den : Rat) = (x.num : Rat) := by
    rw [Rat.div_def, Rat.mul_assoc, Rat.inv_mul_cancel _ hd, Rat.mul_one]
  rwa [h] at h2
def Gr (D B : Nat) (x : Rat) : Prop := ∃ k : Int, x * (D : Rat) = (k : Rat) ∧ k.natAbs ≤ B
theorem gr_mono {D B C : Nat} {x : Rat} (h : Gr D B x) (hb : B ≤ C) : Gr D C x := by
  obtain ⟨k, h1, h2⟩ := h
  exact ⟨k, h1, Nat.le_trans h2 hb⟩
theorem gr_zero (D B : Nat) : Gr D B 0 := ⟨0, by grind, by simp⟩
theorem gr_neg {D B : Nat} {x : Rat} (h : Gr D B x) : Gr D B (-x) := by
  obtain ⟨k, h1, h2⟩ := h
  refine ⟨-k, ?_, by omega⟩
  rw [Rat.intCast_neg, ← h1]
  grind
theorem gr_add {D B C : Nat} {x y : Rat} (h : Gr D B x) (g : Gr D C y) : Gr D (B + C) (x + y) := by
  obtain ⟨k, h1, h2⟩ := h
  obtain ⟨m, g1, g2⟩ := g
  refine ⟨k + m, ?_, by omega⟩
  rw [Rat.intCast_add, ← h1, ← g1]
  grind
theorem gr_sub {D B C : Nat} {x y : Rat} (h : Gr D B x) (g : Gr D C y) : Gr D (B + C) (x - y) := by
  have := gr_add h (gr_neg g)
  rwa [← Rat.sub_eq_add_neg] at this
theorem gr_mul {D E B C : Nat} {x y : Rat} (h : Gr D B x) (g : Gr E C y) : Gr (D * E) (B * C) (x * y) := by
  obtain ⟨k, h1, h2⟩ := h
  obtain ⟨m, g1, g2⟩ := g
  refine ⟨k * m, ?_, ?_⟩
  · rw [Rat.intCast_mul, ← h1, ← g1, Rat.natCast_mul]
    grind
  · rw [Int.natAbs_mul]
    exact Nat.mul_le_mul h2 g2
theorem gr_scale {D B : Nat} {x : Rat} (m : Nat) (h : Gr D B x) : Gr (D * m) (B * m) x := by
  obtain ⟨k, h1, h2⟩ := h
  refine ⟨k * (m : Int), ?_, ?_⟩
  · rw [Rat.intCast_mul, ← h1, Rat.natCast_mul, Rat.intCast_natCast]
    grind
  · rw [Int.natAbs_mul, Int.natAbs_natCast]
    exact Nat.mul_le_mul_right _ h2
theorem gr_parts {D B : Nat} {x : Rat} (hD : 0 < D) (h : Gr D B x) : x.num.natAbs ≤ B ∧ x.den ∣ D := by
  obtain ⟨k, h1, h2⟩ := h
  have key : x.num * (D : Int) = k * (x.den : Int) := by
    have hd : (x.den : Rat) ≠ 0 := by
      rw [Ne, Rat.natCast_eq_zero_iff]
      exact x.den_nz
    have e1 : x * (x.den : Rat) = (x.num : Rat) := mul_den x
    have e2 : ((x.num * (D : Int) : Int) : Rat) = ((k * (x.den : Int) : Int) : Rat) := by
      rw [Rat.intCast_mul, Rat.intCast_mul, ← e1, ← h1, Rat.intCast_natCast, Rat.intCast_natCast]
      grind
    exact Rat.intCast_inj.1 e2
  have hn : x.num.natAbs * D = k.natAbs * x.den := by
    have := congrArg Int.natAbs key
    rwa [Int.natAbs_mul, Int.natAbs_mul, Int.natAbs_natCast, Int.natAbs_natCast] at this
  have hdv : x.den ∣ D := by
    refine Nat.Coprime.dvd_of_dvd_mul_left (m := x.num.natAbs) ?_ ⟨k.natAbs, by rw [hn, Nat.mul_comm]⟩
    exact Nat.Coprime.symm x.reduced
  refine ⟨?_, hdv⟩
  obtain ⟨c, hc⟩ := hdv
  have hd := x.den_pos
  have hc1 : 1 ≤ c := Nat.pos_of_ne_zero fun e => by rw [e] at hc; omega
  have : x.num.natAbs * c = k.natAbs := by
    refine Nat.eq_of_mul_eq_mul_right hd ?_
    rw [← hn, hc, Nat.mul_assoc, Nat.mul_comm c]
  have h3 : x.num.natAbs * 1 ≤ x.num.natAbs * c := Nat.mul_le_mul_left _ hc1
  omega
theorem gr_sz {D B p : Nat} {x : Rat} (hD : 0 < D) (h : Gr D B x) (hB : B < 10 ^ p) (hp : D < 10 ^ p) : sz p x := by
  obtain ⟨h1, h2⟩ := gr_parts hD h
  exact ⟨Nat.lt_of_le_of_lt h1 hB, Nat.lt_of_le_of_lt (Nat.le_of_dvd hD h2) hp⟩
theorem gr_div {D E B C : Nat} {y : Rat} (hE : 0 < E) (g : Gr E C y) (hy : y ≠ 0) :
    ∃ k : Nat, 1 ≤ k ∧ k ≤ C ∧ ∀ x, Gr D B x → Gr (D * k) (B * E) (x / y) := by
  obtain ⟨m, g1, g2⟩ := g
  have hE0 : (E : Rat) ≠ 0 := by
    rw [Ne, Rat.natCast_eq_zero_iff]
    omega
  have hm : m ≠ 0 := by
    intro e
    rw [e, Rat.intCast_zero] at g1
    rcases Rat.mul_eq_zero.1 g1 with h | h
    · exact hy h
    · exact hE0 h
  refine ⟨m.natAbs, by omega, g2, fun x hx => ?_⟩
  obtain ⟨k, h1, h2⟩ := hx
  refine ⟨k * (E : Int) * m.sign, ?_, ?_⟩
  · have hm2 : ((m.natAbs : Nat) : Rat) = (m : Rat) * (m.sign : Rat) := by
      rw [← Rat.intCast_mul, ← Rat.intCast_natCast, Int.mul_sign_self]
    rw [Rat.natCast_mul, hm2, Rat.intCast_mul, Rat.intCast_mul, ← h1, ← g1, Rat.intCast_natCast, Rat.div_def]
    have : y * y⁻¹ = 1 := Rat.mul_inv_cancel y hy
    grind
  · rw [Int.natAbs_mul, Int.natAbs_mul, Int.natAbs_natCast, Int.natAbs_sign, if_neg hm, Nat.mul_one]
    exact Nat.mul_le_mul_right _ h2
theorem gr_of {D N : Nat} {x : Rat} (hd : x.den ∣ D) (hn : x.num.natAbs ≤ N) : Gr D (N * D) x := by
  obtain ⟨c, hc⟩ := hd
  refine ⟨x.num * (c : Int), ?_, ?_⟩
  · rw [hc, Rat.natCast_mul, Rat.intCast_mul, Rat.intCast_natCast, ← Rat.mul_assoc, mul_den]
  · rw [Int.natAbs_mul, Int.natAbs_natCast]
    have h1 : c ≤ D := by
      rw [hc]
      exact Nat.le_mul_of_pos_left _ x.den_pos
    exact Nat.mul_le_mul hn h1
theorem small_den : ∀ d : Nat, 1 ≤ d → d ≤ 12 → d ∣ 27720 := by
  intro d h1 h2
  have : d = 1 ∨ d = 2 ∨ d = 3 ∨ d = 4 ∨ d = 5 ∨ d = 6 ∨ d = 7 ∨ d = 8 ∨ d = 9 ∨ d = 10 ∨ d = 11 ∨ d = 12 := by omega
  rcases this with h | h | h | h | h | h | h | h | h | h | h | h <;> rw [h] <;> decide
open Go

def sumL {α : Type} (f : α → Rat) : List α → Rat
  | [] => 0
  | a :: r => f a + sumL f r
theorem sumL_snoc {α : Type} (f : α → Rat) (l : List α) (a : α) : sumL f (l ++ [a]) = sumL f l + f a := by
  induction l with
  | nil => simp only [List.nil_append, sumL]; grind
  | cons x r ih =>
    show f x + sumL f (r ++ [a]) = f x + sumL f r + f a
    rw [ih]
    grind
theorem sumL_congr {α : Type} {f g : α → Rat} {l : List α} (h : ∀ a ∈ l, f a = g a) : sumL f l = sumL g l := by
  induction l with
  | nil => rfl
  | cons x r ih =>
    show f x + sumL f r = g x + sumL g r
    rw [h x (by simp), ih fun a ha => h a (by simp [ha])]
theorem sumL_add {α : Type} (f g : α → Rat) (l : List α) : sumL (fun a => f a + g a) l = sumL f l + sumL g l := by
  induction l with
  | nil => simp only [sumL]; grind
  | cons x r ih =>
    show f x + g x + sumL _ r = f x + sumL f r + (g x + sumL g r)
    rw [ih]
    grind
theorem sumL_mul {α : Type} (f : α → Rat) (c : Rat) (l : List α) : sumL (fun a => f a * c) l = sumL f l * c := by
  induction l with
  | nil => simp only [sumL]; grind
  | cons x r ih =>
    show f x * c + sumL _ r = (f x + sumL f r) * c
    rw [ih]
    grind
def forceT (g : Rat → Rat → Rat) (u : Rat) (f : Rat × Rat) : Rat := if f.1 ≤ u then g f.1 f.2 else 0
def cutTo (u t : Rat) : Rat := if u < t then u else t
def spreadT (g : Rat → Rat → Rat) (u : Rat) (s : Rat × Rat × Rat) : Rat := if s.1 < cutTo u s.2.1 then g ((s.1 + cutTo u s.2.1) / 2) (s.2.2 * (cutTo u s.2.1 - s.1)) else 0
structure Bm where
  len : Rat
  lft : Rat
  rgt : Rat
  F : List (Rat × Rat)
  S : List (Rat × Rat × Rat)
def foldB (g : Rat → Rat → Rat) (b : Bm) (u : Rat) : Rat := sumL (forceT g u) b.F + sumL (spreadT g u) b.S
structure BmOK (b : Bm) : Prop where
  pos : 0 < b.len
  l0 : 0 ≤ b.lft
  ll : b.lft ≤ b.len
  r0 : 0 ≤ b.rgt
  rl : b.rgt ≤ b.len
  lr : b.lft < b.rgt
  F : ∀ f ∈ b.F, 0 ≤ f.1 ∧ f.1 ≤ b.len
  S : ∀ s ∈ b.S, 0 ≤ s.1 ∧ s.1 < s.2.1 ∧ s.2.1 ≤ b.len
def wgt (_ w : Rat) : Rat := w
def turnAt (c p w : Rat) : Rat := w * (p - c)
def totalB (b : Bm) : Rat := foldB wgt b b.len
def turnB (b : Bm) : Rat := foldB (turnAt b.lft) b b.len
def rightB (b : Bm) : Rat := turnB b / (b.rgt - b.lft)
def leftB (b : Bm) : Rat := totalB b - rightB b
def backAt (a p w : Rat) : Rat := w * (a - p)
def shearB (b : Bm) (a : Rat) : Rat := (if b.lft ≤ a then leftB b else 0) + (if b.rgt ≤ a then rightB b else 0) - foldB wgt b a
def momentB (b : Bm) (a : Rat) : Rat := (if b.lft < a then leftB b * (a - b.lft) else 0) + (if b.rgt < a then rightB b * (a - b.rgt) else 0) - foldB (backAt a) b a
theorem fold_whole {b : Bm} (h : BmOK b) (g : Rat → Rat → Rat) : foldB g b b.len = sumL (fun f => g f.1 f.2) b.F + sumL (fun s => g ((s.1 + s.2.1) / 2) (s.2.2 * (s.2.1 - s.1))) b.S := by
  unfold foldB
  congr 1
  · refine sumL_congr fun f hf => ?_
    unfold forceT
    rw [if_pos (h.F f hf).2]
  · refine sumL_congr fun s hs => ?_
    obtain ⟨_, h2, h3⟩ := h.S s hs
    have hc : cutTo b.len s.2.1 = s.2.1 := by
      unfold cutTo
      rw [if_neg (Rat.not_lt.2 h3)]
    unfold spreadT
    rw [hc, if_pos h2]
theorem right_turn {b : Bm} (h : BmOK b) : rightB b * (b.rgt - b.lft) = turnB b := by
  have hd : b.rgt - b.lft ≠ 0 := fun e => by
    have := h.lr
    grind
  unfold rightB
  rw [Rat.div_def, Rat.mul_assoc, Rat.inv_mul_cancel _ hd, Rat.mul_one]
def momF (a : Rat) (f : Rat × Rat) : Rat := f.2 * (f.1 - a)
def momS (a : Rat) (s : Rat × Rat × Rat) : Rat := s.2.2 * (s.2.1 - s.1) * ((s.1 + s.2.1) * (1 / 2) - a)
theorem half_eq (x : Rat) : x / 2 = x * (1 / 2) := by grind
theorem balanceB {b : Bm} (h : BmOK b) (a : Rat) : leftB b * (b.lft - a) + rightB b * (b.rgt - a) = sumL (momF a) b.F + sumL (momS a) b.S := by
  have h1 : leftB b * (b.lft - a) + rightB b * (b.rgt - a) = totalB b * (b.lft - a) + turnB b := by
    rw [← right_turn h]
    unfold leftB
    grind
  rw [h1]
  unfold totalB turnB
  rw [fold_whole h, fold_whole h]
  unfold wgt turnAt
  have e1 : sumL (momF a) b.F = sumL (fun f => f.2) b.F * (b.lft - a) + sumL (fun f => f.2 * (f.1 - b.lft)) b.F := by
    rw [← sumL_mul, ← sumL_add]
    refine sumL_congr fun f _ => ?_
    unfold momF
    grind
  have e2 : sumL (momS a) b.S = sumL (fun s => s.2.2 * (s.2.1 - s.1)) b.S * (b.lft - a) + sumL (fun s => s.2.2 * (s.2.1 - s.1) * ((s.1 + s.2.1) / 2 - b.lft)) b.S := by
    rw [← sumL_mul, ← sumL_add]
    refine sumL_congr fun s _ => ?_
    unfold momS
    rw [half_eq]
    grind
  rw [e1, e2]
  grind
open Go

def smallB (x : Rat) : Prop := x.num.natAbs < 10 ^ 12 ∧ x.den ≤ 12
def gp : Nat := 665280
def gq : Nat := 665280000000000000
def wD : Nat := gp * gp
def wB : Nat := gq * (2 * gq)
def mD : Nat := gp * 2
def mB : Nat := 2 * gq
def tD : Nat := wD * mD
def tB : Nat := wB * (4 * gq)
def rB : Nat := 160 * tB * gp
def lB : Nat := 160 * wB * (mD * (2 * gq)) + rB
def zB : Nat := 10 ^ 95
def zD (K : Nat) : Nat := tD * K * gp
theorem small_gr {x : Rat} (h : smallB x) : Gr gp gq x := by
  have hd : x.den ∣ gp := Nat.dvd_trans (small_den x.den x.den_pos h.2) (by decide)
  exact gr_mono (gr_of (N := 10 ^ 12) hd (Nat.le_of_lt h.1)) (by decide)
theorem share_gr {x : Rat} {k : Nat} (h : smallB x) (hk : k ≤ 24) : Gr gp gq (x * ((k : Int) / (24 : Int) : Rat)) := by
  have hd : x.den ∣ 27720 := small_den x.den x.den_pos h.2
  have h1 : Gr 27720 (10 ^ 12 * 27720) x := gr_of hd (Nat.le_of_lt h.1)
  have h2 : Gr 24 24 ((k : Int) / (24 : Int) : Rat) := by
    refine ⟨(k : Int), ?_, by omega⟩
    have : ((24 : Nat) : Rat) ≠ 0 := by decide
    rw [Rat.div_def]
    show (k : Rat) * (24 : Rat)⁻¹ * 24 = _
    rw [Rat.mul_assoc, Rat.inv_mul_cancel _ (by decide), Rat.mul_one]
    rfl
  exact gr_mono (gr_mul h1 h2) (by decide)
theorem gr_sz140 {D B : Nat} {x : Rat} (h : Gr D B x) (hD : 0 < D) (hB : B < 10 ^ 140) (hD2 : D < 10 ^ 140) : sz 140 x := gr_sz hD h hB hD2
theorem place_sz {x : Rat} (h : Gr gp gq x) : sz 20 x := gr_sz (by decide) h (by decide) (by decide)
structure Pnt (p w : Rat) : Prop where
  at_ : Gr mD mB p
  wt : Gr wD wB w
theorem force_pnt {p w : Rat} (hp : Gr gp gq p) (hw : Gr gp gq w) : Pnt p w :=
  ⟨gr_mono (gr_scale 2 hp) (by decide), gr_mono (gr_scale gp hw) (by decide)⟩
theorem sum_gr {x y : Rat} (hx : Gr gp gq x) (hy : Gr gp gq y) : Gr gp (2 * gq) (x + y) := gr_mono (gr_add hx hy) (by decide)
theorem dif_gr {x y : Rat} (hx : Gr gp gq x) (hy : Gr gp gq y) : Gr gp (2 * gq) (x - y) := gr_mono (gr_sub hx hy) (by decide)
theorem half_gr {D B : Nat} {x : Rat} (h : Gr D B x) : Gr (D * 2) B (x / 2) := by
  obtain ⟨k, h1, h2⟩ := h
  refine ⟨k, ?_, h2⟩
  rw [← h1, Rat.natCast_mul]
  show x / 2 * ((D : Rat) * 2) = _
  rw [half_eq]
  grind
theorem mid_gr {x y : Rat} (hx : Gr gp gq x) (hy : Gr gp gq y) : Gr mD mB ((x + y) / 2) := half_gr (sum_gr hx hy)
theorem load_gr {f t z : Rat} (hf : Gr gp gq f) (ht : Gr gp gq t) (hz : Gr gp gq z) : Gr wD wB (z * (t - f)) := gr_mul hz (dif_gr ht hf)
theorem spread_pnt {f t z : Rat} (hf : Gr gp gq f) (ht : Gr gp gq t) (hz : Gr gp gq z) : Pnt ((f + t) / 2) (z * (t - f)) := ⟨mid_gr hf ht, load_gr hf ht hz⟩
theorem arm_gr {p c : Rat} (hp : Gr mD mB p) (hc : Gr gp gq c) : Gr mD (4 * gq) (p - c) := gr_mono (gr_sub hp (gr_scale 2 hc)) (by decide)
theorem arm_gr2 {p c : Rat} (hp : Gr mD mB p) (hc : Gr gp gq c) : Gr mD (4 * gq) (c - p) := gr_mono (gr_sub (gr_scale 2 hc) hp) (by decide)
theorem turn_gr {p w c : Rat} (h : Pnt p w) (hc : Gr gp gq c) : Gr tD tB (w * (p - c)) := gr_mul h.wt (arm_gr h.at_ hc)
theorem back_gr {p w c : Rat} (h : Pnt p w) (hc : Gr gp gq c) : Gr tD tB (w * (c - p)) := gr_mul h.wt (arm_gr2 h.at_ hc)
theorem gr_snoc {D B n : Nat} {x y : Rat} (hx : Gr D (n * B) x) (hy : Gr D B y) : Gr D ((n + 1) * B) (x + y) := by
  have := gr_add hx hy
  rwa [show n * B + B = (n + 1) * B by rw [Nat.add_mul, Nat.one_mul]] at this
theorem gr_sumL {α : Type} {D B : Nat} {f : α → Rat} : ∀ {l : List α}, (∀ a ∈ l, Gr D B (f a)) → Gr D (l.length * B) (sumL f l)
  | [], _ => gr_zero D _
  | a :: r, h => by
    have h1 := gr_sumL (l := r) fun a ha => h a (by simp [ha])
    have h2 := gr_add (h a (by simp)) h1
    rw [List.length_cons, Nat.add_mul, Nat.one_mul, Nat.add_comm]
    exact h2
structure BmS (b : Bm) : Prop extends BmOK b where
  sl : smallB b.len
  sf : smallB b.lft
  sr : smallB b.rgt
  sF : ∀ f ∈ b.F, smallB f.1 ∧ smallB f.2
  sS : ∀ s ∈ b.S, smallB s.1 ∧ smallB s.2.1 ∧ smallB s.2.2
  fF : b.F.length ≤ 64
  fS : b.S.length ≤ 64
theorem BmS.few {b : Bm} (h : BmS b) : b.F.length + b.S.length ≤ 128 := by
  have := h.fF
  have := h.fS
  omega
theorem cut_gr {u t : Rat} (hu : Gr gp gq u) (ht : Gr gp gq t) : Gr gp gq (cutTo u t) := by
  unfold cutTo
  split
  · exact hu
  · exact ht
theorem fold_gr {b : Bm} (h : BmS b) {D B : Nat} {g : Rat → Rat → Rat} {u : Rat} (hu : Gr gp gq u) (hg : ∀ p w, Pnt p w → Gr D B (g p w)) : Gr D (128 * B) (foldB g b u) := by
  have h1 : Gr D (b.F.length * B) (sumL (forceT g u) b.F) := gr_sumL fun f hf => by
    unfold forceT
    split
    · exact hg _ _ (force_pnt (small_gr (h.sF f hf).1) (small_gr (h.sF f hf).2))
    · exact gr_zero D B
  have h2 : Gr D (b.S.length * B) (sumL (spreadT g u) b.S) := gr_sumL fun s hs => by
    obtain ⟨a1, a2, a3⟩ := h.sS s hs
    unfold spreadT
    split
    · exact hg _ _ (spread_pnt (small_gr a1) (cut_gr hu (small_gr a2)) (small_gr a3))
    · exact gr_zero D B
  refine gr_mono (gr_add h1 h2) ?_
  rw [← Nat.add_mul]
  exact Nat.mul_le_mul_right _ h.few
theorem total_gr {b : Bm} (h : BmS b) {u : Rat} (hu : Gr gp gq u) : Gr wD (128 * wB) (foldB wgt b u) := fold_gr h hu fun _ _ k => k.wt
theorem turns_gr {b : Bm} (h : BmS b) {u c : Rat} (hu : Gr gp gq u) (hc : Gr gp gq c) : Gr tD (128 * tB) (foldB (turnAt c) b u) := fold_gr h hu fun _ _ k => turn_gr k hc
theorem react_gr {b : Bm} (h : BmS b) : ∃ K, 1 ≤ K ∧ K ≤ 2 * gq ∧ Gr (tD * K) rB (rightB b) ∧ Gr (tD * K) lB (leftB b) := by
  have hd : b.rgt - b.lft ≠ 0 := fun e => by
    have := h.lr
    grind
  obtain ⟨K, h1, h2, h3⟩ := gr_div (D := tD) (B := 128 * tB) (by decide : 0 < gp) (dif_gr (small_gr h.sr) (small_gr h.sf)) hd
  have hr : Gr (tD * K) rB (rightB b) := gr_mono (h3 _ (turns_gr h (small_gr h.sl) (small_gr h.sf))) (Nat.mul_le_mul_right _ (Nat.mul_le_mul_right _ (by decide)))
  have ht : Gr (tD * K) (160 * wB * (mD * (2 * gq))) (totalB b) := by
    have := gr_scale (mD * K) (total_gr h (small_gr h.sl))
    rw [← Nat.mul_assoc] at this
    refine gr_mono this (Nat.mul_le_mul (by decide) (Nat.mul_le_mul_left _ h2))
  exact ⟨K, h1, h2, hr, gr_sub ht hr⟩
theorem zD_pos {K : Nat} (h : 1 ≤ K) : 0 < zD K := Nat.mul_pos (Nat.mul_pos (by decide) h) (by decide)
theorem zD_lt {K : Nat} (h : K ≤ 2 * gq) : zD K < 10 ^ 140 := by
  have : zD K ≤ tD * (2 * gq) * gp := Nat.mul_le_mul_right _ (Nat.mul_le_mul_left _ h)
  exact Nat.lt_of_le_of_lt this (by decide)
theorem gr_into {D B m : Nat} {Z Y : Nat} {x : Rat} (h : Gr D B x) (hZ : D * m = Z) (hY : B * m ≤ Y) : Gr Z Y x := by
  rw [← hZ]
  exact gr_mono (gr_scale m h) hY
theorem turn_into {K : Nat} (hK : K ≤ 2 * gq) {x : Rat} (h : Gr tD tB x) : Gr (zD K) zB x :=
  gr_into (m := K * gp) h (by rw [zD, Nat.mul_assoc]) (Nat.le_trans (Nat.mul_le_mul_left _ (Nat.mul_le_mul_right _ hK)) (by decide))
theorem weight_into {K : Nat} (hK : K ≤ 2 * gq) {x : Rat} (h : Gr wD wB x) : Gr (zD K) zB x :=
  turn_into hK (gr_into (m := mD) h rfl (by decide))
theorem react_into {K : Nat} {x : Rat} (h : Gr (tD * K) lB x) : Gr (zD K) zB x := gr_into (m := gp) h rfl (by decide)
theorem react_arm {K : Nat} {x p a : Rat} (h : Gr (tD * K) lB x) (hp : Gr gp gq p) (ha : Gr gp gq a) : Gr (zD K) zB (x * (p - a)) := gr_mono (gr_mul h (dif_gr hp ha)) (by decide)
theorem right_l {K : Nat} {x : Rat} (h : Gr (tD * K) rB x) : Gr (tD * K) lB x := gr_mono h (by decide)
theorem react_sz {K : Nat} {x : Rat} (h1 : 1 ≤ K) (h2 : K ≤ 2 * gq) (h : Gr (tD * K) lB x) : sz 100 x := by
  have hD : tD * K ≤ tD * (2 * gq) := Nat.mul_le_mul_left _ h2
  exact gr_sz (Nat.mul_pos (by decide) h1) h (by decide) (Nat.lt_of_le_of_lt hD (by decide))
theorem run_sz {K n : Nat} {x : Rat} (h1 : 1 ≤ K) (h2 : K ≤ 2 * gq) (hn : n ≤ 1000) (h : Gr (zD K) (n * zB) x) : sz 140 x :=
  gr_sz140 h (zD_pos h1) (Nat.lt_of_le_of_lt (Nat.mul_le_mul_right _ hn) (by decide)) (zD_lt h2)
theorem pnt_sz {p w : Rat} (h : Pnt p w) : sz 60 p ∧ sz 60 w :=
  ⟨gr_sz (by decide) h.at_ (by decide) (by decide), gr_sz (by decide) h.wt (by decide) (by decide)⟩
theorem turn_sz {x : Rat} (h : Gr tD tB x) : sz 60 x := gr_sz (by decide) h (by decide) (by decide)
end Go.KI
