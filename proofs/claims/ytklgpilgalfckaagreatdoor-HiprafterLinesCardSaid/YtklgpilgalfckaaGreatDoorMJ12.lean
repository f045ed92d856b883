/-
  Texts laid together.
-/
import Derived.Test.YtklgpilgalfckaaGreatDoorMJ11
import Derived.Test.YtklgpilgalfckaaGreatDoorMJ3
import Derived.Test.YtklgpilgalfckaaGreatDoorMJ5
import Derived.Test.YtklgpilgalfckaaGreatDoorMJ10
import Derived.BigQuiet
set_option maxRecDepth 100000
set_option maxHeartbeats 8000000
namespace Go.Proofs.YtklgpilgalfckaaGreatDoor
open Go.RowKit Go.KP Go.KI Go.Shelf
attribute [local go_sem] Oper.semAt_some

theorem exit_arr {f : Func} {R : Ending → World → Prop} {a : Act} {W : World} {b : Nat} {t : Tmp} {x y z : ByteArray} (hf : f.results = #[.cell t 121]) (hb : W.heap[b]? = some (.cells #[.string x, .string y, .string z] 121 (0, 0))) (h2 : a.tmps[t]? = some (.pointer (some ⟨b, 0, none⟩))) (hd : a.defers = []) (hR : R (.returned (.agg #[.string x, .string y, .string z])) W) :
    bodyPost Tryz.prog f R .ret a W := by
  have hcell := fun o => cell_blk hb o
  refine bodyPost_ret ?_ hd hR
  simp [results, hf, go_sem, hcell, h2]
theorem exit_spot {f : Func} {R : Ending → World → Prop} {a : Act} {W : World} {b : Nat} {t : Tmp} {x y z : ByteArray} (hf : f.results = #[.cell t 28]) (hb : W.heap[b]? = some (.cells #[.string x, .string y, .string z] 28 (0, 0))) (h2 : a.tmps[t]? = some (.pointer (some ⟨b, 0, none⟩))) (hd : a.defers = []) (hR : R (.returned (.agg #[.string x, .string y, .string z])) W) :
    bodyPost Tryz.prog f R .ret a W := by
  have hcell := fun o => cell_blk hb o
  refine bodyPost_ret ?_ hd hR
  simp [results, hf, go_sem, hcell, h2]
theorem exit_spotE {f : Func} {R : Ending → World → Prop} {a : Act} {W : World} {b : Nat} {t u : Tmp} {x y z : ByteArray} {v : Value} (hf : f.results = #[.cell t 28, .tmp u]) (hb : W.heap[b]? = some (.cells #[.string x, .string y, .string z] 28 (0, 0))) (h2 : a.tmps[t]? = some (.pointer (some ⟨b, 0, none⟩))) (h3 : a.tmps[u]? = some v) (hd : a.defers = []) (hR : R (.returned (.tuple #[.agg #[.string x, .string y, .string z], v])) W) :
    bodyPost Tryz.prog f R .ret a W := by
  have hcell := fun o => cell_blk hb o
  refine bodyPost_ret ?_ hd hR
  simp [results, hf, go_sem, hcell, h2, h3]
abbrev spotV (a b c : ByteArray) : Value := .agg #[.string a, .string b, .string c]
abbrev spotO (a b c : ByteArray) : Obj := .cells #[.string a, .string b, .string c] 28
abbrev sptO (a b c : ByteArray) : Obj := .cells #[.string a, .string b, .string c] 98
abbrev arrO (a b c : ByteArray) : Obj := .cells #[.string a, .string b, .string c] 121
theorem vlist_at (a b c : ByteArray) (w : World) :
    Calls Tryz.prog 76 #[spotV a b c] w (fun e w' => e = .returned (spotV a b c) ∧ w' = (w.alloc (sptO a b c)).alloc (arrO a b c)) := by
  go_enter Tryz.func76, Tryz.ntmps76
  go_wp2_with fail
  obtain ⟨_, h2, _, h4⟩ := heap2 w (sptO a b c) (arrO a b c)
  exact exit_arr rfl h2 rfl rfl ⟨rfl, rfl⟩
theorem vof_any (a b c : ByteArray) (w : World) :
    Calls Tryz.prog 87 #[spotV a b c] w (fun e w' => e = .returned (spotV a b c) ∧ w' = (w.alloc (arrO a b c)).alloc (spotO a b c)) := by
  go_enter Tryz.func87, Tryz.ntmps87
  go_wp2_with fail
  obtain ⟨_, h2, _, h4⟩ := heap2 w (arrO a b c) (spotO a b c)
  exact exit_spot rfl h2 rfl rfl ⟨rfl, rfl⟩
theorem vidx0 (a b c : ByteArray) (w : World) : (Instr.index 121 (spotV a b c) (.int .i64 0)).run Tryz.prog w = .ok (.string a) w := by kernel_rfl
theorem vidx1 (a b c : ByteArray) (w : World) : (Instr.index 121 (spotV a b c) (.int .i64 1)).run Tryz.prog w = .ok (.string b) w := by kernel_rfl
theorem vidx2 (a b c : ByteArray) (w : World) : (Instr.index 121 (spotV a b c) (.int .i64 2)).run Tryz.prog w = .ok (.string c) w := by kernel_rfl
attribute [local go_sem] vidx0 vidx1 vidx2
def chk3 (a b c : List UInt8) : Int := if chkQ a ≠ 0 then chkQ a else if chkQ b ≠ 0 then chkQ b else chkQ c
theorem chk3_zero {a b c : List UInt8} : chk3 a b c = 0 ↔ (chkQ a = 0 ∧ chkQ b = 0 ∧ chkQ c = 0) := by
  unfold chk3
  split
  · next h => exact ⟨fun e => absurd e h, fun e => absurd e.1 h⟩
  · next h =>
    have h1 := Decidable.not_not.1 h
    split
    · next h2 => exact ⟨fun e => absurd e h2, fun e => absurd e.2.1 h2⟩
    · next h2 => exact ⟨fun e => ⟨h1, Decidable.not_not.1 h2, e⟩, fun e => e.2.2⟩
theorem vCheck_any (a b c : ByteArray) (ha : a.size ≤ 1000000) (hb : b.size ≤ 1000000) (hc : c.size ≤ 1000000) (B : Nat) (w : World) (hB : B ≤ w.heap.size) (hT : PQ B w) :
    Calls Tryz.prog 54 #[spotV a b c] w (Ret w (.int .i64 (chk3 a.data.toList b.data.toList c.data.toList))) := by
  have HT := hide hT
  have H1 := hide (fun w hB hT => qCheck_any a ha B w hB hT)
  have H2 := hide (fun w hB hT => qCheck_any b hb B w hB hT)
  have H3 := hide (fun w hB hT => qCheck_any c hc B w hB hT)
  have HL := hide (fun w => vlist_at a b c w)
  obtain ⟨V, hV⟩ : ∃ V, V = chk3 a.data.toList b.data.toList c.data.toList := ⟨_, rfl⟩
  rw [← hV]
  unfold chk3 at hV
  obtain ⟨x, hx⟩ : ∃ x, x = chkQ a.data.toList := ⟨_, rfl⟩
  obtain ⟨y, hy⟩ : ∃ x, x = chkQ b.data.toList := ⟨_, rfl⟩
  obtain ⟨z, hz⟩ : ∃ x, x = chkQ c.data.toList := ⟨_, rfl⟩
  rw [← hx] at H1 hV
  rw [← hy] at H2 hV
  rw [← hz] at H3 hV
  clear hx hy hz ha hb hc hT
  have X0 := hide (((heap3 w (spotO a b c) (sptO a b c) (arrO a b c))).2.2.2.2)
  by_cases hx : x = 0
  rotate_left
  · rw [if_pos hx] at hV
    have hx2 : (x != 0) = true := by simpa using hx
    clear hx
    subst hV
    go_enter Tryz.func54, Tryz.ntmps54
    go_wp2_with fail
    refine (HL.out _).mono ?_
    rintro e w0 ⟨rfl, rfl⟩
    go_wp2_with fail
    refine wp_loop_rounds 1 ?_
    rw [rounds_succ]
    go_wp2_with fail
    refine (H1.out _ (Nat.le_trans hB X0.out.size) (HT.out.on X0.out hB)).mono ?_
    rintro e w1 ⟨rfl, hb1⟩
    have HB1 := hide (X0.out.trans (hb1.mono X0.out.size))
    clear hb1
    go_wp2_with fail
    go_ret
    exact ⟨rfl, HB1.out⟩
  subst hx
  rw [if_neg (by simp)] at hV
  by_cases hy : y = 0
  rotate_left
  · rw [if_pos hy] at hV
    have hy2 : (y != 0) = true := by simpa using hy
    clear hy
    subst hV
    go_enter Tryz.func54, Tryz.ntmps54
    go_wp2_with fail
    refine (HL.out _).mono ?_
    rintro e w0 ⟨rfl, rfl⟩
    go_wp2_with fail
    refine wp_loop_rounds 2 ?_
    rw [rounds_succ]
    go_wp2_with fail
    refine (H1.out _ (Nat.le_trans hB X0.out.size) (HT.out.on X0.out hB)).mono ?_
    rintro e w1 ⟨rfl, hb1⟩
    have HB1 := hide (X0.out.trans (hb1.mono X0.out.size))
    clear hb1
    go_wp2_with fail
    rw [rounds_succ]
    go_wp2_with fail
    refine (H2.out _ (Nat.le_trans hB HB1.out.size) (HT.out.on HB1.out hB)).mono ?_
    rintro e w2 ⟨rfl, hb2⟩
    have HB2 := hide (HB1.out.trans (hb2.mono HB1.out.size))
    clear hb2
    go_wp2_with fail
    go_ret
    exact ⟨rfl, HB2.out⟩
  subst hy
  rw [if_neg (by simp)] at hV
  subst hV
  have hz : V = 0 ∨ (V != 0) = true := by
    by_cases h : V = 0
    · exact .inl h
    · exact .inr (by simpa using h)
  rcases hz with rfl | hz
  all_goals
    go_enter Tryz.func54, Tryz.ntmps54
    go_wp2_with fail
    refine (HL.out _).mono ?_
    rintro e w0 ⟨rfl, rfl⟩
    go_wp2_with fail
    refine wp_loop_rounds 4 ?_
    rw [rounds_succ]
    go_wp2_with fail
    refine (H1.out _ (Nat.le_trans hB X0.out.size) (HT.out.on X0.out hB)).mono ?_
    rintro e w1 ⟨rfl, hb1⟩
    have HB1 := hide (X0.out.trans (hb1.mono X0.out.size))
    clear hb1
    go_wp2_with fail
    rw [rounds_succ]
    go_wp2_with fail
    refine (H2.out _ (Nat.le_trans hB HB1.out.size) (HT.out.on HB1.out hB)).mono ?_
    rintro e w2 ⟨rfl, hb2⟩
    have HB2 := hide (HB1.out.trans (hb2.mono HB1.out.size))
    clear hb2
    go_wp2_with fail
    rw [rounds_succ]
    go_wp2_with fail
    refine (H3.out _ (Nat.le_trans hB HB2.out.size) (HT.out.on HB2.out hB)).mono ?_
    rintro e w3 ⟨rfl, hb3⟩
    have HB3 := hide (HB2.out.trans (hb3.mono HB2.out.size))
    clear hb3
    go_wp2_with fail
    first
      | (go_ret; exact ⟨rfl, HB3.out⟩)
      | (rw [rounds_succ]; go_wp2_with fail; go_ret; exact ⟨rfl, HB3.out⟩)
def both3 (p q : Int) : Int := if p ≠ 0 then p else q
theorem vboth_any (a b c a2 b2 c2 : ByteArray) (ha : a.size ≤ 1000000) (hb : b.size ≤ 1000000) (hc : c.size ≤ 1000000) (ha2 : a2.size ≤ 1000000) (hb2 : b2.size ≤ 1000000) (hc2 : c2.size ≤ 1000000) (B : Nat) (w : World) (hB : B ≤ w.heap.size) (hT : PQ B w) :
    Calls Tryz.prog 45 #[spotV a b c, spotV a2 b2 c2] w (Ret w (.int .i64 (both3 (chk3 a.data.toList b.data.toList c.data.toList) (chk3 a2.data.toList b2.data.toList c2.data.toList)))) := by
  have HT := hide hT
  have H1 := hide (fun w hB hT => vCheck_any a b c ha hb hc B w hB hT)
  have H2 := hide (fun w hB hT => vCheck_any a2 b2 c2 ha2 hb2 hc2 B w hB hT)
  obtain ⟨x, hx⟩ : ∃ x, x = chk3 a.data.toList b.data.toList c.data.toList := ⟨_, rfl⟩
  obtain ⟨y, hy⟩ : ∃ x, x = chk3 a2.data.toList b2.data.toList c2.data.toList := ⟨_, rfl⟩
  rw [← hx] at H1 ⊢
  rw [← hy] at H2 ⊢
  clear hx hy ha hb hc ha2 hb2 hc2 hT
  have X0 := hide (heap2 w (spotO a b c) (spotO a2 b2 c2))
  unfold both3
  by_cases h : x = 0
  · subst h
    rw [if_neg (by simp)]
    go_enter Tryz.func45, Tryz.ntmps45
    go_wp2_with fail
    refine (H1.out _ (Nat.le_trans hB X0.out.2.2.2.size) (HT.out.on X0.out.2.2.2 hB)).mono ?_
    rintro e w1 ⟨rfl, hb1⟩
    have G1 := hide (below_blk hb1 X0.out.2.1 (lt_blk X0.out.2.1))
    have HB1 := hide (X0.out.2.2.2.trans (hb1.mono X0.out.2.2.2.size))
    clear hb1
    have c0 := cell_blk G1.out 0
    have c1 := cell_blk G1.out 1
    have c2 := cell_blk G1.out 2
    go_wp2_with fail
    refine (H2.out _ (Nat.le_trans hB HB1.out.size) (HT.out.on HB1.out hB)).mono ?_
    rintro e w2 ⟨rfl, hb2⟩
    have HB2 := hide (HB1.out.trans (hb2.mono HB1.out.size))
    clear hb2
    go_wp2_with fail
    go_ret
    exact ⟨rfl, HB2.out⟩
  · rw [if_pos h]
    have h2 : (x != 0) = true := by simpa using h
    clear h
    go_enter Tryz.func45, Tryz.ntmps45
    go_wp2_with fail
    refine (H1.out _ (Nat.le_trans hB X0.out.2.2.2.size) (HT.out.on X0.out.2.2.2 hB)).mono ?_
    rintro e w1 ⟨rfl, hb1⟩
    have HB1 := hide (X0.out.2.2.2.trans (hb1.mono X0.out.2.2.2.size))
    clear hb1
    go_wp2_with fail
    go_ret
    exact ⟨rfl, HB1.out⟩
open Go.RowKit Go.KP Go.KI Go.Shelf
attribute [local go_sem] Oper.semAt_some vidx0 vidx1 vidx2

theorem set3a {w : World} {b : Nat} {x y z : Value} {t : TypeId} (h : w.heap[b]? = some (.cells #[x, y, z] t (0, 0))) (v : Value) :
    (w.setCell ⟨b, 0, none⟩ v).heap[b]? = some (.cells #[v, y, z] t (0, 0)) := by
  simp only [World.setCell, Array.getElem?_modify, h]
  simp
theorem set3b {w : World} {b : Nat} {x y z : Value} {t : TypeId} (h : w.heap[b]? = some (.cells #[x, y, z] t (0, 0))) (v : Value) :
    (w.setCell ⟨b, 1, none⟩ v).heap[b]? = some (.cells #[x, v, z] t (0, 0)) := by
  simp only [World.setCell, Array.getElem?_modify, h]
  simp
theorem set3c {w : World} {b : Nat} {x y z : Value} {t : TypeId} (h : w.heap[b]? = some (.cells #[x, y, z] t (0, 0))) (v : Value) :
    (w.setCell ⟨b, 2, none⟩ v).heap[b]? = some (.cells #[x, y, v] t (0, 0)) := by
  simp only [World.setCell, Array.getElem?_modify, h]
  simp
theorem set_other {w : World} {b c o : Nat} {x : Obj} (h : w.heap[b]? = some x) (hne : c ≠ b) (v : Value) : (w.setCell ⟨c, o, none⟩ v).heap[b]? = some x := by
  simp only [World.setCell]
  rw [Array.getElem?_modify, if_neg hne]
  exact h
theorem below_spot {n b : Nat} {w w1 : World} (h : Below n w w1) (hb : n ≤ b) (u v x : Value) : Below n w (((w1.setCell ⟨b, 0, none⟩ u).setCell ⟨b, 1, none⟩ v).setCell ⟨b, 2, none⟩ x) :=
  ((h.setCell (p := ⟨b, 0, none⟩) hb u).setCell (p := ⟨b, 1, none⟩) hb v).setCell (p := ⟨b, 2, none⟩) hb x
theorem heap9 (w : World) (o1 o2 o3 o4 o5 o6 o7 o8 o9 : Obj) : (((((((((w.alloc o1).alloc o2).alloc o3).alloc o4).alloc o5).alloc o6).alloc o7).alloc o8).alloc o9).heap[w.heap.size + 2]? = some o3 ∧
    (((((((((w.alloc o1).alloc o2).alloc o3).alloc o4).alloc o5).alloc o6).alloc o7).alloc o8).alloc o9).heap[w.heap.size + 3]? = some o4 ∧
    (((((((((w.alloc o1).alloc o2).alloc o3).alloc o4).alloc o5).alloc o6).alloc o7).alloc o8).alloc o9).heap[w.heap.size + 6]? = some o7 ∧
    (((((((((w.alloc o1).alloc o2).alloc o3).alloc o4).alloc o5).alloc o6).alloc o7).alloc o8).alloc o9).heap.size = w.heap.size + 9 ∧ Below w.heap.size w (((((((((w.alloc o1).alloc o2).alloc o3).alloc o4).alloc o5).alloc o6).alloc o7).alloc o8).alloc o9) := by
  obtain ⟨_, _, a3, a4, a5⟩ := heap3 w o1 o2 o3
  obtain ⟨b1, _, _, b4, b5⟩ := heap3 (((w.alloc o1).alloc o2).alloc o3) o4 o5 o6
  obtain ⟨c1, _, _, c4, c5⟩ := heap3 ((((((w.alloc o1).alloc o2).alloc o3).alloc o4).alloc o5).alloc o6) o7 o8 o9
  rw [a4] at b1 b4 b5
  rw [b4] at c1 c4 c5
  refine ⟨below_blk c5 (below_blk b5 a3 (by omega)) (by omega), below_blk c5 b1 (by omega), c1, by omega, a5.trans ((b5.mono (by omega)).trans (c5.mono (by omega)))⟩
theorem with_any {g : Nat} {F : Rat → Rat → Option Rat} (hF : BinFn g F) {a b : V3} (fa : fitsV a) (fb : fitsV b) (B : Nat) (w : World) (hB : B ≤ w.heap.size) (hT : PQ B w) :
    Calls Tryz.prog 78 #[vecV a, vecV b, .func (.func g) #[] #[]] w (ResV w (vec2O F a b)) := by
  have HT := hide hT
  have H1 := hide (fun w hB hT => hF.calls a.x b.x B w fa.1 fb.1 hB hT)
  have H2 := hide (fun w hB hT => hF.calls a.y b.y B w fa.2.1 fb.2.1 hB hT)
  have H3 := hide (fun w hB hT => hF.calls a.z b.z B w fa.2.2 fb.2.2 hB hT)
  have hen := hF.enters
  obtain ⟨O, hO⟩ : ∃ O, O = vec2O F a b := ⟨_, rfl⟩
  rw [← hO]
  unfold vec2O at hO
  obtain ⟨o1, h1⟩ : ∃ o, o = F a.x b.x := ⟨_, rfl⟩
  obtain ⟨o2, h2⟩ : ∃ o, o = F a.y b.y := ⟨_, rfl⟩
  obtain ⟨o3, h3⟩ : ∃ o, o = F a.z b.z := ⟨_, rfl⟩
  rw [← h1] at H1 hO
  rw [← h2] at H2 hO
  rw [← h3] at H3 hO
  obtain ⟨x1, e1⟩ : ∃ x, x = T a.x := ⟨_, rfl⟩
  obtain ⟨x2, e2⟩ : ∃ x, x = T a.y := ⟨_, rfl⟩
  obtain ⟨x3, e3⟩ : ∃ x, x = T a.z := ⟨_, rfl⟩
  obtain ⟨y1, e4⟩ : ∃ x, x = T b.x := ⟨_, rfl⟩
  obtain ⟨y2, e5⟩ : ∃ x, x = T b.y := ⟨_, rfl⟩
  obtain ⟨y3, e6⟩ : ∃ x, x = T b.z := ⟨_, rfl⟩
  unfold vecV
  rw [← e1, ← e2, ← e3, ← e4, ← e5, ← e6]
  rw [← e1, ← e4] at H1
  rw [← e2, ← e5] at H2
  rw [← e3, ← e6] at H3
  clear e1 e2 e3 e4 e5 e6 h1 h2 h3 fa fb hF hT
  have HO := hide hO
  clear hO
  have HL1 := hide (fun w => vlist_at x1 x2 x3 w)
  have HL2 := hide (fun w => vlist_at y1 y2 y3 w)
  have HOF := hide (fun a b c w => vof_any a b c w)
  have X0 := hide (heap9 w (sptO x1 x2 x3) (sptO y1 y2 y3) (spotO ⟨#[]⟩ ⟨#[]⟩ ⟨#[]⟩) (arrO ⟨#[]⟩ ⟨#[]⟩ ⟨#[]⟩) (sptO y1 y2 y3) (arrO y1 y2 y3) (arrO y1 y2 y3) (sptO x1 x2 x3) (arrO x1 x2 x3))
  go_enter Tryz.func78, Tryz.ntmps78
  go_wp2_with fail
  refine (HL2.out _).mono ?_
  rintro e w0 ⟨rfl, rfl⟩
  go_wp2_with fail
  refine (HL1.out _).mono ?_
  rintro e w0 ⟨rfl, rfl⟩
  go_wp2_with fail
  refine wp_loop_rounds 4 ?_
  rw [rounds_succ]
  go_wp2_with fail
  refine (H1.out _ (Nat.le_trans hB X0.out.2.2.2.2.size) (HT.out.on X0.out.2.2.2.2 hB)).mono ?_
  rintro e w1 (⟨z1, hz1, rfl, hb1⟩ | ⟨hz1, rfl, hb1⟩)
  all_goals
    have A6 := hide (below_blk hb1 X0.out.1 (lt_blk X0.out.1))
    have A8 := hide (below_blk hb1 X0.out.2.1 (lt_blk X0.out.2.1))
    have A9 := hide (below_blk hb1 X0.out.2.2.1 (lt_blk X0.out.2.2.1))
    have HB1 := hide (X0.out.2.2.2.2.trans (hb1.mono X0.out.2.2.2.2.size))
    have HZ1 := hide hz1
    clear hb1 hz1
  rotate_left
  · have k0 := cell_blk A6.out 0
    have k1 := cell_blk A6.out 1
    have k2 := cell_blk A6.out 2
    have f0 := froz_blk A6.out 0
    have f1 := froz_blk A6.out 1
    have f2 := froz_blk A6.out 2
    have l6 := lt_blk A6.out
    go_wp2_with fail
    exact exit_spotE rfl (set3c (set3b (set3a A6.out _) _) _) rfl rfl rfl (.inr ⟨by rw [HO.out, HZ1.out]; rfl, rfl, below_spot HB1.out (show w.heap.size ≤ w.heap.size + 1 + 1 by omega) _ _ _⟩)
  have S6 := hide (set_other (c := w.heap.size + 3) (o := 0) A6.out (by omega) (.string (T z1)))
  have S8 := hide (set3a A8.out (.string (T z1)))
  have S9 := hide (set_other (c := w.heap.size + 3) (o := 0) A9.out (by omega) (.string (T z1)))
  have SB := hide (HB1.out.setCell (p := ⟨w.heap.size + 3, 0, none⟩) (Nat.le_add_right _ _) (.string (T z1)))
  have k0 := cell_blk A8.out 0
  have f0 := froz_blk A8.out 0
  have l8 := lt_blk A8.out
  go_wp2_with fail
  clear k0 f0 l8
  have k1 := cell_blk S9.out 1
  rw [rounds_succ]
  go_wp2_with fail
  refine (H2.out _ (Nat.le_trans hB SB.out.size) (HT.out.on SB.out hB)).mono ?_
  rintro e w2 (⟨z2, hz2, rfl, hb2⟩ | ⟨hz2, rfl, hb2⟩)
  all_goals
    clear k1 A6 A8 A9
    have A6 := hide (below_blk hb2 S6.out (lt_blk S6.out))
    have A8 := hide (below_blk hb2 S8.out (lt_blk S8.out))
    have A9 := hide (below_blk hb2 S9.out (lt_blk S9.out))
    have HB2 := hide (SB.out.trans (hb2.mono SB.out.size))
    have HZ2 := hide hz2
    clear hb2 hz2 S6 S8 S9 SB
  rotate_left
  · have k0 := cell_blk A6.out 0
    have k1 := cell_blk A6.out 1
    have k2 := cell_blk A6.out 2
    have f0 := froz_blk A6.out 0
    have f1 := froz_blk A6.out 1
    have f2 := froz_blk A6.out 2
    have l6 := lt_blk A6.out
    go_wp2_with fail
    exact exit_spotE rfl (set3c (set3b (set3a A6.out _) _) _) rfl rfl rfl (.inr ⟨by rw [HO.out, HZ2.out]; cases o1 <;> rfl, rfl, below_spot HB2.out (show w.heap.size ≤ w.heap.size + 1 + 1 by omega) _ _ _⟩)
  have S6 := hide (set_other (c := w.heap.size + 3) (o := 1) A6.out (by omega) (.string (T z2)))
  have S8 := hide (set3b A8.out (.string (T z2)))
  have S9 := hide (set_other (c := w.heap.size + 3) (o := 1) A9.out (by omega) (.string (T z2)))
  have SB := hide (HB2.out.setCell (p := ⟨w.heap.size + 3, 1, none⟩) (Nat.le_add_right _ _) (.string (T z2)))
  have k0 := cell_blk A8.out 1
  have f0 := froz_blk A8.out 1
  have l8 := lt_blk A8.out
  go_wp2_with fail
  clear k0 f0 l8
  have k1 := cell_blk S9.out 2
  rw [rounds_succ]
  go_wp2_with fail
  refine (H3.out _ (Nat.le_trans hB SB.out.size) (HT.out.on SB.out hB)).mono ?_
  rintro e w3 (⟨z3, hz3, rfl, hb3⟩ | ⟨hz3, rfl, hb3⟩)
  all_goals
    clear k1 A6 A8 A9
    have A6 := hide (below_blk hb3 S6.out (lt_blk S6.out))
    have A8 := hide (below_blk hb3 S8.out (lt_blk S8.out))
    have HB3 := hide (SB.out.trans (hb3.mono SB.out.size))
    have HZ3 := hide hz3
    clear hb3 hz3 S6 S8 S9 SB
  rotate_left
  · have k0 := cell_blk A6.out 0
    have k1 := cell_blk A6.out 1
    have k2 := cell_blk A6.out 2
    have f0 := froz_blk A6.out 0
    have f1 := froz_blk A6.out 1
    have f2 := froz_blk A6.out 2
    have l6 := lt_blk A6.out
    go_wp2_with fail
    exact exit_spotE rfl (set3c (set3b (set3a A6.out _) _) _) rfl rfl rfl (.inr ⟨by rw [HO.out, HZ3.out]; cases o1 <;> cases o2 <;> rfl, rfl, below_spot HB3.out (show w.heap.size ≤ w.heap.size + 1 + 1 by omega) _ _ _⟩)
  have S6 := hide (set_other (c := w.heap.size + 3) (o := 2) A6.out (by omega) (.string (T z3)))
  have S8 := hide (set3c A8.out (.string (T z3)))
  have SB := hide (HB3.out.setCell (p := ⟨w.heap.size + 3, 2, none⟩) (Nat.le_add_right _ _) (.string (T z3)))
  have k0 := cell_blk A8.out 2
  have f0 := froz_blk A8.out 2
  have l8 := lt_blk A8.out
  go_wp2_with fail
  clear k0 f0 l8
  have k0 := cell_blk S8.out 0
  have k1 := cell_blk S8.out 1
  have k2 := cell_blk S8.out 2
  have l8 := lt_blk S8.out
  rw [rounds_succ]
  go_wp2_with fail
  refine (HOF.out _ _ _ _).mono ?_
  rintro e w4 ⟨rfl, rfl⟩
  clear k0 k1 k2 l8
  have X5 := hide (heap2 (w3.setCell ⟨w.heap.size + 3, 2, none⟩ (.string (T z3))) (arrO (T z1) (T z2) (T z3)) (spotO (T z1) (T z2) (T z3)))
  have R6 := hide (below_blk X5.out.2.2.2 S6.out (lt_blk S6.out))
  have RB := hide (SB.out.trans (X5.out.2.2.2.mono SB.out.size))
  have k0 := cell_blk R6.out 0
  have k1 := cell_blk R6.out 1
  have k2 := cell_blk R6.out 2
  have f0 := froz_blk R6.out 0
  have f1 := froz_blk R6.out 1
  have f2 := froz_blk R6.out 2
  have l6 := lt_blk R6.out
  go_wp2_with fail
  exact exit_spotE rfl (set3c (set3b (set3a R6.out _) _) _) rfl rfl rfl (.inl ⟨⟨z1, z2, z3⟩, by rw [HO.out, HZ1.out, HZ2.out, HZ3.out]; rfl, rfl, below_spot RB.out (show w.heap.size ≤ w.heap.size + 1 + 1 by omega) _ _ _⟩)
open Go.RowKit Go.KP Go.KI Go.Shelf
attribute [local go_sem] Oper.semAt_some vidx0 vidx1 vidx2

theorem ResV.no {w : World} {o : Option V3} (h : o = none) {e : Ending} {w' : World} (hr : ResV w o e w') : Ret w (.tuple #[noV, .int .i64 4]) e w' := by
  rcases hr with ⟨v, h1, _⟩ | ⟨_, h2⟩
  · rw [h] at h1
    cases h1
  · exact h2
theorem ResO.no {w : World} {o : Option Rat} (h : o = none) {e : Ending} {w' : World} (hr : ResO w o e w') : Ret w (.tuple #[.string ⟨#[]⟩, .int .i64 4]) e w' := by
  rcases hr with ⟨v, h1, _⟩ | ⟨_, h2⟩
  · rw [h] at h1
    cases h1
  · exact h2
theorem T_chk {x : Rat} (h : fitsQ x) : (T x).size ≤ 1000000 ∧ chkQ (T x).data.toList = 0 := ⟨(T_good h).1, (T_good h).2.1⟩
theorem vboth_T {a b : V3} (fa : fitsV a) (fb : fitsV b) (B : Nat) (w : World) (hB : B ≤ w.heap.size) (hT : PQ B w) :
    Calls Tryz.prog 45 #[vecV a, vecV b] w (Ret w (.int .i64 0)) := by
  have h := vboth_any (T a.x) (T a.y) (T a.z) (T b.x) (T b.y) (T b.z) (T_chk fa.1).1 (T_chk fa.2.1).1 (T_chk fa.2.2).1 (T_chk fb.1).1 (T_chk fb.2.1).1 (T_chk fb.2.2).1 B w hB hT
  rw [chk3_zero.2 ⟨(T_chk fa.1).2, (T_chk fa.2.1).2, (T_chk fa.2.2).2⟩, chk3_zero.2 ⟨(T_chk fb.1).2, (T_chk fb.2.1).2, (T_chk fb.2.2).2⟩] at h
  exact h
theorem vchk_T {a : V3} (fa : fitsV a) (B : Nat) (w : World) (hB : B ≤ w.heap.size) (hT : PQ B w) :
    Calls Tryz.prog 54 #[vecV a] w (Ret w (.int .i64 0)) := by
  have h := vCheck_any (T a.x) (T a.y) (T a.z) (T_chk fa.1).1 (T_chk fa.2.1).1 (T_chk fa.2.2).1 B w hB hT
  rw [chk3_zero.2 ⟨(T_chk fa.1).2, (T_chk fa.2.1).2, (T_chk fa.2.2).2⟩] at h
  exact h
theorem vSub_O {a b : V3} (fa : fitsV a) (fb : fitsV b) (B : Nat) (w : World) (hB : B ≤ w.heap.size) (hT : PQ B w) :
    Calls Tryz.prog 66 #[vecV a, vecV b] w (ResV w (vec2O subO a b)) := by
  have HT := hide hT
  have HC := hide (fun w hB hT => vboth_T fa fb B w hB hT)
  have HD := hide (fun w hB hT => with_any subB fa fb B w hB hT)
  have X0 := hide (heap3 w (vecO a) (vecO b) (spotO ⟨#[]⟩ ⟨#[]⟩ ⟨#[]⟩))
  obtain ⟨O, hO⟩ : ∃ O, O = vec2O subO a b := ⟨_, rfl⟩
  rw [← hO] at HD ⊢
  clear hO hT fa fb
  go_enter Tryz.func66, Tryz.ntmps66
  go_wp2_with fail
  refine (HC.out _ (Nat.le_trans hB X0.out.2.2.2.2.size) (HT.out.on X0.out.2.2.2.2 hB)).mono ?_
  rintro e w1 ⟨rfl, hb1⟩
  have HB1 := hide (X0.out.2.2.2.2.trans (hb1.mono X0.out.2.2.2.2.size))
  have G1 := hide (below_blk hb1 X0.out.1 (lt_blk X0.out.1))
  have G2 := hide (below_blk hb1 X0.out.2.1 (lt_blk X0.out.2.1))
  have G4 := hide (below_blk hb1 X0.out.2.2.1 (lt_blk X0.out.2.2.1))
  have k0 := cell_blk G1.out 0
  have k1 := cell_blk G1.out 1
  have k2 := cell_blk G1.out 2
  have m0 := cell_blk G2.out 0
  have m1 := cell_blk G2.out 1
  have m2 := cell_blk G2.out 2
  clear hb1
  go_wp2_with fail
  refine (HD.out _ (Nat.le_trans hB HB1.out.size) (HT.out.on HB1.out hB)).mono ?_
  rintro e w3 (⟨z, hz, rfl, hb3⟩ | ⟨hz, rfl, hb3⟩)
  all_goals
    have HZ := hide hz
    have HB3 := hide (HB1.out.trans (hb3.mono HB1.out.size))
    have G5 := hide (below_blk hb3 G4.out (lt_blk G4.out))
    clear hb3 hz k0 k1 k2 m0 m1 m2
    have k0 := cell_blk G5.out 0
    have k1 := cell_blk G5.out 1
    have k2 := cell_blk G5.out 2
    have f0 := froz_blk G5.out 0
    have f1 := froz_blk G5.out 1
    have f2 := froz_blk G5.out 2
    have l6 := lt_blk G5.out
    go_wp2_with fail
    first
      | exact exit_spotE rfl (set3c (set3b (set3a G5.out _) _) _) rfl rfl rfl (.inl ⟨_, HZ.out, rfl, below_spot HB3.out (show w.heap.size ≤ w.heap.size + 1 + 1 by omega) _ _ _⟩)
      | exact exit_spotE rfl (set3c (set3b (set3a G5.out _) _) _) rfl rfl rfl (.inr ⟨HZ.out, rfl, below_spot HB3.out (show w.heap.size ≤ w.heap.size + 1 + 1 by omega) _ _ _⟩)
end Go.Proofs.YtklgpilgalfckaaGreatDoor
namespace Go.KI
open Go

def meetsP (p q r : V3) : Prop := vcross (vsub q p) (vsub r p) = vzero ∧ (vcmp p r = 0 ∨ vcmp r q = 0 ∨ vcmp p r = vcmp r q)
instance (p q r : V3) : Decidable (meetsP p q r) := inferInstanceAs (Decidable (_ ∧ _))
def half (n : Int) : Rat := Rat.divInt n 2
end Go.KI
namespace Go.Proofs.YtklgpilgalfckaaGreatDoor
open Go.RowKit Go.KP Go.KI Go.Shelf
attribute [local go_sem] Oper.semAt_some

theorem lspot_at (x y z : ByteArray) (w : World) :
    Calls Tryz.prog 27 #[.string x, .string y, .string z] w (fun e w' => e = .returned (spotV x y z) ∧ w' = w.alloc (spotO x y z)) := by
  go_enter Tryz.func27, Tryz.ntmps27
  go_wp2_with fail
  exact exit_spot rfl (heap1 w (spotO x y z)).1 rfl rfl ⟨rfl, rfl⟩
instance (n : Nat) (w : World) : Nonempty (Of (Below n w)) := ⟨⟨w, Below.refl n w⟩⟩
theorem lspot_cls (a b c : ByteArray) (m : Nat) (w0 : World) (hm : m ≤ w0.heap.size) (x : Of (Below m w0)) :
    Calls Tryz.prog 27 #[.string a, .string b, .string c] x.w fun e w' => e = .returned (spotV a b c) ∧ Cls (Below m w0) w' :=
  (lspot_at a b c x.w).mono fun _ _ ⟨h, hb⟩ => ⟨h, Cls.mk (by
    rw [hb]
    have h2 := x.h.size
    exact x.h.trans ((heap1 x.w (spotO a b c)).2.2.mono (by omega)))⟩
structure I3 where
  x : Int
  y : Int
  z : Int
def v3 (a : I3) : V3 := ⟨half a.x, half a.y, half a.z⟩
open Go.RowKit Go.KP Go.KI Go.Shelf
attribute [local go_sem] Oper.semAt_some

theorem houtside_no (n a b : Int) (h1 : a ≤ n) (h2 : n ≤ b) (w : World) :
    Calls Tryz.prog 67 #[.int .i64 n, .int .i64 a, .int .i64 b] w (fun e w' => e = .returned (.bool false) ∧ w' = w) := by
  have g1 : (n < a) = False := eq_false (by omega)
  have g2 : (b < n) = False := eq_false (by omega)
  clear h1 h2
  go_enter Tryz.func67, Tryz.ntmps67
  go_wp2_with fail
  go_ret
  exact ⟨rfl, rfl⟩
theorem hlong1_no {x : Rat} (hx : sz 36 x) (B : Nat) (w : World) (hB : B ≤ w.heap.size) (hT : PQ B w) :
    Calls Tryz.prog 118 #[.string (T x)] w (Ret w (.bool false)) := by
  have hf : fitsQ x := sz_fits hx (by rw [most_eq]; omega)
  have HT := hide hT
  have HP := hide (fun w hB hT => qParts_any (T x) (T_good hf).1 B w hB hT)
  rw [show partsR (T x).data.toList = tripV (Lib.itoa x.num) (Lib.itoa (x.den : Int)) 0 by unfold partsR; rw [if_pos (T_good hf).2.1, (T_good hf).2.2]] at HP
  obtain ⟨N, hN⟩ : ∃ Z, Z = strB (Lib.itoa x.num) := ⟨_, rfl⟩
  obtain ⟨D, hD⟩ : ∃ Z, Z = strB (Lib.itoa (x.den : Int)) := ⟨_, rfl⟩
  rw [show tripV (Lib.itoa x.num) (Lib.itoa (x.den : Int)) 0 = .tuple #[.string N, .string D, .int .i64 0] by rw [hN, hD]] at HP
  have HTP := hide (fun w => trimPrefix_any N w)
  obtain ⟨O, hO⟩ : ∃ Z, Z = strB (digs N.data.toList) := ⟨_, rfl⟩
  rw [← hO] at HTP
  have hOs : O.size ≤ 36 := by
    rw [hO, strB_size, hN, strB_list, digs_itoa]
    exact (dec_len_le (by omega)).2 hx.1
  have hDs : D.size ≤ 36 := by
    rw [hD, strB_size, Lib.itoa_nonneg]
    exact (dec_len_le (by omega)).2 hx.2
  have hm : ((36 : Int) < max (O.size : Int) (D.size : Int)) = False := eq_false (by omega)
  clear hN hD hO hOs hDs hx hf hT
  go_enter Tryz.func118, Tryz.ntmps118
  go_wp2_with fail
  refine (HP.out _ hB HT.out).mono ?_
  rintro e w1 ⟨rfl, hb1⟩
  have HB1 := hide hb1
  clear hb1
  go_wp2_with fail
  refine (HTP.out _).mono ?_
  rintro e w2 ⟨rfl, rfl⟩
  go_wp2_with fail
  go_ret
  exact ⟨rfl, HB1.out⟩
theorem hindex_no {a : V3} (ha : szV 36 a) (b : Nat) (t : TypeId) (B : Nat) (w : World) (hb : w.heap[b]? = some (.cells #[.string (T a.x), .string (T a.y), .string (T a.z)] t (0, 0))) (hB : B ≤ w.heap.size) (hT : PQ B w) :
    Calls Tryz.prog 172 #[.slice (some ⟨b, 0, none⟩) 3 3, .func (.func 118) #[] #[]] w (Ret w (.int .i64 (-1))) := by
  have HT := hide hT
  have H1 := hide (fun w hB hT => hlong1_no ha.1 B w hB hT)
  have H2 := hide (fun w hB hT => hlong1_no ha.2.1 B w hB hT)
  have H3 := hide (fun w hB hT => hlong1_no ha.2.2 B w hB hT)
  have G0 := hide hb
  have k0 := cell_blk hb 0
  have l0 := lt_blk hb
  clear hb hT ha
  go_enter Tryz.func172, Tryz.ntmps172
  go_wp2_with fail
  refine wp_loop_rounds 4 ?_
  rw [rounds_succ]
  go_wp2_with fail
  refine (H1.out _ hB HT.out).mono ?_
  rintro e w1 ⟨rfl, hb1⟩
  have HB1 := hide hb1
  have G1 := hide (below_blk hb1 G0.out l0)
  clear hb1 k0 l0
  go_wp2_with fail
  have k0 := cell_blk G1.out 1
  have l0 := lt_blk G1.out
  rw [rounds_succ]
  go_wp2_with fail
  refine (H2.out _ (Nat.le_trans hB HB1.out.size) (HT.out.on HB1.out hB)).mono ?_
  rintro e w2 ⟨rfl, hb2⟩
  have G2 := hide (below_blk hb2 G1.out l0)
  have HB2 := hide (HB1.out.trans (hb2.mono HB1.out.size))
  clear hb2 k0 l0
  go_wp2_with fail
  have k0 := cell_blk G2.out 2
  have l0 := lt_blk G2.out
  rw [rounds_succ]
  go_wp2_with fail
  refine (H3.out _ (Nat.le_trans hB HB2.out.size) (HT.out.on HB2.out hB)).mono ?_
  rintro e w3 ⟨rfl, hb3⟩
  have HB3 := hide (HB2.out.trans (hb3.mono HB2.out.size))
  clear hb3 k0 l0
  go_wp2_with fail
  rw [rounds_succ]
  go_wp2_with fail
  go_ret
  exact ⟨rfl, HB3.out⟩
theorem hcontains_no {a : V3} (ha : szV 36 a) (b : Nat) (t : TypeId) (B : Nat) (w : World) (hb : w.heap[b]? = some (.cells #[.string (T a.x), .string (T a.y), .string (T a.z)] t (0, 0))) (hB : B ≤ w.heap.size) (hT : PQ B w) :
    Calls Tryz.prog 117 #[.slice (some ⟨b, 0, none⟩) 3 3, .func (.func 118) #[] #[]] w (Ret w (.bool false)) := by
  have H1 := hide (hindex_no ha b t B w hb hB hT)
  clear ha hb hT
  go_enter Tryz.func117, Tryz.ntmps117
  go_wp2_with fail
  refine H1.out.mono ?_
  rintro e w1 ⟨rfl, hb1⟩
  have HB1 := hide hb1
  clear hb1
  go_wp2_with fail
  go_ret
  exact ⟨rfl, HB1.out⟩
theorem hlong_no {a : V3} (ha : szV 36 a) (B : Nat) (w : World) (hB : B ≤ w.heap.size) (hT : PQ B w) :
    Calls Tryz.prog 65 #[vecV a] w (Ret w (.bool false)) := by
  have HT := hide hT
  have H1 := hide (fun b t w hb hB hT => hcontains_no ha b t B w hb hB hT)
  have X0 := hide (heap2 w (vecO a) (.cells #[.string (T a.x), .string (T a.y), .string (T a.z)] 26))
  clear hT ha
  go_enter Tryz.func65, Tryz.ntmps65
  go_wp2_with fail
  refine (H1.out _ _ _ X0.out.2.1 (Nat.le_trans hB X0.out.2.2.2.size) (HT.out.on X0.out.2.2.2 hB)).mono ?_
  rintro e w1 ⟨rfl, hb1⟩
  have HB1 := hide (X0.out.2.2.2.trans (hb1.mono X0.out.2.2.2.size))
  clear hb1
  go_wp2_with fail
  go_ret
  exact ⟨rfl, HB1.out⟩
open Go.RowKit Go.KP Go.KI Go.Shelf
attribute [local go_sem] Oper.semAt_some

abbrev memV (k f o : Int) (a b : V3) (wd dp : Int) : Value := .agg #[.int .i64 k, .int .i64 f, .int .i64 o, .string (T a.x), .string (T a.y), .string (T a.z), .string (T b.x), .string (T b.y), .string (T b.z), .int .i64 wd, .int .i64 dp]
abbrev memO (k f o : Int) (a b : V3) (wd dp : Int) : Obj := .cells #[.int .i64 k, .int .i64 f, .int .i64 o, .string (T a.x), .string (T a.y), .string (T a.z), .string (T b.x), .string (T b.y), .string (T b.z), .int .i64 wd, .int .i64 dp] 32
structure Mem (k f o : Int) (a b : V3) (wd dp : Int) : Prop where
  k1 : 1 ≤ k
  k2 : k ≤ 12
  f0 : 0 ≤ f
  o0 : -1 ≤ o
  w1 : 1 ≤ wd
  w2 : wd ≤ 1000
  d1 : 1 ≤ dp
  d2 : dp ≤ 1000
  ha : szV 36 a
  hb : szV 36 b
  ne : a ≠ b
theorem Mem.fa {k f o : Int} {a b : V3} {wd dp : Int} (h : Mem k f o a b wd dp) : fitsV a := szV_fits h.ha (by rw [most_eq]; omega)
theorem Mem.fb {k f o : Int} {a b : V3} {wd dp : Int} (h : Mem k f o a b wd dp) : fitsV b := szV_fits h.hb (by rw [most_eq]; omega)
theorem hCheck_ok {k f o : Int} {a b : V3} {wd dp : Int} (h : Mem k f o a b wd dp) (B : Nat) (w : World) (hB : B ≤ w.heap.size) (hT : PQ B w) :
    Calls Tryz.prog 33 #[memV k f o a b wd dp] w (Ret w (.int .i64 0)) := by
  have HT := hide hT
  have HO1 := hide (fun w => houtside_no k 1 12 h.k1 h.k2 w)
  have HO2 := hide (fun w => houtside_no wd 1 1000 h.w1 h.w2 w)
  have HO3 := hide (fun w => houtside_no dp 1 1000 h.d1 h.d2 w)
  have g1 : (f < 0) = False := eq_false (by have := h.f0; omega)
  have g2 : (o < -1) = False := eq_false (by have := h.o0; omega)
  have HC1 := hide (fun w hB hT => vchk_T h.fa B w hB hT)
  have HC2 := hide (fun w hB hT => vchk_T h.fb B w hB hT)
  have HL1 := hide (fun w hB hT => hlong_no h.ha B w hB hT)
  have HL2 := hide (fun w hB hT => hlong_no h.hb B w hB hT)
  have he := eqSpot_T a b
  rw [decide_eq_false h.ne] at he
  have X0 := hide (heap3 w (memO k f o a b wd dp) (.cells #[.string (T a.x), .string (T a.y), .string (T a.z), .string (T b.x), .string (T b.y), .string (T b.z)] 28) (vecO a))
  clear h hT
  go_enter Tryz.func33, Tryz.ntmps33
  go_wp2_with fail
  refine (HO1.out _).mono ?_
  rintro e w' ⟨rfl, rfl⟩
  go_wp2_with fail
  refine (HO2.out _).mono ?_
  rintro e w' ⟨rfl, rfl⟩
  go_wp2_with fail
  refine (HO3.out _).mono ?_
  rintro e w' ⟨rfl, rfl⟩
  go_wp2_with fail
  refine wp_loop_rounds 3 ?_
  rw [rounds_succ]
  go_wp2_with fail
  refine (HC1.out _ (Nat.le_trans hB X0.out.2.2.2.2.size) (HT.out.on X0.out.2.2.2.2 hB)).mono ?_
  rintro e w1 ⟨rfl, hb1⟩
  have G1 := hide (below_blk hb1 X0.out.1 (lt_blk X0.out.1))
  have G2 := hide (below_blk hb1 X0.out.2.1 (lt_blk X0.out.2.1))
  have HB1 := hide (X0.out.2.2.2.2.trans (hb1.mono X0.out.2.2.2.2.size))
  clear hb1
  go_wp2_with fail
  have m3 := cell_blk G2.out 3
  have m4 := cell_blk G2.out 4
  have m5 := cell_blk G2.out 5
  have l2 := lt_blk G2.out
  rw [rounds_succ]
  go_wp2_with fail
  have HB1b := hide (HB1.out.trans ((heap1 w1 (vecO b)).2.2.mono HB1.out.size))
  have G1b := hide (below_blk (heap1 w1 (vecO b)).2.2 G1.out (lt_blk G1.out))
  refine (HC2.out _ (Nat.le_trans hB HB1b.out.size) (HT.out.on HB1b.out hB)).mono ?_
  rintro e w2 ⟨rfl, hb2⟩
  have G3 := hide (below_blk hb2 G1b.out (lt_blk G1b.out))
  have HB2 := hide (HB1b.out.trans (hb2.mono HB1b.out.size))
  clear hb2 m3 m4 m5 l2 G1 G2 G1b
  go_wp2_with fail
  have k3 := cell_blk G3.out 3
  have k4 := cell_blk G3.out 4
  have k5 := cell_blk G3.out 5
  have l1 := lt_blk G3.out
  rw [rounds_succ]
  go_wp2_with fail
  refine (HL1.out _ (Nat.le_trans hB HB2.out.size) (HT.out.on HB2.out hB)).mono ?_
  rintro e w3 ⟨rfl, hb3⟩
  have G4 := hide (below_blk hb3 G3.out (lt_blk G3.out))
  have HB3 := hide (HB2.out.trans (hb3.mono HB2.out.size))
  clear hb3 k3 k4 k5 l1 G3
  have k6 := cell_blk G4.out 6
  have k7 := cell_blk G4.out 7
  have k8 := cell_blk G4.out 8
  have l1 := lt_blk G4.out
  go_wp2_with fail
  refine (HL2.out _ (Nat.le_trans hB HB3.out.size) (HT.out.on HB3.out hB)).mono ?_
  rintro e w4 ⟨rfl, hb4⟩
  have G5 := hide (below_blk hb4 G4.out (lt_blk G4.out))
  have HB4 := hide (HB3.out.trans (hb4.mono HB3.out.size))
  clear hb4 k6 k7 k8 l1 G4
  have k3 := cell_blk G5.out 3
  have k4 := cell_blk G5.out 4
  have k5 := cell_blk G5.out 5
  have k6 := cell_blk G5.out 6
  have k7 := cell_blk G5.out 7
  have k8 := cell_blk G5.out 8
  have l1 := lt_blk G5.out
  go_wp2_with fail
  go_ret
  exact ⟨rfl, HB4.out⟩
open Go.RowKit Go.KP Go.KI Go.Shelf
attribute [local go_sem] Oper.semAt_some

theorem Mem.sub {k f o : Int} {a b : V3} {wd dp : Int} (h : Mem k f o a b wd dp) (B : Nat) (w : World) (hB : B ≤ w.heap.size) (hT : PQ B w) :
    Calls Tryz.prog 66 #[vecV b, vecV a] w (Ret w (.tuple #[vecV (vsub b a), .int .i64 0])) :=
  (vSub_O h.fb h.fa B w hB hT).mono fun _ _ hr => ResV.of (sub2_sz h.hb h.ha (by rw [most_eq]; omega)) hr
theorem Mem.szd {k f o : Int} {a b : V3} {wd dp : Int} (h : Mem k f o a b wd dp) : szV 73 (vsub b a) := szV_sub h.hb h.ha
theorem Mem.fd {k f o : Int} {a b : V3} {wd dp : Int} (h : Mem k f o a b wd dp) : fitsV (vsub b a) := szV_fits h.szd (by rw [most_eq]; omega)
theorem heap4 (w : World) (o1 o2 o3 o4 : Obj) : ((((w.alloc o1).alloc o2).alloc o3).alloc o4).heap[w.heap.size]? = some o1 ∧ ((((w.alloc o1).alloc o2).alloc o3).alloc o4).heap[w.heap.size + 1]? = some o2 ∧ ((((w.alloc o1).alloc o2).alloc o3).alloc o4).heap[w.heap.size + 2]? = some o3 ∧ Below w.heap.size w ((((w.alloc o1).alloc o2).alloc o3).alloc o4) := by
  obtain ⟨a1, a2, a3, a4, a5⟩ := heap3 w o1 o2 o3
  obtain ⟨_, _, b3⟩ := heap1 (((w.alloc o1).alloc o2).alloc o3) o4
  rw [a4] at b3
  exact ⟨below_blk b3 a1 (by omega), below_blk b3 a2 (by omega), below_blk b3 a3 (by omega), a5.trans (b3.mono (by omega))⟩
theorem hofS {g : Nat} (hen : ∀ args w, (callFunc g args).run Tryz.prog w = .ok (.enter g args) w) {k f o : Int} {a b : V3} {wd dp : Int} (h : Mem k f o a b wd dp) {x y z : ByteArray} {B : Nat} (HG : ∀ w, B ≤ w.heap.size → PQ B w → Calls Tryz.prog g #[vecV (vsub b a)] w (Ret w (.tuple #[spotV x y z, .int .i64 0]))) (w : World) (hB : B ≤ w.heap.size) (hT : PQ B w) :
    Calls Tryz.prog 60 #[.agg #[.func (.func g) #[] #[]], memV k f o a b wd dp] w (Ret w (.tuple #[spotV x y z, .int .i64 0])) := by
  have HT := hide hT
  have HC := hide (fun w hB hT => hCheck_ok h B w hB hT)
  have HS := hide (fun w hB hT => h.sub B w hB hT)
  have HG := hide HG
  obtain ⟨d, hd⟩ : ∃ d, d = vsub b a := ⟨_, rfl⟩
  rw [← hd] at HS HG
  have X0 := hide (heap4 w (.cells #[.func (.func g) #[] #[]] 110) (memO k f o a b wd dp) (spotO ⟨#[]⟩ ⟨#[]⟩ ⟨#[]⟩) (spotO ⟨#[]⟩ ⟨#[]⟩ ⟨#[]⟩))
  clear h hT hd
  go_enter Tryz.func60, Tryz.ntmps60
  go_wp2_with fail
  refine (HC.out _ (Nat.le_trans hB X0.out.2.2.2.size) (HT.out.on X0.out.2.2.2 hB)).mono ?_
  rintro e w1 ⟨rfl, hb1⟩
  have G1 := hide (below_blk hb1 X0.out.1 (lt_blk X0.out.1))
  have G2 := hide (below_blk hb1 X0.out.2.1 (lt_blk X0.out.2.1))
  have G4 := hide (below_blk hb1 X0.out.2.2.1 (lt_blk X0.out.2.2.1))
  have HB1 := hide (X0.out.2.2.2.trans (hb1.mono X0.out.2.2.2.size))
  clear hb1
  have k3 := cell_blk G2.out 3
  have k4 := cell_blk G2.out 4
  have k5 := cell_blk G2.out 5
  have k6 := cell_blk G2.out 6
  have k7 := cell_blk G2.out 7
  have k8 := cell_blk G2.out 8
  have l2 := lt_blk G2.out
  go_wp2_with fail
  refine (HS.out _ (Nat.le_trans hB HB1.out.size) (HT.out.on HB1.out hB)).mono ?_
  rintro e w2 ⟨rfl, hb2⟩
  have X2 := hide (heap1 w2 (vecO d))
  have G3 := hide (below_blk (hb2.trans (X2.out.2.2.mono hb2.size)) G1.out (lt_blk G1.out))
  have G4 := hide (below_blk (hb2.trans (X2.out.2.2.mono hb2.size)) G4.out (lt_blk G4.out))
  have HB2 := hide (HB1.out.trans ((hb2.trans (X2.out.2.2.mono hb2.size)).mono HB1.out.size))
  clear hb2 k3 k4 k5 k6 k7 k8 l2 G1 G2
  have k0 := cell_blk G3.out 0
  have l0 := lt_blk G3.out
  go_wp2_with fail
  refine (HG.out _ (Nat.le_trans hB HB2.out.size) (HT.out.on HB2.out hB)).mono ?_
  rintro e w3 ⟨rfl, hb3⟩
  have HB3 := hide (HB2.out.trans (hb3.mono HB2.out.size))
  have G5 := hide (below_blk hb3 G4.out (lt_blk G4.out))
  clear hb3 k0 l0
  have k0 := cell_blk G5.out 0
  have k1 := cell_blk G5.out 1
  have k2 := cell_blk G5.out 2
  have f0 := froz_blk G5.out 0
  have f1 := froz_blk G5.out 1
  have f2 := froz_blk G5.out 2
  have l6 := lt_blk G5.out
  go_wp2_with fail
  exact exit_spotE rfl (set3c (set3b (set3a G5.out _) _) _) rfl rfl rfl ⟨rfl, below_spot HB3.out (show w.heap.size ≤ w.heap.size + 1 + 1 by omega) _ _ _⟩
theorem hofN {g : Nat} (hen : ∀ args w, (callFunc g args).run Tryz.prog w = .ok (.enter g args) w) {k f o : Int} {a b : V3} {wd dp : Int} (h : Mem k f o a b wd dp) {x : ByteArray} {B : Nat} (HG : ∀ w, B ≤ w.heap.size → PQ B w → Calls Tryz.prog g #[vecV (vsub b a)] w (Ret w (.tuple #[.string x, .int .i64 0]))) (w : World) (hB : B ≤ w.heap.size) (hT : PQ B w) :
    Calls Tryz.prog 64 #[.agg #[.func (.func g) #[] #[]], memV k f o a b wd dp] w (Ret w (.tuple #[.string x, .int .i64 0])) := by
  have HT := hide hT
  have HC := hide (fun w hB hT => hCheck_ok h B w hB hT)
  have HS := hide (fun w hB hT => h.sub B w hB hT)
  have HG := hide HG
  obtain ⟨d, hd⟩ : ∃ d, d = vsub b a := ⟨_, rfl⟩
  rw [← hd] at HS HG
  have X0 := hide (heap2 w (.cells #[.func (.func g) #[] #[]] 113) (memO k f o a b wd dp))
  clear h hT hd
  go_enter Tryz.func64, Tryz.ntmps64
  go_wp2_with fail
  refine (HC.out _ (Nat.le_trans hB X0.out.2.2.2.size) (HT.out.on X0.out.2.2.2 hB)).mono ?_
  rintro e w1 ⟨rfl, hb1⟩
  have G1 := hide (below_blk hb1 X0.out.1 (lt_blk X0.out.1))
  have G2 := hide (below_blk hb1 X0.out.2.1 (lt_blk X0.out.2.1))
  have HB1 := hide (X0.out.2.2.2.trans (hb1.mono X0.out.2.2.2.size))
  clear hb1
  have k3 := cell_blk G2.out 3
  have k4 := cell_blk G2.out 4
  have k5 := cell_blk G2.out 5
  have k6 := cell_blk G2.out 6
  have k7 := cell_blk G2.out 7
  have k8 := cell_blk G2.out 8
  have l2 := lt_blk G2.out
  go_wp2_with fail
  refine (HS.out _ (Nat.le_trans hB HB1.out.size) (HT.out.on HB1.out hB)).mono ?_
  rintro e w2 ⟨rfl, hb2⟩
  have X2 := hide (heap1 w2 (vecO d))
  have G3 := hide (below_blk (hb2.trans (X2.out.2.2.mono hb2.size)) G1.out (lt_blk G1.out))
  have HB2 := hide (HB1.out.trans ((hb2.trans (X2.out.2.2.mono hb2.size)).mono HB1.out.size))
  clear hb2 k3 k4 k5 k6 k7 k8 l2 G1 G2
  have k0 := cell_blk G3.out 0
  have l0 := lt_blk G3.out
  go_wp2_with fail
  refine (HG.out _ (Nat.le_trans hB HB2.out.size) (HT.out.on HB2.out hB)).mono ?_
  rintro e w3 ⟨rfl, hb3⟩
  have HB3 := hide (HB2.out.trans (hb3.mono HB2.out.size))
  clear hb3 k0 l0
  go_wp2_with fail
  refine bodyPost_ret (results_tmp2 rfl _ _ _) rfl ?_
  exact ⟨rfl, HB3.out⟩
theorem hdir1_any (d : V3) (w : World) :
    Calls Tryz.prog 59 #[vecV d] w (Ret w (.tuple #[vecV d, .int .i64 0])) := by
  go_enter Tryz.func59, Tryz.ntmps59
  go_wp2_with fail
  obtain ⟨_, h2, _, h4⟩ := heap2 w (vecO d) (vecO d)
  exact exit_spotE rfl h2 rfl rfl rfl ⟨rfl, h4⟩
theorem hrise1_any (d : V3) (w : World) :
    Calls Tryz.prog 63 #[vecV d] w (Ret w (.tuple #[.string (T d.z), .int .i64 0])) := by
  go_enter Tryz.func63, Tryz.ntmps63
  go_wp2_with fail
  refine bodyPost_ret (results_tmp2 rfl _ _ _) rfl ?_
  exact ⟨rfl, (heap1 w (vecO d)).2.2⟩
def vside (d : V3) : V3 := ⟨0 - d.y, d.x, 0⟩
theorem hside1_any {d : V3} (hd : szV 73 d) (B : Nat) (w : World) (hB : B ≤ w.heap.size) (hT : PQ B w) :
    Calls Tryz.prog 61 #[vecV d] w (Ret w (.tuple #[vecV (vside d), .int .i64 0])) := by
  have HT := hide hT
  have s0 : sz 1 (0 : Rat) := ⟨by decide, by decide⟩
  have HS := hide (fun w hB hT => (qsub_O (x := 0) (y := d.y) (sz_fits s0 (by rw [most_eq]; omega)) (sz_fits hd.2.1 (by rw [most_eq]; omega)) B w hB hT).mono fun _ _ hr => ResO.of (subO_sz s0 hd.2.1 (by rw [most_eq]; omega)) hr)
  rw [T0] at HS
  have X0 := hide (heap2 w (vecO d) (spotO ⟨#[]⟩ ⟨#[]⟩ ⟨#[]⟩))
  have hV : vecV (vside d) = .agg #[.string (T (0 - d.y)), .string (T d.x), .string ⟨#[48]⟩] := by
    show Value.agg #[.string (T (0 - d.y)), .string (T d.x), .string (T 0)] = _
    rw [T0]
  rw [hV]
  obtain ⟨Y, hY⟩ : ∃ Y, Y = T (0 - d.y) := ⟨_, rfl⟩
  rw [← hY] at HS ⊢
  clear hV hY hd hT s0
  go_enter Tryz.func61, Tryz.ntmps61
  go_wp2_with fail
  refine (HS.out _ (Nat.le_trans hB X0.out.2.2.2.size) (HT.out.on X0.out.2.2.2 hB)).mono ?_
  rintro e w1 ⟨rfl, hb1⟩
  have G1 := hide (below_blk hb1 X0.out.1 (lt_blk X0.out.1))
  have G5 := hide (below_blk hb1 X0.out.2.1 (lt_blk X0.out.2.1))
  have HB1 := hide (X0.out.2.2.2.trans (hb1.mono X0.out.2.2.2.size))
  clear hb1
  have m0 := cell_blk G1.out 0
  have l1 := lt_blk G1.out
  have k0 := cell_blk G5.out 0
  have k1 := cell_blk G5.out 1
  have k2 := cell_blk G5.out 2
  have f0 := froz_blk G5.out 0
  have f1 := froz_blk G5.out 1
  have f2 := froz_blk G5.out 2
  have l6 := lt_blk G5.out
  go_wp2_with fail
  exact exit_spotE rfl (set3c (set3b (set3a G5.out _) _) _) rfl rfl rfl ⟨rfl, below_spot HB1.out (show w.heap.size ≤ w.heap.size + 1 by omega) _ _ _⟩
theorem hDirection_to {k f o : Int} {a b : V3} {wd dp : Int} (h : Mem k f o a b wd dp) (B : Nat) (w : World) (hB : B ≤ w.heap.size) (hT : PQ B w) :
    Calls Tryz.prog 28 #[memV k f o a b wd dp] w (Ret w (.tuple #[vecV (vsub b a), .int .i64 0])) := by
  have HT := hide hT
  have HQ := hide (fun w hB hT => hofS (enters_of Tryz.func59 (by kernel_rfl) rfl) h (B := B) (fun w hB hT => hdir1_any _ w) w hB hT)
  have X0 := hide (heap2 w (memO k f o a b wd dp) (spotO ⟨#[]⟩ ⟨#[]⟩ ⟨#[]⟩))
  obtain ⟨r, hr⟩ : ∃ r, r = vsub b a := ⟨_, rfl⟩
  have HQ : Hid (∀ w, B ≤ w.heap.size → PQ B w → Calls Tryz.prog 60 #[.agg #[.func (.func 59) #[] #[]], memV k f o a b wd dp] w (Ret w (.tuple #[vecV r, .int .i64 0]))) := hide (by rw [hr]; exact HQ.out)
  rw [← hr]
  clear h hT hr
  go_enter Tryz.func28, Tryz.ntmps28
  go_wp2_with fail
  refine (HQ.out _ (Nat.le_trans hB X0.out.2.2.2.size) (HT.out.on X0.out.2.2.2 hB)).mono ?_
  rintro e w1 ⟨rfl, hb1⟩
  have G5 := hide (below_blk hb1 X0.out.2.1 (lt_blk X0.out.2.1))
  have HB1 := hide (X0.out.2.2.2.trans (hb1.mono X0.out.2.2.2.size))
  clear hb1
  have k0 := cell_blk G5.out 0
  have k1 := cell_blk G5.out 1
  have k2 := cell_blk G5.out 2
  have f0 := froz_blk G5.out 0
  have f1 := froz_blk G5.out 1
  have f2 := froz_blk G5.out 2
  have l6 := lt_blk G5.out
  go_wp2_with fail
  exact exit_spotE rfl (set3c (set3b (set3a G5.out _) _) _) rfl rfl rfl ⟨rfl, below_spot HB1.out (show w.heap.size ≤ w.heap.size + 1 by omega) _ _ _⟩
theorem hSide_to {k f o : Int} {a b : V3} {wd dp : Int} (h : Mem k f o a b wd dp) (B : Nat) (w : World) (hB : B ≤ w.heap.size) (hT : PQ B w) :
    Calls Tryz.prog 29 #[memV k f o a b wd dp] w (Ret w (.tuple #[vecV (vside (vsub b a)), .int .i64 0])) := by
  have HT := hide hT
  have HQ := hide (fun w hB hT => hofS (enters_of Tryz.func61 (by kernel_rfl) rfl) h (B := B) (fun w hB hT => hside1_any h.szd B w hB hT) w hB hT)
  have X0 := hide (heap2 w (memO k f o a b wd dp) (spotO ⟨#[]⟩ ⟨#[]⟩ ⟨#[]⟩))
  obtain ⟨r, hr⟩ : ∃ r, r = vside (vsub b a) := ⟨_, rfl⟩
  have HQ : Hid (∀ w, B ≤ w.heap.size → PQ B w → Calls Tryz.prog 60 #[.agg #[.func (.func 61) #[] #[]], memV k f o a b wd dp] w (Ret w (.tuple #[vecV r, .int .i64 0]))) := hide (by rw [hr]; exact HQ.out)
  rw [← hr]
  clear h hT hr
  go_enter Tryz.func29, Tryz.ntmps29
  go_wp2_with fail
  refine (HQ.out _ (Nat.le_trans hB X0.out.2.2.2.size) (HT.out.on X0.out.2.2.2 hB)).mono ?_
  rintro e w1 ⟨rfl, hb1⟩
  have G5 := hide (below_blk hb1 X0.out.2.1 (lt_blk X0.out.2.1))
  have HB1 := hide (X0.out.2.2.2.trans (hb1.mono X0.out.2.2.2.size))
  clear hb1
  have k0 := cell_blk G5.out 0
  have k1 := cell_blk G5.out 1
  have k2 := cell_blk G5.out 2
  have f0 := froz_blk G5.out 0
  have f1 := froz_blk G5.out 1
  have f2 := froz_blk G5.out 2
  have l6 := lt_blk G5.out
  go_wp2_with fail
  exact exit_spotE rfl (set3c (set3b (set3a G5.out _) _) _) rfl rfl rfl ⟨rfl, below_spot HB1.out (show w.heap.size ≤ w.heap.size + 1 by omega) _ _ _⟩
theorem hRise_to {k f o : Int} {a b : V3} {wd dp : Int} (h : Mem k f o a b wd dp) (B : Nat) (w : World) (hB : B ≤ w.heap.size) (hT : PQ B w) :
    Calls Tryz.prog 30 #[memV k f o a b wd dp] w (Ret w (.tuple #[.string (T (vsub b a).z), .int .i64 0])) := by
  have HT := hide hT
  have HQ := hide (fun w hB hT => hofN (enters_of Tryz.func63 (by kernel_rfl) rfl) h (B := B) (fun w _ _ => hrise1_any _ w) w hB hT)
  have X0 := hide (heap1 w (memO k f o a b wd dp))
  obtain ⟨r, hr⟩ : ∃ r, r = T (vsub b a).z := ⟨_, rfl⟩
  rw [← hr] at HQ ⊢
  clear h hT hr
  go_enter Tryz.func30, Tryz.ntmps30
  go_wp2_with fail
  refine (HQ.out _ (Nat.le_trans hB X0.out.2.2.size) (HT.out.on X0.out.2.2 hB)).mono ?_
  rintro e w1 ⟨rfl, hb1⟩
  have HB1 := hide (X0.out.2.2.trans (hb1.mono X0.out.2.2.size))
  clear hb1
  go_wp2_with fail
  refine bodyPost_ret (results_tmp2 rfl _ _ _) rfl ?_
  exact ⟨rfl, HB1.out⟩
end Go.Proofs.YtklgpilgalfckaaGreatDoor
namespace Go.KI
open Go
theorem numeral_lead (l : List UInt8) : numeral l ↔ l ≠ [] ∧ l.length ≤ (lead l).length ∧ ¬ (1 < l.length ∧ l.head? = some 48) := by
  constructor
  · rintro ⟨h1, h2, h3⟩
    refine ⟨h1, by rw [lead_all (List.all_eq_true.1 h2)]; exact Nat.le_refl _, fun h => ?_⟩
    rw [h3 h.2] at h
    exact absurd h.1 (by decide)
  · rintro ⟨h1, h2, h3⟩
    refine ⟨h1, List.all_eq_true.2 (lead_full h2), fun hh => ?_⟩
    have h4 : ¬ 1 < l.length := fun e => h3 ⟨e, hh⟩
    cases l with
    | nil => exact absurd rfl h1
    | cons a b =>
      simp only [List.length_cons] at h4
      have : b = [] := List.eq_nil_of_length_eq_zero (by omega)
      rw [this]
      injection hh with hh
      rw [hh]
end Go.KI
namespace Go.Proofs.YtklgpilgalfckaaGreatDoor
open Go.RowKit Go.KP Go.KI Go.Shelf
attribute [local go_sem] Oper.semAt_some

theorem r2gcd_any (a b : Nat) (ha : a < 5000000000000000000) (hb : b < 5000000000000000000) (w : World) :
    Calls Tryz.prog 137 #[.int .i64 a, .int .i64 b] w (Ret w (.int .i64 (Nat.gcd a b : Nat))) := by
  obtain ⟨G, hG⟩ : ∃ G, G = Nat.gcd a b := ⟨_, rfl⟩
  rw [← hG]
  have HG := hide hG
  clear hG
  go_enter Tryz.func137, Tryz.ntmps137
  go_wp2_with fail
  go_loopw [0, 1] (fun x y wr => ∃ p q : Nat, x = .int .i64 p ∧ y = .int .i64 q ∧ p < 5000000000000000000 ∧ q < 5000000000000000000 ∧ Hid (Nat.gcd p q = G ∧ Below w.heap.size w wr)) (fun _ y _ => (intOf y).toNat)
  case atStart => exact ⟨a, b, rfl, rfl, ha, hb, HG.out.symm, Below.refl _ _⟩
  case round =>
    obtain ⟨p, q, rfl, rfl, hp, hq, hin⟩ := hrel
    have IN := hide hin.out
    clear hin
    by_cases hq0 : q = 0
    · subst hq0
      have hqq : (((0 : Nat) : Int) != 0) = false := rfl
      have hG : p = G := by have := IN.out.1; simpa using this
      have GG := hide hG
      clear hq hG
      go_wp2_with fail
      go_ret
      rw [← GG.out]
      exact ⟨rfl, IN.out.2⟩
    · have hqq : ((q : Int) != 0) = true := by
        have : (q : Int) ≠ 0 := by omega
        simpa using this
      have hqz : ((q : Int) == 0) = false := by
        have : (q : Int) ≠ 0 := by omega
        simpa using this
      obtain ⟨r, hr⟩ : ∃ r, r = p % q := ⟨_, rfl⟩
      have hri : (p : Int) % (q : Int) = (r : Int) := by rw [hr, Int.natCast_emod]
      have hrl : r < q := by rw [hr]; exact Nat.mod_lt _ (by omega)
      have HR := hide hr; have HRI := hide hri
      clear hq0 hr
      go_wp2_with fail
      go_quiet (fail)
      have HB := hide (below_drewN IN.out.2 nq)
      clear hqq hqz
      go_wp2_with fail
      go_roundw
      case rel =>
        refine ⟨q, r, rfl, by first | rfl | rw [HRI.out], by omega, by omega, ?_, HB.out⟩
        rw [HR.out, ← IN.out.1, Nat.gcd_comm q, ← Nat.gcd_rec, Nat.gcd_comm]
      case measure => simp [intOf]; omega
theorem r2digits_any (s : ByteArray) (hs : s.size ≤ 9223372036854775807) (b : Bool) (hb : b = decide (numeral s.data.toList)) (w : World) :
    Calls Tryz.prog 174 #[.string s] w (Ret w (.bool b)) := by
  have hnl := numeral_lead s.data.toList
  rw [bytes_len] at hnl
  by_cases h0 : s.size = 0
  · have z : ((s.size : Int) == 0) = true := by rw [h0]; rfl
    have hbf : b = false := by
      rw [hb, decide_eq_false_iff_not, hnl]
      exact fun h => h.1 (List.eq_nil_of_length_eq_zero (by rw [bytes_len]; exact h0))
    subst hbf
    clear hb hnl h0
    go_enter Tryz.func174, Tryz.ntmps174
    go_wp2_with fail
    go_ret
    exact ⟨rfl, Below.refl _ _⟩
  have z : ((s.size : Int) == 0) = false := by
    simp only [beq_eq_false_iff_ne, ne_eq]
    omega
  have hp : 0 < s.size := by omega
  have hne : s.data.toList ≠ [] := fun e => h0 (by rw [← bytes_len, e]; rfl)
  have hh : s.data.toList.head? = some (s[0]'hp) := by
    have h3 : s.data.toList[0]? = some s.data[0] := by simp
    rw [List.head?_eq_getElem?]
    exact h3
  by_cases hbad : 1 < s.size ∧ s.data.toList.head? = some 48
  · have y1 : (1 : Int) < (s.size : Int) := by omega
    have y2 : (((s[0]'hp).toNat : Int) == 48) = true := by
      have := hbad.2
      rw [hh] at this
      injection this with this
      rw [this]
      rfl
    have hbf : b = false := by rw [hb, decide_eq_false_iff_not, hnl]; exact fun h => h.2.2 hbad
    subst hbf
    clear hb hnl h0 hne hh hbad
    go_enter Tryz.func174, Tryz.ntmps174
    go_wp2_with fail
    go_ret
    exact ⟨rfl, Below.refl _ _⟩
  have hway : ((1 : Int) < (s.size : Int)) = False ∨ ((1 : Int) < (s.size : Int) ∧ (((s[0]'hp).toNat : Int) == 48) = false) := by
    by_cases h1 : 1 < s.size
    · refine .inr ⟨by omega, ?_⟩
      have h48 : s[0]'hp ≠ 48 := fun e => hbad ⟨h1, by rw [hh, e]⟩
      have : (s[0]'hp).toNat ≠ 48 := fun e => h48 (UInt8.toNat_inj.1 e)
      simp only [beq_eq_false_iff_ne, ne_eq]
      omega
    · exact .inl (eq_false (by omega))
  obtain ⟨L, hL⟩ : ∃ L, L = (lead s.data.toList).length := ⟨_, rfl⟩
  have hLs : L ≤ s.size := by rw [hL, ← bytes_len]; exact lead_le _
  have HB := hide (show b = decide (s.size ≤ L) by
    rw [hb]
    refine decide_eq_decide.2 ?_
    rw [hnl, ← hL]
    exact ⟨fun h => h.2.1, fun h => ⟨hne, h, hbad⟩⟩)
  have HLE := hide hL
  clear hL hb hnl h0 hne hh hbad
  rcases hway with y1 | ⟨y1, y2⟩
  all_goals
    go_enter Tryz.func174, Tryz.ntmps174
    go_wp2_with fail
    clear y1
    go_loopw [3] (fun i wr => ∃ k : Nat, k ≤ L ∧ i = .int .i64 k ∧ wr = w) (fun i _ => s.size - (intOf i).toNat)
    case atStart => exact ⟨0, by omega, rfl, rfl⟩
    case round =>
      obtain ⟨k, hkL, rfl, rfl⟩ := hrel
      by_cases hkl : k < L
      · have hlt : k < s.size := by omega
        have hki : (k : Int) < (s.size : Int) := by omega
        have hk0 : (0 : Int) ≤ (k : Int) := by omega
        obtain ⟨c, hc, hcd⟩ := lead_at (l := s.data.toList) (k := k) (by rw [← HLE.out]; exact hkl)
        have hat : s.data.toList[k]? = some (s[k]'hlt) := by
          have h1 : s.data.toList[k]? = some s.data[k] := by simp
          exact h1
        obtain ⟨y, hyv⟩ : ∃ y : Nat, y = (s[k]'hlt).toNat := ⟨_, rfl⟩
        have hyv2 : (s[k]'hlt).toNat = y := hyv.symm
        have hdg : 48 ≤ y ∧ y ≤ 57 := by
          rw [hat] at hc
          injection hc with hc
          rw [hyv, hc]
          exact isDg_iff.1 hcd
        have v0 : ((y : Int) < 48) = False := eq_false (by omega)
        have v1 : ((57 : Int) < (y : Int)) = False := eq_false (by omega)
        clear hat hyv hdg hc hcd
        go_wp2_with fail
        go_roundw
        case rel => exact ⟨k + 1, by omega, by go_num, trivial⟩
        case measure => simp [intOf]; omega
      · have hkL2 : k = L := by omega
        have hk0 : (0 : Int) ≤ (k : Int) := by omega
        by_cases hfin : k < s.size
        · have hki : (k : Int) < (s.size : Int) := by omega
          obtain ⟨c, hc⟩ : ∃ c, s[k]'hfin = c := ⟨_, rfl⟩
          have hat : s.data.toList[k]? = some c := by
            have h3 : s.data.toList[k]? = some s.data[k] := by simp
            rw [h3]
            exact congrArg some hc
          have hat2 : s.data.toList[(lead s.data.toList).length]? = some c := by rw [← HLE.out, ← hkL2]; exact hat
          have h4 := lead_end hat2
          have h5 : ¬ (48 ≤ c.toNat ∧ c.toNat ≤ 57) := fun h => by
            have h6 := isDg_iff.2 h
            rw [h4] at h6
            cases h6
          obtain ⟨y, hyv⟩ : ∃ y : Nat, y = c.toNat := ⟨_, rfl⟩
          have hyv2 : (s[k]'hfin).toNat = y := by rw [hc, hyv]
          have HBF := hide (show b = false by rw [HB.out, decide_eq_false_iff_not]; omega)
          rw [← hyv] at h5
          clear hyv hc hat hat2 h4 hkL2
          rcases (show y < 48 ∨ (¬ y < 48 ∧ 57 < y) by omega) with v0 | ⟨v0, v1⟩
          · have v0i : (y : Int) < 48 := by omega
            clear v0
            go_wp2_with fail
            go_ret
            rw [HBF.out]
            exact ⟨rfl, Below.refl _ _⟩
          · have v0i : ((y : Int) < 48) = False := eq_false (by omega)
            have v1i : (57 : Int) < (y : Int) := by omega
            clear v0 v1
            go_wp2_with fail
            go_ret
            rw [HBF.out]
            exact ⟨rfl, Below.refl _ _⟩
        · have hki : ((k : Int) < (s.size : Int)) = False := eq_false (by omega)
          have HBF := hide (show b = true by rw [HB.out, decide_eq_true_iff]; omega)
          clear hkL2
          go_wp2_with fail
          go_ret
          rw [HBF.out]
          exact ⟨rfl, Below.refl _ _⟩
end Go.Proofs.YtklgpilgalfckaaGreatDoor
namespace Go.KI
open Go
theorem ahead_at {c : UInt8} {l : List UInt8} {k : Nat} (h : k < (ahead c l).length) : ∃ x, l[k]? = some x ∧ x ≠ c := by
  have hp : (ahead c l) <+: l := List.takeWhile_prefix _
  obtain ⟨t, ht⟩ := hp
  refine ⟨(ahead c l)[k], ?_, ahead_ne l _ (List.getElem_mem h)⟩
  have e : l[k]? = (ahead c l ++ t)[k]? := by rw [ht]
  rw [e, List.getElem?_append_left h]
  exact List.getElem?_eq_getElem h
theorem ahead_take {c : UInt8} {l : List UInt8} (h : c ∈ l) : l.take (ahead c l).length = ahead c l := by
  have h2 := congrArg (List.take (ahead c l).length) (split_eq h)
  rw [List.take_left] at h2
  exact h2
theorem behind_drop {c : UInt8} {l : List UInt8} (h : c ∈ l) : l.drop ((ahead c l).length + 1) = behind c l := by
  have h2 := congrArg (List.drop ((ahead c l).length + 1)) (split_eq h)
  rw [h2, List.drop_append]
  simp
theorem ahead_stop {c : UInt8} {l : List UInt8} (h : c ∈ l) : l[(ahead c l).length]? = some c := by
  have e := split_eq h
  have h2 := congrArg (fun m : List UInt8 => m[(ahead c l).length]?) e
  rw [h2, List.getElem?_append_right (Nat.le_refl _), Nat.sub_self]
  rfl
end Go.KI
namespace Go.Proofs.YtklgpilgalfckaaGreatDoor
open Go.RowKit Go.KP Go.KI Go.Shelf
attribute [local go_sem] Oper.semAt_some

def splitR (l : List UInt8) : Value := .tuple #[.bool (isNeg l), .string (strB (KI.ahead 47 (digs l))), .string (strB (if 47 ∈ digs l then KI.behind 47 (digs l) else [])), .bool (decide (47 ∈ digs l))]
theorem ret4 {f : Func} {R : Ending → World → Prop} {a : Act} {W : World} {t0 t1 t2 t3 : Tmp} {v0 v1 v2 v3 : Value} (hf : f.results = #[.tmp t0, .tmp t1, .tmp t2, .tmp t3]) (h0 : a.tmps[t0]? = some v0) (h1 : a.tmps[t1]? = some v1) (h2 : a.tmps[t2]? = some v2) (h3 : a.tmps[t3]? = some v3) (hd : a.defers = []) (hR : R (.returned (.tuple #[v0, v1, v2, v3])) W) :
    bodyPost Tryz.prog f R .ret a W := by
  refine bodyPost_ret ?_ hd hR
  simp [results, hf, go_sem, h0, h1, h2, h3]
theorem r2split_any (s : ByteArray) (hs : s.size ≤ 9223372036854775807) (w : World) :
    Calls Tryz.prog 135 #[.string s] w (Ret w (splitR s.data.toList)) := by
  obtain ⟨l, hl⟩ : ∃ l, l = digs s.data.toList := ⟨_, rfl⟩
  obtain ⟨O, hO⟩ : ∃ O, O = strB l := ⟨_, rfl⟩
  have hOl : O.data.toList = l := by rw [hO, strB_list]
  have hdl : l.length ≤ s.size := by rw [hl, digs_drop, List.length_drop, bytes_len]; omega
  have hOs : O.size ≤ s.size := by rw [← bytes_len, hOl]; exact hdl
  obtain ⟨K, hK⟩ : ∃ K, K = (KI.ahead 47 l).length := ⟨_, rfl⟩
  have hKl : K ≤ O.size := by rw [hK, ← bytes_len, hOl]; exact List.Sublist.length_le (List.takeWhile_sublist _)
  obtain ⟨neg, hneg⟩ : ∃ n, n = isNeg s.data.toList := ⟨_, rfl⟩
  have HAT := hide (fun (k : Nat) (h : k < K) => show ∃ x, O.data.toList[k]? = some x ∧ x ≠ 47 by rw [hOl]; exact ahead_at (by rw [← hK]; exact h))
  have hfin : (47 ∈ l ∧ O.data.toList[K]? = some 47 ∧ K < O.size ∧ splitR s.data.toList = .tuple #[.bool neg, .string (O.extract 0 K), .string (O.extract (K + 1) O.size), .bool true]) ∨
      (¬ 47 ∈ l ∧ K = O.size ∧ splitR s.data.toList = .tuple #[.bool neg, .string O, .string ⟨#[]⟩, .bool false]) := by
    unfold splitR
    rw [← hl, ← hneg]
    by_cases h : 47 ∈ l
    · have h1 := ahead_stop h
      rw [← hK] at h1
      refine .inl ⟨h, by rw [hOl]; exact h1, ?_, ?_⟩
      · have := (List.getElem?_eq_some_iff.1 h1).1
        rw [← bytes_len, hOl]
        exact this
      · rw [if_pos h, show decide (47 ∈ l) = true by simpa using h, ext_drop, hOl]
        have e1 : strB (KI.ahead 47 l) = O.extract 0 K := by
          apply bytes_eq
          rw [strB_list, ← ahead_take h, ← hK, hO]
          simp [strB]
        have e2 : KI.behind 47 l = l.drop (K + 1) := by rw [hK, behind_drop h]
        rw [e1, e2]
    · refine .inr ⟨h, ?_, ?_⟩
      · rw [hK, cut_not h, ← bytes_len, hOl]
      · rw [if_neg h, show decide (47 ∈ l) = false by simpa using h, cut_not h, ← hO]
        rfl
  have hstart : (neg = false ∧ O = s ∧ (((0 : Int) < (s.size : Int)) = False ∨ ∃ h : 0 < s.size, (((s[0]'h).toNat : Int) == 45) = false)) ∨ (neg = true ∧ ∃ h : 0 < s.size, (((s[0]'h).toNat : Int) == 45) = true ∧ s.extract 1 s.size = O) := by
    by_cases hne : s.data.toList = []
    · refine .inl ⟨by rw [hneg, hne]; rfl, by apply bytes_eq; rw [hOl, hl, hne]; rfl, .inl (eq_false ?_)⟩
      have h00 : s.size = 0 := by rw [← bytes_len, hne]; rfl
      omega
    · obtain ⟨hp, hh⟩ := bytes_head hne
      by_cases h45 : s[0] = 45
      · refine .inr ⟨by rw [hneg]; unfold isNeg; rw [hh, h45]; rfl, hp, by rw [h45]; rfl, ?_⟩
        rw [ext_drop, hO, hl, digs_drop, if_pos (by rw [hh, h45])]
      · refine .inl ⟨by rw [hneg]; unfold isNeg; rw [hh]; simpa using h45, ?_, .inr ⟨hp, ?_⟩⟩
        · apply bytes_eq
          rw [hOl, hl, digs_drop, if_neg (by rw [hh]; simpa using h45)]
          rfl
        · have : s[0].toNat ≠ 45 := fun h => h45 (UInt8.toNat_inj.1 h)
          simp only [beq_eq_false_iff_ne, ne_eq]
          omega
  obtain ⟨V, hV⟩ : ∃ V, V = splitR s.data.toList := ⟨_, rfl⟩
  rw [← hV] at hfin ⊢
  have HFI := hide hfin
  clear hl hO hOl hdl hK hneg hV hfin
  rcases hstart with ⟨e1, e2, e3 | ⟨hp, e3⟩⟩ | ⟨e1, hp, e3, e2⟩
  case' inl.inl =>
    subst e1; subst e2
    have e4 : (0 < O.size) = False := eq_false (by
      intro h
      have h2 : ¬ (0 : Int) < (O.size : Int) := of_eq_false e3
      omega)
    go_enter Tryz.func135, Tryz.ntmps135
    go_wp2_with fail
    clear e3 e4
  case' inl.inr =>
    subst e1; subst e2
    have hp0 : (0 : Int) < (O.size : Int) := by omega
    go_enter Tryz.func135, Tryz.ntmps135
    go_wp2_with fail
    clear e3
  case' inr =>
    subst e1
    have hp0 : (0 : Int) < (s.size : Int) := by omega
    have hp1 : (1 : Int) ≤ (s.size : Int) := by omega
    have HE := hide e2
    clear e2
    go_enter Tryz.func135, Tryz.ntmps135
    go_wp2_with fail
    rw [HE.out]
    clear e3
  all_goals
    go_loopw [8] (fun i wr => ∃ k : Nat, k ≤ K ∧ i = .int .i64 k ∧ wr = w) (fun i _ => O.size - (intOf i).toNat)
    case atStart => exact ⟨0, by omega, rfl, rfl⟩
    case round =>
      obtain ⟨k, hkL, rfl, rfl⟩ := hrel
      have hk0 : (0 : Int) ≤ (k : Int) := by omega
      by_cases hkl : k < K
      · have hlt : k < O.size := by omega
        have hki : (k : Int) < (O.size : Int) := by omega
        obtain ⟨c, hc, hcd⟩ := HAT.out k hkl
        have h47 : (((O[k]'hlt).toNat : Int) == 47) = false := by
          have hat : O.data.toList[k]? = some (O[k]'hlt) := by
            have h1 : O.data.toList[k]? = some O.data[k] := by simp
            exact h1
          rw [hat] at hc
          injection hc with hc
          rw [hc]
          have : c.toNat ≠ 47 := fun h => hcd (UInt8.toNat_inj.1 h)
          simp only [beq_eq_false_iff_ne, ne_eq]
          omega
        clear hc hcd
        go_wp2_with fail
        go_roundw
        case rel => exact ⟨k + 1, by omega, by go_num, trivial⟩
        case measure => simp [intOf]; omega
      · have hkK : k = K := by omega
        rcases HFI.out with ⟨_, f2, f3, f4⟩ | ⟨_, f3, f4⟩
        · have hlt : k < O.size := by omega
          have hki : (k : Int) < (O.size : Int) := by omega
          have h47 : (((O[k]'hlt).toNat : Int) == 47) = true := by
            have hat : O.data.toList[k]? = some (O[k]'hlt) := by
              have h1 : O.data.toList[k]? = some O.data[k] := by simp
              exact h1
            rw [← hkK, hat] at f2
            injection f2 with f2
            rw [f2]
            rfl
          have HV := hide f4
          have HKK := hide hkK
          have hw1 : IntKind.i64.wrap ((k : Int) + 1) = ((k + 1 : Nat) : Int) := by
            rw [IntWalk.i64_in _ (by omega)]
            rfl
          have hk1 : k + 1 ≤ O.size := by omega
          have hk1i : ((k + 1 : Nat) : Int) ≤ (O.size : Int) := by omega
          have hk2 : k ≤ O.size := by omega
          have hk2i : (k : Int) ≤ (O.size : Int) := by omega
          clear f2 f4 hkK hkl
          go_wp2_with fail
          go_quiet (fail)
          go_wp2_with fail
          refine ret4 rfl rfl rfl rfl rfl rfl ?_
          rw [HV.out, ← HKK.out]
          exact ⟨rfl, below_drewN (Below.refl _ _) _⟩
        · have hki : ((k : Int) < (O.size : Int)) = False := eq_false (by omega)
          have HV := hide f4
          clear f4 hkK f3 hkl
          go_wp2_with fail
          refine ret4 rfl rfl rfl rfl rfl rfl ?_
          rw [HV.out]
          exact ⟨rfl, Below.refl _ _⟩
open Go.RowKit Go.KP Go.KI Go.Shelf
attribute [local go_sem] Oper.semAt_some

def partsR2 (l : List UInt8) : Value :=
  .tuple #[.string (strB ((if isNeg l then [45] else []) ++ KI.ahead 47 (digs l))), .string (strB (if 47 ∈ digs l then KI.behind 47 (digs l) else [49]))]

theorem ret2v {f : Func} {R : Ending → World → Prop} {a : Act} {W : World} {t0 t1 : Tmp} {v0 v1 : Value} (hf : f.results = #[.tmp t0, .tmp t1]) (h0 : a.tmps[t0]? = some v0) (h1 : a.tmps[t1]? = some v1) (hd : a.defers = []) (hR : R (.returned (.tuple #[v0, v1])) W) :
    bodyPost Tryz.prog f R .ret a W := by
  refine bodyPost_ret ?_ hd hR
  simp [results, hf, go_sem, h0, h1]

theorem r2parts_any (s : ByteArray) (hs : s.size ≤ 1000000) (w : World) :
    Calls Tryz.prog 84 #[.string s] w (Ret w (partsR2 s.data.toList)) := by
  obtain ⟨V, hV⟩ : ∃ V, V = partsR2 s.data.toList := ⟨_, rfl⟩
  rw [← hV]
  have HS := hide (fun w => r2split_any s (by omega) w)
  have hnl : (KI.ahead 47 (digs s.data.toList)).length ≤ s.size := by
    refine Nat.le_trans (List.Sublist.length_le (List.takeWhile_sublist _)) ?_
    rw [digs_drop, List.length_drop, bytes_len]
    omega
  obtain ⟨nn, hnn⟩ : ∃ x, x = KI.ahead 47 (digs s.data.toList) := ⟨_, rfl⟩
  obtain ⟨dd, hdd⟩ : ∃ x, x = (if 47 ∈ digs s.data.toList then KI.behind 47 (digs s.data.toList) else []) := ⟨_, rfl⟩
  obtain ⟨neg, hneg⟩ : ∃ x, x = isNeg s.data.toList := ⟨_, rfl⟩
  obtain ⟨sl, hsl⟩ : ∃ x, x = decide (47 ∈ digs s.data.toList) := ⟨_, rfl⟩
  have hV2 : V = .tuple #[.string ((if neg then (⟨#[45]⟩ : ByteArray) else ⟨#[]⟩) ++ strB nn), .string (if sl then strB dd else ⟨#[49]⟩)] := by
    have a1 : strB ((if neg then [45] else []) ++ nn) = (if neg then (⟨#[45]⟩ : ByteArray) else ⟨#[]⟩) ++ strB nn := by
      apply bytes_eq
      cases neg <;> simp [strB]
    have a2 : strB (if 47 ∈ digs s.data.toList then KI.behind 47 (digs s.data.toList) else [49]) = if sl then strB dd else ⟨#[49]⟩ := by
      rw [hsl, hdd]
      by_cases h : 47 ∈ digs s.data.toList
      · simp [h]
      · simp only [h, if_false, decide_false, Bool.false_eq_true]
        rfl
    rw [hV, partsR2, ← hnn, ← hneg, a1, a2]
  unfold splitR at HS
  rw [← hnn, ← hdd, ← hneg, ← hsl] at HS
  rw [← hnn] at hnl
  clear hsl hneg hdd hnn hV
  obtain ⟨NN, hNN⟩ : ∃ x, x = strB nn := ⟨_, rfl⟩
  obtain ⟨DD, hDD⟩ : ∃ x, x = strB dd := ⟨_, rfl⟩
  have hNs : NN.size ≤ 1000000 := by rw [hNN, strB_size]; omega
  rw [← hNN, ← hDD] at HS hV2
  have HV := hide hV2
  have v1 : (9223372036854775807 < 1 + NN.size) = False := eq_false (by omega)
  clear hNN hDD hV2 hs hnl hNs
  cases neg <;> cases sl
  all_goals
    go_enter Tryz.func84, Tryz.ntmps84
    go_wp2_with fail
    refine (HS.out _).mono ?_
    rintro e w1 ⟨rfl, hb1⟩
    have HB1 := hide hb1
    clear hb1
    go_wp2_with fail
    refine ret2v rfl rfl rfl rfl ?_
    exact ⟨by rw [HV.out]; first | rfl | (simp; done), HB1.out⟩
end Go.Proofs.YtklgpilgalfckaaGreatDoor
namespace Go.KI
open Go
theorem norm_le_b {b : Nat} (hb : 0 < b) {p q : List Nat} (hp : Norm b p) (hq : Lt b q) (h : lv b p ≤ lv b q) : p.length ≤ q.length := by
  rcases Nat.lt_or_ge q.length p.length with h1 | h1
  · have := norm_len_lt hb hq hp h1
    omega
  · exact h1
theorem upper_cmp_b {b : Nat} (hb : 0 < b) {x y : List Nat} (hx : Lt b x) (hy : Lt b y) (hl : x.length = y.length) {k : Nat} (hk : k < x.length) (hs : ∀ j, j < k → lat x (x.length - 1 - j) = lat y (x.length - 1 - j)) :
    (lat x (x.length - 1 - k) < lat y (x.length - 1 - k) → lv b x < lv b y) ∧ (lat y (x.length - 1 - k) < lat x (x.length - 1 - k) → lv b y < lv b x) := by
  have hd : x.drop (x.length - 1 - k + 1) = y.drop (x.length - 1 - k + 1) := by
    apply List.ext_getElem?
    intro i
    rw [List.getElem?_drop, List.getElem?_drop]
    by_cases hi : x.length - 1 - k + 1 + i < x.length
    · have h1 := hs (k - 1 - i) (by omega)
      rw [show x.length - 1 - (k - 1 - i) = x.length - 1 - k + 1 + i by omega] at h1
      rw [lat_some hi, lat_some (l := y) (by omega), h1]
    · rw [List.getElem?_eq_none (by omega), List.getElem?_eq_none (by omega)]
  exact ⟨fun h => lv_top_lt hb hx hl (i := x.length - 1 - k) (by omega) hd h, fun h => lv_top_lt hb hy hl.symm (i := x.length - 1 - k) (by omega) hd.symm h⟩
end Go.KI
namespace Go.Proofs.YtklgpilgalfckaaGreatDoor
open Go.RowKit Go.KP Go.KI Go.Shelf
attribute [local go_sem] Oper.semAt_some

theorem rtwo_yes (s t : ByteArray) (c1 : chkI s.data.toList = 0) (c2 : chkI t.data.toList = 0) (hs : s.size ≤ 17) (ht : t.size ≤ 17) (w : World) :
    Calls Tryz.prog 186 #[.string s, .string t] w (Ret w (.tuple #[.int .i64 (valI s.data.toList), .int .i64 (valI t.data.toList), .bool true])) := by
  have H1 := hide (fun w => rsmall_yes s c1 hs w)
  have H2 := hide (fun w => rsmall_yes t c2 ht w)
  clear c1 c2 hs ht
  go_enter Tryz.func186, Tryz.ntmps186
  go_wp2_with fail
  refine (H1.out _).mono ?_
  rintro e w1 ⟨rfl, hb1⟩
  have HB1 := hide hb1
  clear hb1 H1
  go_wp2_with fail
  refine (H2.out _).mono ?_
  rintro e w2 ⟨rfl, hb2⟩
  have HB2 := hide (HB1.out.trans (hb2.mono HB1.out.size))
  clear hb2 H2 HB1
  go_wp2_with fail
  go_ret3
  exact ⟨rfl, HB2.out⟩
def TwoNo (w : World) (e : Ending) (w2 : World) : Prop := ∃ x y : Int, Ret w (.tuple #[.int .i64 x, .int .i64 y, .bool false]) e w2
theorem rtwo_no (s t : ByteArray) (c1 : chkI s.data.toList = 0) (h : ¬ (s.size ≤ 17 ∧ t.size ≤ 17)) (w : World) :
    Calls Tryz.prog 186 #[.string s, .string t] w (TwoNo w) := by
  by_cases hs : s.size ≤ 17
  · have H1 := hide (fun w => rsmall_yes s c1 hs w)
    have H2 := hide (fun w => rsmall_no t (by omega) w)
    clear c1 hs h
    go_enter Tryz.func186, Tryz.ntmps186
    go_wp2_with fail
    refine (H1.out _).mono ?_
    rintro e w1 ⟨rfl, hb1⟩
    have HB1 := hide hb1
    clear hb1 H1
    go_wp2_with fail
    refine (H2.out _).mono ?_
    rintro e w2 ⟨rfl, hb2⟩
    have HB2 := hide (HB1.out.trans (hb2.mono HB1.out.size))
    clear hb2 H2 HB1
    go_wp2_with fail
    go_ret3
    exact ⟨_, _, rfl, HB2.out⟩
  · have H1 := hide (fun w => rsmall_no s (by omega) w)
    clear c1 hs h
    go_enter Tryz.func186, Tryz.ntmps186
    go_wp2_with fail
    refine (H1.out _).mono ?_
    rintro e w1 ⟨rfl, hb1⟩
    have HB1 := hide hb1
    clear hb1 H1
    go_wp2_with fail
    go_ret3
    exact ⟨_, _, rfl, HB1.out⟩
def SizeRes (x y : List Nat) (w : World) (e : Ending) (w2 : World) : Prop := ∃ r : Int, e = .returned (.int .i64 r) ∧ CmpRes r (lv 1000000 x) (lv 1000000 y) ∧ Below w.heap.size w w2
theorem rsize_any (va vb : Value) (x y : List Nat) (B : Nat) (w : World) (ha : LimbAt B w va x) (hb : LimbAt B w vb y) (hB : B ≤ w.heap.size) (hx : Norm 1000000 x) (hy : Norm 1000000 y) (lx : x.length ≤ 100000) :
    Calls Tryz.prog 209 #[va, vb] w (SizeRes x y w) := by
  obtain ⟨a0, c0, hva⟩ := ha.form
  obtain ⟨a1, c1, hvb⟩ := hb.form
  subst hva; subst hvb
  have HA := hide ha; have HBB := hide hb; have HX := hide hx; have HY := hide hy
  clear ha hb hx hy
  by_cases hlen : x.length = y.length
  · have hq : ((x.length : Int) != (y.length : Int)) = false := by rw [hlen]; simp
    have HL := hide hlen
    obtain ⟨n, hn⟩ : ∃ n, n = x.length := ⟨_, rfl⟩
    have hyn : y.length = n := by omega
    have HN := hide hn; have HYN := hide hyn
    rw [← hn] at lx hq ⊢
    rw [hyn] at hq ⊢
    clear hlen hn hyn
    go_enter Tryz.func209, Tryz.ntmps209
    go_wp2_with fail
    go_loopw [5] (fun i wr => ∃ k : Nat, k ≤ n ∧ i = .int .i64 ((n : Int) - 1 - k) ∧ Hid ((∀ j, j < k → lat x (n - 1 - j) = lat y (n - 1 - j)) ∧ Below w.heap.size w wr)) (fun i _ => (intOf i + 1).toNat)
    case atStart => exact ⟨0, Nat.zero_le _, by simp, fun j hj => by omega, Below.refl _ _⟩
    case round =>
      obtain ⟨k, hk, rfl, hin⟩ := hrel
      have IN := hide hin.out
      clear hin
      by_cases hlt : k < n
      · obtain ⟨m, hm⟩ : ∃ m : Nat, (n : Int) - 1 - (k : Int) = m := ⟨n - 1 - k, by omega⟩
        have hm2 : n - 1 - k = m := by omega
        rw [hm]
        have hmi : (m : Int) < (n : Int) := by omega
        rcases (HA.out.below IN.out.2 hB).cases with ⟨_, _, _, hnil⟩ | ⟨g, o, cap, hv, hg, hc⟩
        · have := HN.out
          rw [hnil] at this
          simp at this
          omega
        injection hv with hv1 hv2 hv3
        rcases (HBB.out.below IN.out.2 hB).cases with ⟨_, _, _, hnil⟩ | ⟨g', o', cap', hv', hg', hc'⟩
        · have := HYN.out
          rw [hnil] at this
          simp at this
          omega
        injection hv' with hv1' hv2' hv3'
        subst hv1; subst hv1'
        have q1 := hc m (by have := HN.out; omega)
        have q2 := hc' m (by have := HYN.out; omega)
        have hc3 := upper_cmp_b (b := 1000000) (by omega) HX.out.lt HY.out.lt HL.out (k := k) (by have := HN.out; omega) (by rw [← HN.out]; exact IN.out.1)
        rw [← HN.out, hm2] at hc3
        obtain ⟨X, hX⟩ : ∃ X, X = lat x m := ⟨_, rfl⟩
        obtain ⟨Y, hY⟩ : ∃ Y, Y = lat y m := ⟨_, rfl⟩
        have HXY := hide (show X = Y → lat x (n - 1 - k) = lat y (n - 1 - k) from fun h => by rw [hm2, ← hX, ← hY]; exact h)
        rw [← hX, ← hY] at hc3
        rw [← hX] at q1
        rw [← hY] at q2
        have HC3 := hide hc3
        have HM := hide hm
        clear hc hc' hv2 hv2' hv3 hv3' hX hY hc3 hm hm2 hg hg'
        by_cases h1 : X < Y
        · have t1 : (X : Int) < (Y : Int) := by omega
          have HR := hide (HC3.out.1 h1)
          clear h1
          go_wp2_with fail
          go_quiet (fail)
          have HB2 := hide (below_drewN IN.out.2 nq)
          go_wp2_with fail
          go_ret
          exact ⟨_, rfl, ⟨⟨fun _ => HR.out, fun _ => by omega⟩, ⟨fun h => by omega, fun h => by have := HR.out; omega⟩⟩, HB2.out⟩
        · have t1 : ((X : Int) < (Y : Int)) = False := eq_false (by omega)
          by_cases h2 : Y < X
          · have t2 : (Y : Int) < (X : Int) := by omega
            have HR := hide (HC3.out.2 h2)
            clear h1 h2
            go_wp2_with fail
            go_quiet (fail)
            have HB2 := hide (below_drewN IN.out.2 nq)
            go_wp2_with fail
            go_quiet (fail)
            have HB3 := hide (below_drewN HB2.out nq)
            go_wp2_with fail
            go_ret
            exact ⟨_, rfl, ⟨⟨fun h => by omega, fun h => by have := HR.out; omega⟩, ⟨fun h => by omega, fun h => by have := HR.out; omega⟩⟩, HB3.out.os, HB3.out.tape, HB3.out.output, HB3.out.size, HB3.out.block⟩
          · have t2 : ((Y : Int) < (X : Int)) = False := eq_false (by omega)
            have HE := hide (HXY.out (by omega))
            clear h1 h2
            go_wp2_with fail
            go_quiet (fail)
            have HB2 := hide (below_drewN IN.out.2 nq)
            go_wp2_with fail
            go_quiet (fail)
            have HB3 := hide (below_drewN HB2.out nq)
            go_wp2_with fail
            go_roundw
            case rel =>
              refine ⟨k + 1, by omega, by have := HM.out; congr 1; omega, fun j hj => ?_, HB3.out.os, HB3.out.tape, HB3.out.output, HB3.out.size, HB3.out.block⟩
              rcases Nat.lt_or_ge j k with h | h
              · exact IN.out.1 j h
              · obtain rfl : j = k := by omega
                exact HE.out
            case measure => simp [intOf]
      · obtain rfl : k = n := by omega
        have hm : (k : Int) - 1 - (k : Int) = -1 := by omega
        rw [hm]
        have HXY := hide (show x = y from all_cmp HL.out (fun j hj => by rw [← HN.out]; exact IN.out.1 j (by have := HN.out; omega)))
        clear hm hlt
        go_wp2_with fail
        go_ret
        exact ⟨_, rfl, ⟨by rw [HXY.out]; omega, by rw [HXY.out]; simp⟩, IN.out.2⟩
  · have hq : ((x.length : Int) != (y.length : Int)) = true := by
      have : (x.length : Int) ≠ (y.length : Int) := by omega
      simpa using this
    rcases Nat.lt_or_gt_of_ne hlen with h | h
    · have HR := hide (norm_len_lt (b := 1000000) (by omega) HX.out.lt HY.out h)
      have t1 : (x.length : Int) < (y.length : Int) := by omega
      clear hlen h
      go_enter Tryz.func209, Tryz.ntmps209
      go_wp2_with fail
      go_ret
      exact ⟨_, rfl, ⟨⟨fun _ => HR.out, fun _ => by omega⟩, ⟨fun h => by omega, fun h => by have := HR.out; omega⟩⟩, Below.refl _ _⟩
    · have HR := hide (norm_len_lt (b := 1000000) (by omega) HY.out.lt HX.out h)
      have t1 : ((x.length : Int) < (y.length : Int)) = False := eq_false (by omega)
      clear hlen h
      go_enter Tryz.func209, Tryz.ntmps209
      go_wp2_with fail
      go_ret
      exact ⟨_, rfl, ⟨⟨fun h => by omega, fun h => by have := HR.out; omega⟩, ⟨fun h => by omega, fun h => by have := HR.out; omega⟩⟩, Below.refl _ _⟩
open Go.RowKit Go.KP Go.KI Go.Shelf
attribute [local go_sem] Oper.semAt_some

def RowRes (v : Nat) (n : Nat) (w : World) (e : Ending) (w2 : World) : Prop := ∃ l, LimbsRet w l e w2 ∧ Norm 1000000 l ∧ lv 1000000 l = v ∧ l.length ≤ n
theorem empty_own (w : World) : OwnL w.heap.size (w.alloc (.cells #[] 3)) (.slice (some ⟨w.heap.size, 0, none⟩) 0 0) [] := by
  refine ⟨by simp [icells], .inr ⟨w.heap.size, 0, #[], rfl, Nat.le_refl _, heap_alloc_new _ _, Nat.le_refl _, by unfold maxLen; omega, rfl, rfl⟩⟩
theorem rsub_nums {X Y C : Nat} (hX : X < 1000000) (hY : Y < 1000000) (hC : C ≤ 1) :
    (∃ R : Nat, (X : Int) - (Y : Int) - (C : Int) = (R : Int) ∧ R < 1000000 ∧ R + Y + C = X + 1000000 * 0) ∨
    (∃ m R : Nat, (X : Int) - (Y : Int) - (C : Int) = -(m : Int) ∧ 0 < m ∧ m ≤ 1000000 ∧ -(m : Int) + 1000000 = (R : Int) ∧ R < 1000000 ∧ R + Y + C = X + 1000000 * 1) := by
  by_cases h : Y + C ≤ X
  · exact .inl ⟨X - (Y + C), by omega, by omega, by omega⟩
  · exact .inr ⟨Y + C - X, 1000000 + X - (Y + C), by omega, by omega, by omega, by omega, by omega, by omega⟩
theorem rminus_any (va vb : Value) (x y : List Nat) (B : Nat) (w : World) (ha : LimbAt B w va x) (hb : LimbAt B w vb y) (hB : B ≤ w.heap.size) (hx : Lt 1000000 x) (hy : Norm 1000000 y) (lx : x.length ≤ 100000) (hle : lv 1000000 y ≤ lv 1000000 x) :
    Calls Tryz.prog 223 #[va, vb] w (RowRes (lv 1000000 x - lv 1000000 y) x.length w) := by
  obtain ⟨a0, c0, hva⟩ := ha.form
  obtain ⟨a1, c1, hvb⟩ := hb.form
  subst hva; subst hvb
  obtain ⟨i0, hi0, hz0, hz1, hz2⟩ := info_parts info3
  have hyl := norm_le_b (b := 1000000) (by omega) hy hx hle
  have HA := hide ha; have HBB := hide hb; have HX := hide hx; have HY := hide hy.lt; have HLE := hide hle
  have HE0 := hide (empty_own w)
  have HBe := hide ((Below.refl w.heap.size w).alloc (Nat.le_refl _) (.cells #[] 3))
  clear ha hb hx hy hle
  go_enter Tryz.func223, Tryz.ntmps223
  go_wp2_with fail
  go_loopw [5, 6, 7] (fun v c i wr => ∃ (k C : Nat) (L : List Nat), k ≤ x.length ∧ i = .int .i64 k ∧ c = .int .i64 C ∧ C ≤ 1 ∧ Hid (OwnL w.heap.size wr v L ∧ Below w.heap.size w wr ∧ L.length = k ∧ Lt 1000000 L ∧ lv 1000000 L + lvT 1000000 y k = lvT 1000000 x k + 1000000 ^ k * C)) (fun _ _ i _ => x.length - (intOf i).toNat)
  case atStart => exact ⟨0, 0, [], Nat.zero_le _, rfl, rfl, Nat.zero_le _, HE0.out, HBe.out, rfl, fun z hz => by simp at hz, by rw [lvT_zero, lvT_zero]; rfl⟩
  case round =>
    obtain ⟨k, C, L, hk, rfl, rfl, hC, hin⟩ := hrel
    have hsz := hin.out.2.1.size
    obtain ⟨va2, vc2, hvf, hcap, _⟩ := hin.out.1.form
    have hLk := hin.out.2.2.1
    rw [hLk] at hvf hcap
    subst hvf
    have IN := hide hin.out
    clear hin
    by_cases hlt : k < x.length
    · have t1 : (k : Int) < (x.length : Int) := by omega
      have hk0 : (0 : Int) ≤ (k : Int) := by omega
      rcases (HA.out.below IN.out.2.1 hB).cases with ⟨_, _, _, hnil⟩ | ⟨g, o, cap, hv, hg, hcl⟩
      · rw [hnil] at hlt
        simp at hlt
      injection hv with hv1 hv2 hv3
      subst hv1; subst hv3
      have q1 := hcl k hlt
      have hL2 := hide (fun m : Nat => rlimb_any (.slice a1 y.length c1) y k B (wr.drewN m) (HBB.out.below (below_drewN IN.out.2.1 m) hB) (by omega))
      have hxk := lat_lt (by omega) HX.out k
      have hyk := lat_lt (by omega) HY.out k
      obtain ⟨X, hX⟩ : ∃ X, X = lat x k := ⟨_, rfl⟩
      obtain ⟨Y, hY⟩ : ∃ Y, Y = lat y k := ⟨_, rfl⟩
      rw [← hX] at q1 hxk
      rw [← hY] at hL2 hyk
      have HXE := hide hX; have HYE := hide hY; have HLK := hide hLk
      have hnums := rsub_nums hxk hyk hC
      have hw0 : IntKind.i64.wrap ((X : Int) - (Y : Int)) = (X : Int) - (Y : Int) := IntWalk.i64_in _ (by omega)
      clear hX hY hcl hv2 hg hlt
      rcases hnums with ⟨R, hR, hRl, hs⟩ | ⟨m, R, hm, hm0, hml, hR, hRl, hs⟩
      case' inl =>
        have hw1 : IntKind.i64.wrap ((X : Int) - (Y : Int) - (C : Int)) = (R : Int) := by rw [hR]; exact IntWalk.i64_in _ (by omega)
        have t2 : ((R : Int) < 0) = False := eq_false (by omega)
        have HCN := hide (show (0 : Nat) ≤ 1 by omega)
        obtain ⟨C2, hC2⟩ : ∃ C2 : Nat, C2 = 0 := ⟨_, rfl⟩
      case' inr =>
        have hw1 : IntKind.i64.wrap ((X : Int) - (Y : Int) - (C : Int)) = -(m : Int) := by rw [hm]; exact IntWalk.i64_in _ (by omega)
        have hw2 : IntKind.i64.wrap (-(m : Int) + 1000000) = (R : Int) := by rw [hR]; exact IntWalk.i64_in _ (by omega)
        have t2 : 0 < m := hm0
        clear hm hR
        obtain ⟨C2, hC2⟩ : ∃ C2 : Nat, C2 = 1 := ⟨_, rfl⟩
      all_goals
        rw [← hC2] at hs
        have HS := hide hs
        have HC2 := hide hC2
        have HOW := hide (fun nq : Nat => show ((wr.drewN nq).alloc (.cells #[.int .i64 R] 3)).ownsRow w.heap.size 3 1 (.slice va2 k vc2) k (icells L) by
          have h : OwnL w.heap.size (wr.drewN nq) (.slice va2 k vc2) L := IN.out.1
          unfold OwnL at h
          rw [hLk] at h
          exact h.alloc _)
        have HNW := hide (fun nq : Nat => show ∀ j u, ([.int .i64 R] : List Value)[j]? = some u → ((wr.drewN nq).alloc (.cells #[.int .i64 R] 3)).cell? ((⟨wr.heap.size, 0, none⟩ : Addr).add j) = some u from World.news_of_block (cs := #[.int .i64 R]) (t := 3) (fr := (0, 0)) (heap_alloc_new (wr.drewN nq) _))
        clear hs hC2 hLk
        go_wp2_with fail
        go_quiet ((go_at_call 245; exact Calls.quiet_of_same (hL2.out _)))
        clear hL2 q1 hw0 hw1
        go_wp2_with (at_builtin; go_must (refine wpList_append_own _ rfl (.tmp 30) (.tmp 32) 199 rfl w.heap.size 3 i0 _ 1 8 Tryz.underlying199 hi0 hz0 hz1 hz2 rfl (by decide) (.slice va2 k vc2) _ _ rfl (HOW.out nq) ⟨wr.heap.size, 0, none⟩ 1 1 [.int .i64 R] rfl rfl (HNW.out nq) (by simp [Value.oneCell']) (by simp only [maxLen]; omega) (by omega) (by simp; omega) ?_); intro v1 w5 hown hg1 hiff; clear hiff; have HOW5 := hide hown; have HGR := hide hg1; clear hown hg1)
        go_roundw
        case rel =>
          refine ⟨k + 1, C2, L ++ [R], by omega, by go_num, by rw [HC2.out]; rfl, by have := HC2.out; omega, ?_, ((below_drewN IN.out.2.1 nq).alloc (by show w.heap.size ≤ wr.heap.size; omega) _).grown HGR.out (by simp; omega) (owns_ge IN.out.1 (Nat.le_refl _)), by rw [List.length_append, HLK.out]; rfl, ?_, ?_⟩
          · show World.ownsRow _ _ _ _ _ (L ++ [R]).length (icells (L ++ [R]))
            rw [List.length_append, HLK.out, icells_append]
            exact HOW5.out
          · intro z hz
            rcases List.mem_append.1 hz with h | h
            · exact IN.out.2.2.2.1 z h
            · simp only [List.mem_singleton] at h
              rw [h]
              exact hRl
          · rw [lv_snoc, HLK.out, lvT_succ, lvT_succ, ← HXE.out, ← HYE.out]
            have := minus_step IN.out.2.2.2.2 HS.out
            omega
        case measure => simp [intOf]; omega
    · obtain rfl : k = x.length := by omega
      have t1 : ((x.length : Int) < (x.length : Int)) = False := eq_false (by omega)
      have HT := hide (rtrim_any va2 vc2 L wr.heap.size wr (by rw [hLk]; exact IN.out.1.at_) (by omega) (by omega))
      rw [hLk] at HT
      have HV := hide (show lv 1000000 L = lv 1000000 x - lv 1000000 y by
        have h4 := IN.out.2.2.2.2
        rw [lvT_all (l := x) (Nat.le_refl _), lvT_all (l := y) hyl] at h4
        have h5 := lv_lt IN.out.2.2.2.1
        rw [hLk] at h5
        have h6 := HLE.out
        rcases Nat.eq_zero_or_pos C with h7 | h7
        · rw [h7, Nat.mul_zero] at h4
          omega
        · exfalso
          have h8 : 1000000 ^ x.length * 1 ≤ 1000000 ^ x.length * C := Nat.mul_le_mul_left _ h7
          omega)
      have HLK := hide hLk
      clear hlt hLk
      go_wp2_with fail
      refine HT.out.mono ?_
      rintro e w1 ⟨rfl, rfl⟩
      go_wp2_with fail
      go_ret
      refine ⟨trimL L, ⟨_, rfl, IN.out.2.1, ?_⟩, trimL_norm IN.out.2.2.2.1, by rw [trimL_lv, HV.out], ?_⟩
      · have hc := IN.out.1.cut (k := trimTo L x.length) (by rw [HLK.out]; have := trimTo_le L x.length; omega)
        unfold trimL
        rw [HLK.out]
        exact hc
      · rw [trimL_len]
        have := trimTo_le L L.length
        have := HLK.out
        omega
end Go.Proofs.YtklgpilgalfckaaGreatDoor
