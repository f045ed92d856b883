/-
  Texts of the integers, laid together: Yg, Yh, Yf, Yd, Wi, Steps.
-/
import Derived.WideMake
import Derived.Test.YtbfojhneajedmaaGreatDoorZ4
import Derived.Test.YtbfojhneajedmaaGreatDoorZ13
namespace Go.Proofs.YtbfojhneajedmaaGreatDoor
open Go.RowKit Go.KP Go.KI Go.Shelf
attribute [local go_sem] Oper.semAt_some

theorem set_alloc (w : World) (a b : Obj) : ({ w.alloc a with heap := (w.alloc a).heap.setIfInBounds w.heap.size b } : World) = w.alloc b := by
  have h : (w.alloc a).heap.setIfInBounds w.heap.size b = (w.alloc b).heap := by
    rw [← World.alloc_eq w a, ← World.alloc_eq w b]
    apply Array.ext
    · simp
    · intro i h1 h2
      rw [Array.getElem_setIfInBounds (by simpa using h2)]
      by_cases h : w.heap.size = i
      · subst h
        simp
      · rw [if_neg h]
        simp at h1 h2
        rw [Array.getElem_push_lt (by omega), Array.getElem_push_lt (by omega)]
  show World.mk _ _ _ _ _ = _
  rw [h]
  rfl
abbrev ent (k v : Int) (c : Nat) : MapEntry := { key := .int .i64 k, val := .int .i64 v, born := c }
set_option maxRecDepth 100000 in
theorem map_push {w : World} {clock : Nat} {es : Array MapEntry} {k v : Int} (hf : Instr.findNow (.int .i64) (.int .i64 k) es.toList 0 = some none) :
    (Instr.mapUpdate 50 (.map (some w.heap.size)) (.int .i64 k) (.int .i64 v)).run Tryz.prog (w.alloc (.map es clock)) = .ok () (w.alloc (.map (es.push (ent k v clock)) (clock + 1))) := by
  have hm := Tryz.underlying50
  have hk := Tryz.underlying3
  have hb : (w.alloc (.map es clock)).heap[w.heap.size]? = some (.map es clock) := heap_alloc_new w _
  have hc : (Instr.checkKey false 10000 3 (.int .i64 k)).run Tryz.prog (w.alloc (.map es clock)) = .ok () (w.alloc (.map es clock)) := MapKept.run_checkKey (k := .int .i64 k) hk (by simp [MapKept.IsKey]) false 9999
  rw [← set_alloc w (.map es clock) (.map (es.push (ent k v clock)) (clock + 1))]
  simp [Instr.mapUpdate, run_underlying hm, MapKept.run_getObj_map hb, hc, MapKept.run_findKey hk hf, MapKept.run_setObj_map _ hb, Result.andThen]
set_option maxRecDepth 100000 in
theorem map_get {w : World} {clock : Nat} {es : Array MapEntry} {k : Int} (v : Value) (ok : Bool) (hne : es.isEmpty = false) (hf : ∃ o, Instr.findNow (.int .i64) (.int .i64 k) es.toList 0 = some o ∧ (match o with | some (_, x) => v = x ∧ ok = true | none => v = .int .i64 0 ∧ ok = false)) :
    (Instr.lookup 50 (.map (some w.heap.size)) (.int .i64 k) true).run Tryz.prog (w.alloc (.map es clock)) = .ok (.tuple #[v, .bool ok]) (w.alloc (.map es clock)) := by
  have hm := Tryz.underlying50
  have hk := Tryz.underlying3
  have hb : (w.alloc (.map es clock)).heap[w.heap.size]? = some (.map es clock) := heap_alloc_new w _
  have hc : (Instr.checkKey false 10000 3 (.int .i64 k)).run Tryz.prog (w.alloc (.map es clock)) = .ok () (w.alloc (.map es clock)) := MapKept.run_checkKey (k := .int .i64 k) hk (by simp [MapKept.IsKey]) false 9999
  obtain ⟨o, h1, h2⟩ := hf
  cases o with
  | none =>
    obtain ⟨rfl, rfl⟩ := h2
    simp [Instr.lookup, run_underlying hm, MapKept.run_getObj_map hb, hne, hc, MapKept.run_findKey hk h1, Result.andThen]
  | some p =>
    obtain ⟨i, x⟩ := p
    obtain ⟨rfl, rfl⟩ := h2
    simp [Instr.lookup, run_underlying hm, MapKept.run_getObj_map hb, hne, hc, MapKept.run_findKey hk h1, Result.andThen]
theorem same_i64 (n m : Int) : Instr.sameNow (.int .i64) (.int .i64 n) (.int .i64 m) = some (n == m) := by simp [Instr.sameNow]
/-- The three kinds. -/
abbrev kinds3 : Array MapEntry := #[ent 1 8 0, ent 2 6 1, ent 3 7 2]
/-- The kind of the members along lines of a kind; 0 if there is none. -/
def kindP (n : Int) : Int := if n = 1 then 8 else if n = 2 then 6 else if n = 3 then 7 else 0
set_option maxRecDepth 100000 in
theorem hkindOf_any (n : Int) (w : World) :
    Calls Tryz.prog 76 #[.int .i64 n] w (Ret w (.tuple #[.int .i64 (kindP n), .bool (decide (kindP n ≠ 0))])) := by
  have hway : (n = 1 ∧ kindP n = 8) ∨ (n = 2 ∧ kindP n = 6) ∨ (n = 3 ∧ kindP n = 7) ∨ (n ≠ 1 ∧ n ≠ 2 ∧ n ≠ 3 ∧ kindP n = 0) := by
    unfold kindP
    by_cases h1 : n = 1
    · exact .inl ⟨h1, if_pos h1⟩
    · rw [if_neg h1]
      by_cases h2 : n = 2
      · exact .inr (.inl ⟨h2, if_pos h2⟩)
      · rw [if_neg h2]
        by_cases h3 : n = 3
        · exact .inr (.inr (.inl ⟨h3, if_pos h3⟩))
        · exact .inr (.inr (.inr ⟨h1, h2, h3, if_neg h3⟩))
  obtain ⟨V, hV⟩ : ∃ V, V = kindP n := ⟨_, rfl⟩
  rw [← hV] at hway ⊢
  clear hV
  have hlook : (Instr.lookup 50 (.map (some w.heap.size)) (.int .i64 n) true).run Tryz.prog (w.alloc (.map kinds3 3)) = .ok (.tuple #[.int .i64 V, .bool (decide (V ≠ 0))]) (w.alloc (.map kinds3 3)) := by
    refine map_get _ _ rfl ?_
    rcases hway with ⟨rfl, rfl⟩ | ⟨rfl, rfl⟩ | ⟨rfl, rfl⟩ | ⟨h1, h2, h3, rfl⟩
    · exact ⟨some (0, .int .i64 8), by simp [Instr.findNow, same_i64], rfl, rfl⟩
    · exact ⟨some (1, .int .i64 6), by simp [Instr.findNow, same_i64], rfl, rfl⟩
    · exact ⟨some (2, .int .i64 7), by simp [Instr.findNow, same_i64], rfl, rfl⟩
    · have e1 : (n == 1) = false := by simpa using h1
      have e2 : (n == 2) = false := by simpa using h2
      have e3 : (n == 3) = false := by simpa using h3
      exact ⟨none, by simp [Instr.findNow, same_i64, e1, e2, e3], rfl, rfl⟩
  have hmk : (Instr.makeMap 50 none).run Tryz.prog w = .ok (.map (some w.heap.size)) (w.alloc (.map #[] 0)) := rfl
  have hu1 : (Instr.mapUpdate 50 (.map (some w.heap.size)) (.int .i64 1) (.int .i64 8)).run Tryz.prog (w.alloc (.map #[] 0)) = .ok () (w.alloc (.map #[ent 1 8 0] 1)) := map_push (by simp [Instr.findNow])
  have hu2 : (Instr.mapUpdate 50 (.map (some w.heap.size)) (.int .i64 2) (.int .i64 6)).run Tryz.prog (w.alloc (.map #[ent 1 8 0] 1)) = .ok () (w.alloc (.map #[ent 1 8 0, ent 2 6 1] 2)) := map_push (by simp [Instr.findNow, same_i64])
  have hu3 : (Instr.mapUpdate 50 (.map (some w.heap.size)) (.int .i64 3) (.int .i64 7)).run Tryz.prog (w.alloc (.map #[ent 1 8 0, ent 2 6 1] 2)) = .ok () (w.alloc (.map kinds3 3)) := map_push (by simp [Instr.findNow, same_i64])
  obtain ⟨M, hM⟩ : ∃ M, M = w.alloc (.map kinds3 3) := ⟨_, rfl⟩
  have HM := hide (show Below w.heap.size w M by rw [hM]; exact (heap1 w (.map kinds3 3)).2.2)
  rw [← hM] at hlook hu3
  clear hway hM
  obtain ⟨b, hb⟩ : ∃ b, b = decide (V ≠ 0) := ⟨_, rfl⟩
  rw [← hb] at hlook ⊢
  clear hb
  go_enter Tryz.func76, Tryz.ntmps76
  go_wp2_with fail
  refine bodyPost_ret (results_tmp2 rfl _ _ _) rfl ?_
  exact ⟨rfl, HM.out⟩
end Go.Proofs.YtbfojhneajedmaaGreatDoor
namespace Go.Proofs.YtbfojhneajedmaaGreatDoor
open Go.RowKit Go.KP Go.KI Go.Shelf
attribute [local go_sem] Oper.semAt_some

abbrev lineV (n : Int) (a b : V3) (l r : Int) : Value := .agg #[.int .i64 n, .string (T a.x), .string (T a.y), .string (T a.z), .string (T b.x), .string (T b.y), .string (T b.z), .int .i64 l, .int .i64 r]
abbrev lineO (n : Int) (a b : V3) (l r : Int) : Obj := .cells #[.int .i64 n, .string (T a.x), .string (T a.y), .string (T a.z), .string (T b.x), .string (T b.y), .string (T b.z), .int .i64 l, .int .i64 r] 47
abbrev mem0V : Value := .agg #[.int .i64 0, .int .i64 0, .int .i64 0, .string ⟨#[]⟩, .string ⟨#[]⟩, .string ⟨#[]⟩, .string ⟨#[]⟩, .string ⟨#[]⟩, .string ⟨#[]⟩, .int .i64 0, .int .i64 0]
abbrev mem0 : Obj := .cells #[.int .i64 0, .int .i64 0, .int .i64 0, .string ⟨#[]⟩, .string ⟨#[]⟩, .string ⟨#[]⟩, .string ⟨#[]⟩, .string ⟨#[]⟩, .string ⟨#[]⟩, .int .i64 0, .int .i64 0] 26
theorem set_at {w : World} {b i : Nat} {cs : Array Value} {t : TypeId} {v : Value} (h : w.heap[b]? = some (.cells cs t (0, 0))) : (w.setCell ⟨b, i, none⟩ v).heap[b]? = some (.cells (cs.setIfInBounds i v) t (0, 0)) := by
  simp only [World.setCell, Array.getElem?_modify, h]
  simp
/-- Eleven cells set. -/
def put11 (w : World) (b : Nat) (v0 v1 v2 v3 v4 v5 v6 v7 v8 v9 v10 : Value) : World := ((((((((((w.setCell ⟨b, 0, none⟩ v0).setCell ⟨b, 1, none⟩ v1).setCell ⟨b, 2, none⟩ v2).setCell ⟨b, 3, none⟩ v3).setCell ⟨b, 4, none⟩ v4).setCell ⟨b, 5, none⟩ v5).setCell ⟨b, 6, none⟩ v6).setCell ⟨b, 7, none⟩ v7).setCell ⟨b, 8, none⟩ v8).setCell ⟨b, 9, none⟩ v9).setCell ⟨b, 10, none⟩ v10
theorem put11_at {w : World} {b : Nat} {u0 u1 u2 u3 u4 u5 u6 u7 u8 u9 u10 : Value} {t : TypeId} (h : w.heap[b]? = some (.cells #[u0, u1, u2, u3, u4, u5, u6, u7, u8, u9, u10] t (0, 0))) (v0 v1 v2 v3 v4 v5 v6 v7 v8 v9 v10 : Value) :
    (put11 w b v0 v1 v2 v3 v4 v5 v6 v7 v8 v9 v10).heap[b]? = some (.cells #[v0, v1, v2, v3, v4, v5, v6, v7, v8, v9, v10] t (0, 0)) := by
  have s0 := set_at (i := 0) (v := v0) h
  rw [show (#[u0, u1, u2, u3, u4, u5, u6, u7, u8, u9, u10] : Array Value).setIfInBounds 0 v0 = #[v0, u1, u2, u3, u4, u5, u6, u7, u8, u9, u10] from rfl] at s0
  have s1 := set_at (i := 1) (v := v1) s0
  rw [show (#[v0, u1, u2, u3, u4, u5, u6, u7, u8, u9, u10] : Array Value).setIfInBounds 1 v1 = #[v0, v1, u2, u3, u4, u5, u6, u7, u8, u9, u10] from rfl] at s1
  have s2 := set_at (i := 2) (v := v2) s1
  rw [show (#[v0, v1, u2, u3, u4, u5, u6, u7, u8, u9, u10] : Array Value).setIfInBounds 2 v2 = #[v0, v1, v2, u3, u4, u5, u6, u7, u8, u9, u10] from rfl] at s2
  have s3 := set_at (i := 3) (v := v3) s2
  rw [show (#[v0, v1, v2, u3, u4, u5, u6, u7, u8, u9, u10] : Array Value).setIfInBounds 3 v3 = #[v0, v1, v2, v3, u4, u5, u6, u7, u8, u9, u10] from rfl] at s3
  have s4 := set_at (i := 4) (v := v4) s3
  rw [show (#[v0, v1, v2, v3, u4, u5, u6, u7, u8, u9, u10] : Array Value).setIfInBounds 4 v4 = #[v0, v1, v2, v3, v4, u5, u6, u7, u8, u9, u10] from rfl] at s4
  have s5 := set_at (i := 5) (v := v5) s4
  rw [show (#[v0, v1, v2, v3, v4, u5, u6, u7, u8, u9, u10] : Array Value).setIfInBounds 5 v5 = #[v0, v1, v2, v3, v4, v5, u6, u7, u8, u9, u10] from rfl] at s5
  have s6 := set_at (i := 6) (v := v6) s5
  rw [show (#[v0, v1, v2, v3, v4, v5, u6, u7, u8, u9, u10] : Array Value).setIfInBounds 6 v6 = #[v0, v1, v2, v3, v4, v5, v6, u7, u8, u9, u10] from rfl] at s6
  have s7 := set_at (i := 7) (v := v7) s6
  rw [show (#[v0, v1, v2, v3, v4, v5, v6, u7, u8, u9, u10] : Array Value).setIfInBounds 7 v7 = #[v0, v1, v2, v3, v4, v5, v6, v7, u8, u9, u10] from rfl] at s7
  have s8 := set_at (i := 8) (v := v8) s7
  rw [show (#[v0, v1, v2, v3, v4, v5, v6, v7, u8, u9, u10] : Array Value).setIfInBounds 8 v8 = #[v0, v1, v2, v3, v4, v5, v6, v7, v8, u9, u10] from rfl] at s8
  have s9 := set_at (i := 9) (v := v9) s8
  rw [show (#[v0, v1, v2, v3, v4, v5, v6, v7, v8, u9, u10] : Array Value).setIfInBounds 9 v9 = #[v0, v1, v2, v3, v4, v5, v6, v7, v8, v9, u10] from rfl] at s9
  have s10 := set_at (i := 10) (v := v10) s9
  rw [show (#[v0, v1, v2, v3, v4, v5, v6, v7, v8, v9, u10] : Array Value).setIfInBounds 10 v10 = #[v0, v1, v2, v3, v4, v5, v6, v7, v8, v9, v10] from rfl] at s10
  exact s10
theorem put11_below {n b : Nat} {w w1 : World} (h : Below n w w1) (hb : n ≤ b) (v0 v1 v2 v3 v4 v5 v6 v7 v8 v9 v10 : Value) : Below n w (put11 w1 b v0 v1 v2 v3 v4 v5 v6 v7 v8 v9 v10) :=
  ((((((((((h.setCell (p := ⟨b, 0, none⟩) hb v0).setCell (p := ⟨b, 1, none⟩) hb v1).setCell (p := ⟨b, 2, none⟩) hb v2).setCell (p := ⟨b, 3, none⟩) hb v3).setCell (p := ⟨b, 4, none⟩) hb v4).setCell (p := ⟨b, 5, none⟩) hb v5).setCell (p := ⟨b, 6, none⟩) hb v6).setCell (p := ⟨b, 7, none⟩) hb v7).setCell (p := ⟨b, 8, none⟩) hb v8).setCell (p := ⟨b, 9, none⟩) hb v9).setCell (p := ⟨b, 10, none⟩) hb v10
theorem exit_mem {f : Func} {R : Ending → World → Prop} {a : Act} {W : World} {b : Nat} {t : Tmp} {v0 v1 v2 v9 v10 : Int} {v3 v4 v5 v6 v7 v8 : ByteArray} (hf : f.results = #[.cell t 26]) (hb : W.heap[b]? = some (.cells #[.int .i64 v0, .int .i64 v1, .int .i64 v2, .string v3, .string v4, .string v5, .string v6, .string v7, .string v8, .int .i64 v9, .int .i64 v10] 26 (0, 0))) (h2 : a.tmps[t]? = some (.pointer (some ⟨b, 0, none⟩))) (hd : a.defers = []) (hR : R (.returned (.agg #[.int .i64 v0, .int .i64 v1, .int .i64 v2, .string v3, .string v4, .string v5, .string v6, .string v7, .string v8, .int .i64 v9, .int .i64 v10])) W) :
    bodyPost Tryz.prog f R .ret a W := by
  have hcell := fun o => cell_blk hb o
  refine bodyPost_ret ?_ hd hR
  simp [results, hf, go_sem, hcell, h2]
theorem exit_memE {f : Func} {R : Ending → World → Prop} {a : Act} {W : World} {b : Nat} {t u : Tmp} {v0 v1 v2 v9 v10 : Int} {v3 v4 v5 v6 v7 v8 : ByteArray} {v : Value} (hf : f.results = #[.cell t 26, .tmp u]) (hb : W.heap[b]? = some (.cells #[.int .i64 v0, .int .i64 v1, .int .i64 v2, .string v3, .string v4, .string v5, .string v6, .string v7, .string v8, .int .i64 v9, .int .i64 v10] 26 (0, 0))) (h2 : a.tmps[t]? = some (.pointer (some ⟨b, 0, none⟩))) (h3 : a.tmps[u]? = some v) (hd : a.defers = []) (hR : R (.returned (.tuple #[.agg #[.int .i64 v0, .int .i64 v1, .int .i64 v2, .string v3, .string v4, .string v5, .string v6, .string v7, .string v8, .int .i64 v9, .int .i64 v10], v])) W) :
    bodyPost Tryz.prog f R .ret a W := by
  have hcell := fun o => cell_blk hb o
  refine bodyPost_ret ?_ hd hR
  simp [results, hf, go_sem, hcell, h2, h3]
set_option maxRecDepth 100000 in
set_option maxHeartbeats 8000000 in
theorem hOf_to {n l r : Int} {a b : V3} {wd dp : Int} (hk : kindP n ≠ 0) (h : Mem (kindP n) l r a b wd dp) (B : Nat) (w : World) (hB : B ≤ w.heap.size) (hT : PQ B w) :
    Calls Tryz.prog 30 #[lineV n a b l r, .int .i64 wd, .int .i64 dp] w (Ret w (.tuple #[memV (kindP n) l r a b wd dp, .int .i64 0])) := by
  have HT := hide hT
  have HK := hide (fun w => hkindOf_any n w)
  rw [decide_eq_true hk] at HK
  have HC := hide (fun w hB hT => hCheck_ok h B w hB hT)
  obtain ⟨k, hkk⟩ : ∃ k, k = kindP n := ⟨_, rfl⟩
  rw [← hkk] at HK HC ⊢
  have X0 := hide (heap2 w (lineO n a b l r) mem0)
  clear hkk hk h hT
  go_enter Tryz.func30, Tryz.ntmps30
  go_wp2_with fail
  refine (HK.out _).mono ?_
  rintro e w1 ⟨rfl, hb1⟩
  have G1 := hide (below_blk hb1 X0.out.1 (lt_blk X0.out.1))
  have G2 := hide (below_blk hb1 X0.out.2.1 (lt_blk X0.out.2.1))
  have HB1 := hide (X0.out.2.2.2.trans (hb1.mono X0.out.2.2.2.size))
  clear hb1
  have k1 := cell_blk G1.out 1
  have k2 := cell_blk G1.out 2
  have k3 := cell_blk G1.out 3
  have k4 := cell_blk G1.out 4
  have k5 := cell_blk G1.out 5
  have k6 := cell_blk G1.out 6
  have k7 := cell_blk G1.out 7
  have k8 := cell_blk G1.out 8
  have l1 := lt_blk G1.out
  go_wp2_with fail
  have X1 := hide (heap1 w1 (memO k l r a b wd dp))
  have HB2 := hide (HB1.out.trans (X1.out.2.2.mono HB1.out.size))
  refine (HC.out _ (Nat.le_trans hB HB2.out.size) (HT.out.on HB2.out hB)).mono ?_
  rintro e w3 ⟨rfl, hb3⟩
  have G3 := hide (below_blk hb3 X1.out.1 (lt_blk X1.out.1))
  have G4 := hide (below_blk hb3 (below_blk X1.out.2.2 G2.out (lt_blk G2.out)) (Nat.lt_of_lt_of_le (lt_blk G2.out) X1.out.2.2.size))
  have HB3 := hide (HB2.out.trans (hb3.mono HB2.out.size))
  clear hb3 k1 k2 k3 k4 k5 k6 k7 k8 l1 G1 G2
  have c := fun o => cell_blk G3.out o
  have l3 := lt_blk G3.out
  have d := fun o => cell_blk G4.out o
  have f := fun o => froz_blk G4.out o
  have l4 := lt_blk G4.out
  go_wp2_with fail
  exact exit_memE rfl (put11_at G4.out _ _ _ _ _ _ _ _ _ _ _) rfl rfl rfl ⟨rfl, put11_below HB3.out (show w.heap.size ≤ w.heap.size + 1 by omega) _ _ _ _ _ _ _ _ _ _ _⟩
end Go.Proofs.YtbfojhneajedmaaGreatDoor
namespace Go.Proofs.YtbfojhneajedmaaGreatDoor
open Go.RowKit Go.KP Go.KI Go.Shelf
attribute [local go_sem] Oper.semAt_some

theorem lof1_cls (a : I3) (ha : small3 a) (B m : Nat) (w0 : World) (hT : PQ B w0) (hB : B ≤ m) (hm : m ≤ w0.heap.size) (x : Of (Below m w0)) :
    Calls Tryz.prog 75 #[i3V a] x.w fun e w' => e = .returned (vecV (v3 a)) ∧ Cls (Below m w0) w' :=
  (lof1_any a ha B x.w (by have := x.h.size; omega) (hT.on x.h hB)).mono fun _ _ ⟨h, hb⟩ => ⟨h, Cls.mk (x.h.trans (hb.mono (by have := x.h.size; omega)))⟩
set_option maxRecDepth 100000 in
theorem eqI3 (a0 a1 a2 b0 b1 b2 : Int) (w : World) : (Op.equalIn 10000 41 (.agg #[.int .i8 a0, .int .i8 a1, .int .i8 a2]) (.agg #[.int .i8 b0, .int .i8 b1, .int .i8 b2])).run Tryz.prog w = .ok (a0 == b0 && a1 == b1 && a2 == b2) w := by
  have u3 := Tryz.underlying40
  have a3 := Tryz.isAgg40
  have z3 := Tryz.sizeOf40
  rw [show (10000 : Nat) = 9999 + 1 from rfl, Op.equalIn]
  simp only [Sem.run_bind, run_underlying Tryz.underlying41, Result.andThen_ok]
  simp only [Std.Legacy.Range.forIn_eq_forIn_range', Std.Legacy.Range.size, Nat.sub_zero, Nat.add_sub_cancel, Nat.div_one, List.range'_succ, List.range'_zero, List.forIn_cons, List.forIn_nil]
  go_simp
  by_cases h1 : a0 = b0 <;> by_cases h2 : a1 = b1 <;> by_cases h3 : a2 = b2 <;> simp [*]
/-- The small numbers of the end: moved if they are those of the beginning. -/
def moved (a b : I3) : I3 := if a.x = b.x ∧ a.y = b.y ∧ a.z = b.z then ⟨IntKind.i8.wrap (a.x + 1), b.y, b.z⟩ else b
theorem wrap8 (n : Int) : -128 ≤ IntKind.i8.wrap n ∧ IntKind.i8.wrap n ≤ 127 ∧ IntKind.i8.wrap (n + 1) ≠ IntKind.i8.wrap n := by
  simp only [IntKind.wrap, IntKind.bits, IntKind.signed]
  simp
  omega
theorem wrap8_in {n : Int} (h1 : -128 ≤ n) (h2 : n ≤ 127) : IntKind.i8.wrap n = n := IntWalk.i8_in _ (by omega)
theorem moved_small {a b : I3} (hb : small3 b) : small3 (moved a b) := by
  unfold moved
  split
  · exact ⟨⟨(wrap8 _).1, (wrap8 _).2.1⟩, hb.2⟩
  · exact hb
theorem v3_ne {a b : I3} (ha : small3 a) : v3 a ≠ v3 (moved a b) := by
  intro h
  rw [V3.eq_iff] at h
  obtain ⟨h1, h2, h3⟩ := h
  have e1 : a.x = (moved a b).x := half_inj h1
  have e2 : a.y = (moved a b).y := half_inj h2
  have e3 : a.z = (moved a b).z := half_inj h3
  unfold moved at e1 e2 e3
  by_cases h : a.x = b.x ∧ a.y = b.y ∧ a.z = b.z
  · rw [if_pos h] at e1
    have h4 := (wrap8 a.x).2.2
    rw [wrap8_in ha.1.1 ha.1.2] at h4
    exact h4 e1.symm
  · rw [if_neg h] at e1 e2 e3
    exact h ⟨e1, e2, e3⟩
theorem v3_sz {a : I3} (ha : small3 a) : szV 3 (v3 a) := ⟨half_sz (by have := ha.1; omega), half_sz (by have := ha.2.1; omega), half_sz (by have := ha.2.2; omega)⟩
theorem small_mem {a b : I3} (ha : small3 a) (hb : small3 b) : Mem 6 1 0 (v3 a) (v3 (moved a b)) 80 220 :=
  ⟨by omega, by omega, by omega, by omega, by omega, by omega, by omega, by omega, szV_mono (v3_sz ha) (by omega), szV_mono (v3_sz (moved_small hb)) (by omega), v3_ne ha⟩
abbrev smallV (a b : I3) : Value := .agg #[.int .i8 a.x, .int .i8 a.y, .int .i8 a.z, .int .i8 b.x, .int .i8 b.y, .int .i8 b.z]
set_option maxRecDepth 100000 in
set_option maxHeartbeats 8000000 in
theorem lof_to {a b : I3} (ha : small3 a) (hb : small3 b) (B : Nat) (w : World) (hB : B ≤ w.heap.size) (hT : PQ B w) :
    Calls Tryz.prog 29 #[smallV a b] w (Ret w (memV 6 1 0 (v3 a) (v3 (moved a b)) 80 220)) := by
  have hc := moved_small (a := a) hb
  obtain ⟨c, hcc⟩ : ∃ c, c = moved a b := ⟨_, rfl⟩
  rw [← hcc] at hc ⊢
  have hway : ((a.x == b.x && a.y == b.y && a.z == b.z) = false ∧ c = b) ∨ ((a.x == b.x && a.y == b.y && a.z == b.z) = true ∧ c = ⟨IntKind.i8.wrap (a.x + 1), b.y, b.z⟩) := by
    unfold moved at hcc
    by_cases h : a.x = b.x ∧ a.y = b.y ∧ a.z = b.z
    · rw [if_pos h] at hcc
      exact .inr ⟨by simp [h], hcc⟩
    · rw [if_neg h] at hcc
      refine .inl ⟨?_, hcc⟩
      rw [Bool.eq_false_iff]
      intro e
      simp only [Bool.and_eq_true, beq_iff_eq] at e
      exact h ⟨e.1.1, e.1.2, e.2⟩
  have he := fun w => eqI3 a.x a.y a.z b.x b.y b.z w
  clear hcc
  rcases hway with ⟨h1, rfl⟩ | ⟨h1, hc2⟩
  · rw [h1] at he
    clear h1
    go_enter Tryz.func29, Tryz.ntmps29
    obtain ⟨W0, hW0⟩ : ∃ W, W = (w.alloc (.cells #[.int .i8 a.x, .int .i8 a.y, .int .i8 a.z, .int .i8 c.x, .int .i8 c.y, .int .i8 c.z] 43)).alloc mem0 := ⟨_, rfl⟩
    have hX := heap2 w (.cells #[.int .i8 a.x, .int .i8 a.y, .int .i8 a.z, .int .i8 c.x, .int .i8 c.y, .int .i8 c.z] 43) mem0
    rw [← hW0] at hX
    have E1 := hide hX.1
    have E2 := hide hX.2.1
    have HB0 := hide hX.2.2.2
    have hs := hX.2.2.1.symm
    clear hX
    have hsz : w.heap.size + 2 = W0.heap.size := hs
    have hT0 := hT.on HB0.out hB
    have HN1 := hide (fun o => lof1_cls a ha B W0.heap.size W0 hT0 (by omega) (Nat.le_refl _) o)
    have HN2 := hide (fun o => lof1_cls c hc B W0.heap.size W0 hT0 (by omega) (Nat.le_refl _) o)
    have HA := hide ha
    clear hsz hs hT hT0 ha hc
    go_wp2_with fail
    rw [← hW0]
    clear hW0
    have hx1 : ∀ x : Of (Below W0.heap.size W0), ∀ o, x.w.cell? ⟨w.heap.size, o, none⟩ = W0.cell? ⟨w.heap.size, o, none⟩ := fun x o => x.h.cell (p := ⟨w.heap.size, o, none⟩) (lt_blk E1.out)
    have c1 := fun o => cell_blk E1.out o
    refine region_prefix (C := Cls (Below W0.heap.size W0)) 9 (by kernel_rfl) (by decide) (by kernel_rfl) (by kernel_rfl) (by kernel_rfl) (by kernel_rfl) (Cls.mk (Below.refl _ _).drew) ?_
    simp only [List.take_succ_cons, List.take_zero, List.drop_succ_cons, List.drop_zero]
    repeat (go_big_quiet_step (first | with_reducible exact HN1.out _ | with_reducible exact HN2.out _))
    refine wpQuiet_nil ?_
    intro w1 hcl
    have hb1 := hcl.out
    have A2 := hide (below_blk hb1 E2.out (lt_blk E2.out))
    have HB1 := hide (HB0.out.trans (hb1.mono HB0.out.size))
    clear hcl hb1 hx1 c1 HN1 HN2
    have d := fun o => cell_blk A2.out o
    have f := fun o => froz_blk A2.out o
    have l6 := lt_blk A2.out
    go_wp2_with fail
    exact exit_mem rfl (put11_at A2.out _ _ _ _ _ _ _ _ _ _ _) rfl rfl ⟨rfl, put11_below HB1.out (show w.heap.size ≤ w.heap.size + 1 by omega) _ _ _ _ _ _ _ _ _ _ _⟩
  · rw [h1] at he
    clear h1
    go_enter Tryz.func29, Tryz.ntmps29
    subst hc2
    obtain ⟨W0, hW0⟩ : ∃ W, W = (w.alloc (.cells #[.int .i8 a.x, .int .i8 a.y, .int .i8 a.z, .int .i8 (IntKind.i8.wrap (a.x + 1)), .int .i8 b.y, .int .i8 b.z] 43)).alloc mem0 := ⟨_, rfl⟩
    have hX := heap2 w (.cells #[.int .i8 a.x, .int .i8 a.y, .int .i8 a.z, .int .i8 (IntKind.i8.wrap (a.x + 1)), .int .i8 b.y, .int .i8 b.z] 43) mem0
    rw [← hW0] at hX
    have E1 := hide hX.1
    have E2 := hide hX.2.1
    have HB0 := hide hX.2.2.2
    have hs := hX.2.2.1.symm
    clear hX
    have hsz : w.heap.size + 2 = W0.heap.size := hs
    have hT0 := hT.on HB0.out hB
    have HN1 := hide (fun o => lof1_cls a ha B W0.heap.size W0 hT0 (by omega) (Nat.le_refl _) o)
    have HN2 := hide (fun o => lof1_cls ⟨IntKind.i8.wrap (a.x + 1), b.y, b.z⟩ hc B W0.heap.size W0 hT0 (by omega) (Nat.le_refl _) o)
    have HA := hide ha
    clear hsz hs hT hT0 ha hc hb
    go_wp2_with fail
    rw [← hW0]
    clear hW0
    have hx1 : ∀ x : Of (Below W0.heap.size W0), ∀ o, x.w.cell? ⟨w.heap.size, o, none⟩ = W0.cell? ⟨w.heap.size, o, none⟩ := fun x o => x.h.cell (p := ⟨w.heap.size, o, none⟩) (lt_blk E1.out)
    have c1 := fun o => cell_blk E1.out o
    refine region_prefix (C := Cls (Below W0.heap.size W0)) 9 (by kernel_rfl) (by decide) (by kernel_rfl) (by kernel_rfl) (by kernel_rfl) (by kernel_rfl) (Cls.mk (Below.refl _ _).drew) ?_
    simp only [List.take_succ_cons, List.take_zero, List.drop_succ_cons, List.drop_zero]
    repeat (go_big_quiet_step (first | with_reducible exact HN1.out _ | with_reducible exact HN2.out _))
    refine wpQuiet_nil ?_
    intro w1 hcl
    have hb1 := hcl.out
    have A2 := hide (below_blk hb1 E2.out (lt_blk E2.out))
    have HB1 := hide (HB0.out.trans (hb1.mono HB0.out.size))
    clear hcl hb1 hx1 c1 HN1 HN2
    have d := fun o => cell_blk A2.out o
    have f := fun o => froz_blk A2.out o
    have l6 := lt_blk A2.out
    go_wp2_with fail
    exact exit_mem rfl (put11_at A2.out _ _ _ _ _ _ _ _ _ _ _) rfl rfl ⟨rfl, put11_below HB1.out (show w.heap.size ≤ w.heap.size + 1 by omega) _ _ _ _ _ _ _ _ _ _ _⟩
end Go.Proofs.YtbfojhneajedmaaGreatDoor
namespace Go.Proofs.YtbfojhneajedmaaGreatDoor
open Go.RowKit Go.KP Go.KI Go.Shelf
attribute [local go_sem] Oper.semAt_some

theorem Mem.sub {k f o : Int} {a b : V3} {wd dp : Int} (h : Mem k f o a b wd dp) (B : Nat) (w : World) (hB : B ≤ w.heap.size) (hT : PQ B w) :
    Calls Tryz.prog 40 #[vecV b, vecV a] w (Ret w (.tuple #[vecV (vsub b a), .int .i64 0])) :=
  (vSub_O h.fb h.fa B w hB hT).mono fun _ _ hr => ResV.of (sub2_sz h.hb h.ha (by rw [most_eq]; omega)) hr
theorem Mem.szd {k f o : Int} {a b : V3} {wd dp : Int} (h : Mem k f o a b wd dp) : szV 73 (vsub b a) := szV_sub h.hb h.ha
theorem Mem.fd {k f o : Int} {a b : V3} {wd dp : Int} (h : Mem k f o a b wd dp) : fitsV (vsub b a) := szV_fits h.szd (by rw [most_eq]; omega)
theorem heap4 (w : World) (o1 o2 o3 o4 : Obj) : ((((w.alloc o1).alloc o2).alloc o3).alloc o4).heap[w.heap.size]? = some o1 ∧ ((((w.alloc o1).alloc o2).alloc o3).alloc o4).heap[w.heap.size + 1]? = some o2 ∧ ((((w.alloc o1).alloc o2).alloc o3).alloc o4).heap[w.heap.size + 2]? = some o3 ∧ Below w.heap.size w ((((w.alloc o1).alloc o2).alloc o3).alloc o4) := by
  obtain ⟨a1, a2, a3, a4, a5⟩ := heap3 w o1 o2 o3
  obtain ⟨_, _, b3⟩ := heap1 (((w.alloc o1).alloc o2).alloc o3) o4
  rw [a4] at b3
  exact ⟨below_blk b3 a1 (by omega), below_blk b3 a2 (by omega), below_blk b3 a3 (by omega), a5.trans (b3.mono (by omega))⟩
set_option maxRecDepth 100000 in
set_option maxHeartbeats 8000000 in
theorem hofS {g : Nat} (hen : ∀ args w, (callFunc g args).run Tryz.prog w = .ok (.enter g args) w) {k f o : Int} {a b : V3} {wd dp : Int} (h : Mem k f o a b wd dp) {x y z : ByteArray} {B : Nat} (HG : ∀ w, B ≤ w.heap.size → PQ B w → Calls Tryz.prog g #[vecV (vsub b a)] w (Ret w (.tuple #[spotV x y z, .int .i64 0]))) (w : World) (hB : B ≤ w.heap.size) (hT : PQ B w) :
    Calls Tryz.prog 61 #[.agg #[.func (.func g) #[] #[]], memV k f o a b wd dp] w (Ret w (.tuple #[spotV x y z, .int .i64 0])) := by
  have HT := hide hT
  have HC := hide (fun w hB hT => hCheck_ok h B w hB hT)
  have HS := hide (fun w hB hT => h.sub B w hB hT)
  have HG := hide HG
  obtain ⟨d, hd⟩ : ∃ d, d = vsub b a := ⟨_, rfl⟩
  rw [← hd] at HS HG
  have X0 := hide (heap4 w (.cells #[.func (.func g) #[] #[]] 100) (memO k f o a b wd dp) (spotO ⟨#[]⟩ ⟨#[]⟩ ⟨#[]⟩) (spotO ⟨#[]⟩ ⟨#[]⟩ ⟨#[]⟩))
  clear h hT hd
  go_enter Tryz.func61, Tryz.ntmps61
  go_wp2_with fail
  refine (HC.out _ (Nat.le_trans hB X0.out.2.2.2.size) (HT.out.on X0.out.2.2.2 hB)).mono ?_
  rintro e w1 ⟨rfl, hb1⟩
  have G1 := hide (below_blk hb1 X0.out.1 (lt_blk X0.out.1))
  have G2 := hide (below_blk hb1 X0.out.2.1 (lt_blk X0.out.2.1))
  have G4 := hide (below_blk hb1 X0.out.2.2.1 (lt_blk X0.out.2.2.1))
  have HB1 := hide (X0.out.2.2.2.trans (hb1.mono X0.out.2.2.2.size))
  clear hb1
  have k3 := cell_blk G2.out 3
  have k4 := cell_blk G2.out 4
  have k5 := cell_blk G2.out 5
  have k6 := cell_blk G2.out 6
  have k7 := cell_blk G2.out 7
  have k8 := cell_blk G2.out 8
  have l2 := lt_blk G2.out
  go_wp2_with fail
  refine (HS.out _ (Nat.le_trans hB HB1.out.size) (HT.out.on HB1.out hB)).mono ?_
  rintro e w2 ⟨rfl, hb2⟩
  have X2 := hide (heap1 w2 (vecO d))
  have G3 := hide (below_blk (hb2.trans (X2.out.2.2.mono hb2.size)) G1.out (lt_blk G1.out))
  have G4 := hide (below_blk (hb2.trans (X2.out.2.2.mono hb2.size)) G4.out (lt_blk G4.out))
  have HB2 := hide (HB1.out.trans ((hb2.trans (X2.out.2.2.mono hb2.size)).mono HB1.out.size))
  clear hb2 k3 k4 k5 k6 k7 k8 l2 G1 G2
  have k0 := cell_blk G3.out 0
  have l0 := lt_blk G3.out
  go_wp2_with fail
  refine (HG.out _ (Nat.le_trans hB HB2.out.size) (HT.out.on HB2.out hB)).mono ?_
  rintro e w3 ⟨rfl, hb3⟩
  have HB3 := hide (HB2.out.trans (hb3.mono HB2.out.size))
  have G5 := hide (below_blk hb3 G4.out (lt_blk G4.out))
  clear hb3 k0 l0
  have k0 := cell_blk G5.out 0
  have k1 := cell_blk G5.out 1
  have k2 := cell_blk G5.out 2
  have f0 := froz_blk G5.out 0
  have f1 := froz_blk G5.out 1
  have f2 := froz_blk G5.out 2
  have l6 := lt_blk G5.out
  go_wp2_with fail
  exact exit_spotE rfl (set3c (set3b (set3a G5.out _) _) _) rfl rfl rfl ⟨rfl, below_spot HB3.out (show w.heap.size ≤ w.heap.size + 1 + 1 by omega) _ _ _⟩
set_option maxRecDepth 100000 in
set_option maxHeartbeats 8000000 in
theorem hofN {g : Nat} (hen : ∀ args w, (callFunc g args).run Tryz.prog w = .ok (.enter g args) w) {k f o : Int} {a b : V3} {wd dp : Int} (h : Mem k f o a b wd dp) {x : ByteArray} {B : Nat} (HG : ∀ w, B ≤ w.heap.size → PQ B w → Calls Tryz.prog g #[vecV (vsub b a)] w (Ret w (.tuple #[.string x, .int .i64 0]))) (w : World) (hB : B ≤ w.heap.size) (hT : PQ B w) :
    Calls Tryz.prog 67 #[.agg #[.func (.func g) #[] #[]], memV k f o a b wd dp] w (Ret w (.tuple #[.string x, .int .i64 0])) := by
  have HT := hide hT
  have HC := hide (fun w hB hT => hCheck_ok h B w hB hT)
  have HS := hide (fun w hB hT => h.sub B w hB hT)
  have HG := hide HG
  obtain ⟨d, hd⟩ : ∃ d, d = vsub b a := ⟨_, rfl⟩
  rw [← hd] at HS HG
  have X0 := hide (heap2 w (.cells #[.func (.func g) #[] #[]] 103) (memO k f o a b wd dp))
  clear h hT hd
  go_enter Tryz.func67, Tryz.ntmps67
  go_wp2_with fail
  refine (HC.out _ (Nat.le_trans hB X0.out.2.2.2.size) (HT.out.on X0.out.2.2.2 hB)).mono ?_
  rintro e w1 ⟨rfl, hb1⟩
  have G1 := hide (below_blk hb1 X0.out.1 (lt_blk X0.out.1))
  have G2 := hide (below_blk hb1 X0.out.2.1 (lt_blk X0.out.2.1))
  have HB1 := hide (X0.out.2.2.2.trans (hb1.mono X0.out.2.2.2.size))
  clear hb1
  have k3 := cell_blk G2.out 3
  have k4 := cell_blk G2.out 4
  have k5 := cell_blk G2.out 5
  have k6 := cell_blk G2.out 6
  have k7 := cell_blk G2.out 7
  have k8 := cell_blk G2.out 8
  have l2 := lt_blk G2.out
  go_wp2_with fail
  refine (HS.out _ (Nat.le_trans hB HB1.out.size) (HT.out.on HB1.out hB)).mono ?_
  rintro e w2 ⟨rfl, hb2⟩
  have X2 := hide (heap1 w2 (vecO d))
  have G3 := hide (below_blk (hb2.trans (X2.out.2.2.mono hb2.size)) G1.out (lt_blk G1.out))
  have HB2 := hide (HB1.out.trans ((hb2.trans (X2.out.2.2.mono hb2.size)).mono HB1.out.size))
  clear hb2 k3 k4 k5 k6 k7 k8 l2 G1 G2
  have k0 := cell_blk G3.out 0
  have l0 := lt_blk G3.out
  go_wp2_with fail
  refine (HG.out _ (Nat.le_trans hB HB2.out.size) (HT.out.on HB2.out hB)).mono ?_
  rintro e w3 ⟨rfl, hb3⟩
  have HB3 := hide (HB2.out.trans (hb3.mono HB2.out.size))
  clear hb3 k0 l0
  go_wp2_with fail
  refine bodyPost_ret (results_tmp2 rfl _ _ _) rfl ?_
  exact ⟨rfl, HB3.out⟩
set_option maxRecDepth 100000 in
theorem hdir1_any (d : V3) (w : World) :
    Calls Tryz.prog 60 #[vecV d] w (Ret w (.tuple #[vecV d, .int .i64 0])) := by
  go_enter Tryz.func60, Tryz.ntmps60
  go_wp2_with fail
  obtain ⟨_, h2, _, h4⟩ := heap2 w (vecO d) (vecO d)
  exact exit_spotE rfl h2 rfl rfl rfl ⟨rfl, h4⟩
set_option maxRecDepth 100000 in
theorem hrise1_any (d : V3) (w : World) :
    Calls Tryz.prog 66 #[vecV d] w (Ret w (.tuple #[.string (T d.z), .int .i64 0])) := by
  go_enter Tryz.func66, Tryz.ntmps66
  go_wp2_with fail
  refine bodyPost_ret (results_tmp2 rfl _ _ _) rfl ?_
  exact ⟨rfl, (heap1 w (vecO d)).2.2⟩
/-- The side of a direction. -/
def vside (d : V3) : V3 := ⟨0 - d.y, d.x, 0⟩
set_option maxRecDepth 100000 in
theorem hside1_any {d : V3} (hd : szV 73 d) (B : Nat) (w : World) (hB : B ≤ w.heap.size) (hT : PQ B w) :
    Calls Tryz.prog 63 #[vecV d] w (Ret w (.tuple #[vecV (vside d), .int .i64 0])) := by
  have HT := hide hT
  have s0 : sz 1 (0 : Rat) := ⟨by decide, by decide⟩
  have HS := hide (fun w hB hT => (qsub_O (x := 0) (y := d.y) (sz_fits s0 (by rw [most_eq]; omega)) (sz_fits hd.2.1 (by rw [most_eq]; omega)) B w hB hT).mono fun _ _ hr => ResO.of (subO_sz s0 hd.2.1 (by rw [most_eq]; omega)) hr)
  rw [T0] at HS
  have X0 := hide (heap2 w (vecO d) (spotO ⟨#[]⟩ ⟨#[]⟩ ⟨#[]⟩))
  have hV : vecV (vside d) = .agg #[.string (T (0 - d.y)), .string (T d.x), .string ⟨#[48]⟩] := by
    show Value.agg #[.string (T (0 - d.y)), .string (T d.x), .string (T 0)] = _
    rw [T0]
  rw [hV]
  obtain ⟨Y, hY⟩ : ∃ Y, Y = T (0 - d.y) := ⟨_, rfl⟩
  rw [← hY] at HS ⊢
  clear hV hY hd hT s0
  go_enter Tryz.func63, Tryz.ntmps63
  go_wp2_with fail
  refine (HS.out _ (Nat.le_trans hB X0.out.2.2.2.size) (HT.out.on X0.out.2.2.2 hB)).mono ?_
  rintro e w1 ⟨rfl, hb1⟩
  have G1 := hide (below_blk hb1 X0.out.1 (lt_blk X0.out.1))
  have G5 := hide (below_blk hb1 X0.out.2.1 (lt_blk X0.out.2.1))
  have HB1 := hide (X0.out.2.2.2.trans (hb1.mono X0.out.2.2.2.size))
  clear hb1
  have m0 := cell_blk G1.out 0
  have l1 := lt_blk G1.out
  have k0 := cell_blk G5.out 0
  have k1 := cell_blk G5.out 1
  have k2 := cell_blk G5.out 2
  have f0 := froz_blk G5.out 0
  have f1 := froz_blk G5.out 1
  have f2 := froz_blk G5.out 2
  have l6 := lt_blk G5.out
  go_wp2_with fail
  exact exit_spotE rfl (set3c (set3b (set3a G5.out _) _) _) rfl rfl rfl ⟨rfl, below_spot HB1.out (show w.heap.size ≤ w.heap.size + 1 by omega) _ _ _⟩
set_option maxRecDepth 100000 in
set_option maxHeartbeats 4000000 in
theorem hDirection_to {k f o : Int} {a b : V3} {wd dp : Int} (h : Mem k f o a b wd dp) (B : Nat) (w : World) (hB : B ≤ w.heap.size) (hT : PQ B w) :
    Calls Tryz.prog 19 #[memV k f o a b wd dp] w (Ret w (.tuple #[vecV (vsub b a), .int .i64 0])) := by
  have HT := hide hT
  have HQ := hide (fun w hB hT => hofS (enters_of Tryz.func60 (by kernel_rfl) rfl) h (B := B) (fun w hB hT => hdir1_any _ w) w hB hT)
  have X0 := hide (heap2 w (memO k f o a b wd dp) (spotO ⟨#[]⟩ ⟨#[]⟩ ⟨#[]⟩))
  obtain ⟨r, hr⟩ : ∃ r, r = vsub b a := ⟨_, rfl⟩
  have HQ : Hid (∀ w, B ≤ w.heap.size → PQ B w → Calls Tryz.prog 61 #[.agg #[.func (.func 60) #[] #[]], memV k f o a b wd dp] w (Ret w (.tuple #[vecV r, .int .i64 0]))) := hide (by rw [hr]; exact HQ.out)
  rw [← hr]
  clear h hT hr
  go_enter Tryz.func19, Tryz.ntmps19
  go_wp2_with fail
  refine (HQ.out _ (Nat.le_trans hB X0.out.2.2.2.size) (HT.out.on X0.out.2.2.2 hB)).mono ?_
  rintro e w1 ⟨rfl, hb1⟩
  have G5 := hide (below_blk hb1 X0.out.2.1 (lt_blk X0.out.2.1))
  have HB1 := hide (X0.out.2.2.2.trans (hb1.mono X0.out.2.2.2.size))
  clear hb1
  have k0 := cell_blk G5.out 0
  have k1 := cell_blk G5.out 1
  have k2 := cell_blk G5.out 2
  have f0 := froz_blk G5.out 0
  have f1 := froz_blk G5.out 1
  have f2 := froz_blk G5.out 2
  have l6 := lt_blk G5.out
  go_wp2_with fail
  exact exit_spotE rfl (set3c (set3b (set3a G5.out _) _) _) rfl rfl rfl ⟨rfl, below_spot HB1.out (show w.heap.size ≤ w.heap.size + 1 by omega) _ _ _⟩
set_option maxRecDepth 100000 in
set_option maxHeartbeats 4000000 in
theorem hSide_to {k f o : Int} {a b : V3} {wd dp : Int} (h : Mem k f o a b wd dp) (B : Nat) (w : World) (hB : B ≤ w.heap.size) (hT : PQ B w) :
    Calls Tryz.prog 21 #[memV k f o a b wd dp] w (Ret w (.tuple #[vecV (vside (vsub b a)), .int .i64 0])) := by
  have HT := hide hT
  have HQ := hide (fun w hB hT => hofS (enters_of Tryz.func63 (by kernel_rfl) rfl) h (B := B) (fun w hB hT => hside1_any h.szd B w hB hT) w hB hT)
  have X0 := hide (heap2 w (memO k f o a b wd dp) (spotO ⟨#[]⟩ ⟨#[]⟩ ⟨#[]⟩))
  obtain ⟨r, hr⟩ : ∃ r, r = vside (vsub b a) := ⟨_, rfl⟩
  have HQ : Hid (∀ w, B ≤ w.heap.size → PQ B w → Calls Tryz.prog 61 #[.agg #[.func (.func 63) #[] #[]], memV k f o a b wd dp] w (Ret w (.tuple #[vecV r, .int .i64 0]))) := hide (by rw [hr]; exact HQ.out)
  rw [← hr]
  clear h hT hr
  go_enter Tryz.func21, Tryz.ntmps21
  go_wp2_with fail
  refine (HQ.out _ (Nat.le_trans hB X0.out.2.2.2.size) (HT.out.on X0.out.2.2.2 hB)).mono ?_
  rintro e w1 ⟨rfl, hb1⟩
  have G5 := hide (below_blk hb1 X0.out.2.1 (lt_blk X0.out.2.1))
  have HB1 := hide (X0.out.2.2.2.trans (hb1.mono X0.out.2.2.2.size))
  clear hb1
  have k0 := cell_blk G5.out 0
  have k1 := cell_blk G5.out 1
  have k2 := cell_blk G5.out 2
  have f0 := froz_blk G5.out 0
  have f1 := froz_blk G5.out 1
  have f2 := froz_blk G5.out 2
  have l6 := lt_blk G5.out
  go_wp2_with fail
  exact exit_spotE rfl (set3c (set3b (set3a G5.out _) _) _) rfl rfl rfl ⟨rfl, below_spot HB1.out (show w.heap.size ≤ w.heap.size + 1 by omega) _ _ _⟩
set_option maxRecDepth 100000 in
set_option maxHeartbeats 4000000 in
theorem hRise_to {k f o : Int} {a b : V3} {wd dp : Int} (h : Mem k f o a b wd dp) (B : Nat) (w : World) (hB : B ≤ w.heap.size) (hT : PQ B w) :
    Calls Tryz.prog 23 #[memV k f o a b wd dp] w (Ret w (.tuple #[.string (T (vsub b a).z), .int .i64 0])) := by
  have HT := hide hT
  have HQ := hide (fun w hB hT => hofN (enters_of Tryz.func66 (by kernel_rfl) rfl) h (B := B) (fun w _ _ => hrise1_any _ w) w hB hT)
  have X0 := hide (heap1 w (memO k f o a b wd dp))
  obtain ⟨r, hr⟩ : ∃ r, r = T (vsub b a).z := ⟨_, rfl⟩
  rw [← hr] at HQ ⊢
  clear h hT hr
  go_enter Tryz.func23, Tryz.ntmps23
  go_wp2_with fail
  refine (HQ.out _ (Nat.le_trans hB X0.out.2.2.size) (HT.out.on X0.out.2.2 hB)).mono ?_
  rintro e w1 ⟨rfl, hb1⟩
  have HB1 := hide (X0.out.2.2.trans (hb1.mono X0.out.2.2.size))
  clear hb1
  go_wp2_with fail
  refine bodyPost_ret (results_tmp2 rfl _ _ _) rfl ?_
  exact ⟨rfl, HB1.out⟩
end Go.Proofs.YtbfojhneajedmaaGreatDoor
namespace Go.Proofs.YtbfojhneajedmaaGreatDoor
open Go.RowKit Go.KP Go.KI Go.Shelf
attribute [local go_sem] Oper.semAt_some vidx0 vidx1 vidx2

theorem heap5 (w : World) (o1 o2 o3 o4 o5 : Obj) : (((((w.alloc o1).alloc o2).alloc o3).alloc o4).alloc o5).heap[w.heap.size + 2]? = some o3 ∧ (((((w.alloc o1).alloc o2).alloc o3).alloc o4).alloc o5).heap.size = w.heap.size + 5 ∧ Below w.heap.size w (((((w.alloc o1).alloc o2).alloc o3).alloc o4).alloc o5) := by
  obtain ⟨_, _, a3, a4, a5⟩ := heap3 w o1 o2 o3
  obtain ⟨_, _, b4, b5⟩ := heap2 (((w.alloc o1).alloc o2).alloc o3) o4 o5
  rw [a4] at b4 b5
  exact ⟨below_blk b5 a3 (by omega), by omega, a5.trans (b5.mono (by omega))⟩
/-- The parts of two vectors can be compared. -/
def cmpsV (a b : V3) : Prop := cmpC a.x b.x ∧ cmpC a.y b.y ∧ cmpC a.z b.z
theorem cmpsV_of {p q : Nat} {a b : V3} (ha : szV p a) (hb : szV q b) (h : p + q ≤ most) : cmpsV a b := ⟨cmpC_of ha.1 hb.1 h, cmpC_of ha.2.1 hb.2.1 h, cmpC_of ha.2.2 hb.2.2 h⟩
set_option maxRecDepth 100000 in
set_option maxHeartbeats 8000000 in
theorem vCompare_T {a b : V3} (fa : fitsV a) (fb : fitsV b) (hc : cmpsV a b) (B : Nat) (w : World) (hB : B ≤ w.heap.size) (hT : PQ B w) :
    Calls Tryz.prog 48 #[vecV a, vecV b] w (Ret w (.tuple #[.int .i64 (vcmp a b), .int .i64 0])) := by
  have HT := hide hT
  have HC := hide (fun w hB hT => vboth_T fa fb B w hB hT)
  have H1 := hide (fun w hB hT => qcmp_T fa.1 fb.1 hc.1 B w hB hT)
  have H2 := hide (fun w hB hT => qcmp_T fa.2.1 fb.2.1 hc.2.1 B w hB hT)
  have H3 := hide (fun w hB hT => qcmp_T fa.2.2 fb.2.2 hc.2.2 B w hB hT)
  have X0 := hide (heap2 w (vecO a) (vecO b))
  have HL1 := hide (fun w => vlist_at (T a.x) (T a.y) (T a.z) w)
  have HL2 := hide (fun w => vlist_at (T b.x) (T b.y) (T b.z) w)
  obtain ⟨V, hV⟩ : ∃ V, V = vcmp a b := ⟨_, rfl⟩
  rw [← hV]
  unfold vcmp at hV
  obtain ⟨x, hx⟩ : ∃ x, x = cmpR a.x b.x := ⟨_, rfl⟩
  obtain ⟨y, hy⟩ : ∃ x, x = cmpR a.y b.y := ⟨_, rfl⟩
  obtain ⟨z, hz⟩ : ∃ x, x = cmpR a.z b.z := ⟨_, rfl⟩
  rw [← hx] at H1 hV
  rw [← hy] at H2 hV
  rw [← hz] at H3 hV
  clear hx hy hz hT fa fb hc
  by_cases hx : x = 0
  rotate_left
  · rw [if_pos hx] at hV
    have hx2 : (x != 0) = true := by simpa using hx
    clear hx
    subst hV
    go_enter Tryz.func48, Tryz.ntmps48
    go_wp2_with fail
    refine (HC.out _ (Nat.le_trans hB X0.out.2.2.2.size) (HT.out.on X0.out.2.2.2 hB)).mono ?_
    rintro e w1 ⟨rfl, hb1⟩
    have HB1 := hide (X0.out.2.2.2.trans (hb1.mono X0.out.2.2.2.size))
    have G1 := hide (below_blk hb1 X0.out.1 (lt_blk X0.out.1))
    have G2 := hide (below_blk hb1 X0.out.2.1 (lt_blk X0.out.2.1))
    have l1 := lt_blk G1.out
    have l2 := lt_blk G2.out
    have k0 := cell_blk G1.out 0
    have k1 := cell_blk G1.out 1
    have k2 := cell_blk G1.out 2
    have m0 := cell_blk G2.out 0
    have m1 := cell_blk G2.out 1
    have m2 := cell_blk G2.out 2
    clear hb1
    go_wp2_with fail
    refine (HL2.out _).mono ?_
    rintro e w0 ⟨rfl, rfl⟩
    have X3 := hide (heap3 w1 (sptO (T b.x) (T b.y) (T b.z)) (arrO (T b.x) (T b.y) (T b.z)) (arrO (T b.x) (T b.y) (T b.z))).2.2.2.2
    have G3 := hide (below_blk X3.out G1.out (lt_blk G1.out))
    clear k0 k1 k2 m0 m1 m2 l1 l2
    have l1 := lt_blk G3.out
    have k0 := cell_blk G3.out 0
    have k1 := cell_blk G3.out 1
    have k2 := cell_blk G3.out 2
    go_wp2_with fail
    refine (HL1.out _).mono ?_
    rintro e w0 ⟨rfl, rfl⟩
    have Y0 := hide (heap5 w1 (sptO (T b.x) (T b.y) (T b.z)) (arrO (T b.x) (T b.y) (T b.z)) (arrO (T b.x) (T b.y) (T b.z)) (sptO (T a.x) (T a.y) (T a.z)) (arrO (T a.x) (T a.y) (T a.z)))
    have Y1 := hide Y0.out.1
    have YB := hide (HB1.out.trans (Y0.out.2.2.mono HB1.out.size))
    clear k0 k1 k2 l1
    go_wp2_with fail
    refine wp_loop_rounds 1 ?_
    rw [rounds_succ]
    go_wp2_with fail
    refine (H1.out _ (Nat.le_trans hB YB.out.size) (HT.out.on YB.out hB)).mono ?_
    rintro e w2 ⟨rfl, hb2⟩
    have HB2 := hide (YB.out.trans (hb2.mono YB.out.size))
    clear hb2
    go_wp2_with fail
    refine bodyPost_ret (results_tmp2 rfl _ _ _) rfl ?_
    exact ⟨rfl, HB2.out⟩
  subst hx
  rw [if_neg (by simp)] at hV
  by_cases hy : y = 0
  rotate_left
  · rw [if_pos hy] at hV
    have hy2 : (y != 0) = true := by simpa using hy
    clear hy
    subst hV
    go_enter Tryz.func48, Tryz.ntmps48
    go_wp2_with fail
    refine (HC.out _ (Nat.le_trans hB X0.out.2.2.2.size) (HT.out.on X0.out.2.2.2 hB)).mono ?_
    rintro e w1 ⟨rfl, hb1⟩
    have HB1 := hide (X0.out.2.2.2.trans (hb1.mono X0.out.2.2.2.size))
    have G1 := hide (below_blk hb1 X0.out.1 (lt_blk X0.out.1))
    have G2 := hide (below_blk hb1 X0.out.2.1 (lt_blk X0.out.2.1))
    have l1 := lt_blk G1.out
    have l2 := lt_blk G2.out
    have k0 := cell_blk G1.out 0
    have k1 := cell_blk G1.out 1
    have k2 := cell_blk G1.out 2
    have m0 := cell_blk G2.out 0
    have m1 := cell_blk G2.out 1
    have m2 := cell_blk G2.out 2
    clear hb1
    go_wp2_with fail
    refine (HL2.out _).mono ?_
    rintro e w0 ⟨rfl, rfl⟩
    have X3 := hide (heap3 w1 (sptO (T b.x) (T b.y) (T b.z)) (arrO (T b.x) (T b.y) (T b.z)) (arrO (T b.x) (T b.y) (T b.z))).2.2.2.2
    have G3 := hide (below_blk X3.out G1.out (lt_blk G1.out))
    clear k0 k1 k2 m0 m1 m2 l1 l2
    have l1 := lt_blk G3.out
    have k0 := cell_blk G3.out 0
    have k1 := cell_blk G3.out 1
    have k2 := cell_blk G3.out 2
    go_wp2_with fail
    refine (HL1.out _).mono ?_
    rintro e w0 ⟨rfl, rfl⟩
    have Y0 := hide (heap5 w1 (sptO (T b.x) (T b.y) (T b.z)) (arrO (T b.x) (T b.y) (T b.z)) (arrO (T b.x) (T b.y) (T b.z)) (sptO (T a.x) (T a.y) (T a.z)) (arrO (T a.x) (T a.y) (T a.z)))
    have Y1 := hide Y0.out.1
    have YB := hide (HB1.out.trans (Y0.out.2.2.mono HB1.out.size))
    clear k0 k1 k2 l1
    go_wp2_with fail
    refine wp_loop_rounds 2 ?_
    rw [rounds_succ]
    go_wp2_with fail
    refine (H1.out _ (Nat.le_trans hB YB.out.size) (HT.out.on YB.out hB)).mono ?_
    rintro e w2 ⟨rfl, hb2⟩
    have Z2 := hide (below_blk hb2 Y1.out (lt_blk Y1.out))
    have HB2 := hide (YB.out.trans (hb2.mono YB.out.size))
    clear hb2
    go_wp2_with fail
    have k1 := cell_blk Z2.out 1
    rw [rounds_succ]
    go_wp2_with fail
    refine (H2.out _ (Nat.le_trans hB HB2.out.size) (HT.out.on HB2.out hB)).mono ?_
    rintro e w3 ⟨rfl, hb3⟩
    have HB3 := hide (HB2.out.trans (hb3.mono HB2.out.size))
    clear hb3
    go_wp2_with fail
    refine bodyPost_ret (results_tmp2 rfl _ _ _) rfl ?_
    exact ⟨rfl, HB3.out⟩
  subst hy
  rw [if_neg (by simp)] at hV
  subst hV
  have hz : V = 0 ∨ (V != 0) = true := by
    by_cases h : V = 0
    · exact .inl h
    · exact .inr (by simpa using h)
  rcases hz with rfl | hz
  all_goals
    go_enter Tryz.func48, Tryz.ntmps48
    go_wp2_with fail
    refine (HC.out _ (Nat.le_trans hB X0.out.2.2.2.size) (HT.out.on X0.out.2.2.2 hB)).mono ?_
    rintro e w1 ⟨rfl, hb1⟩
    have HB1 := hide (X0.out.2.2.2.trans (hb1.mono X0.out.2.2.2.size))
    have G1 := hide (below_blk hb1 X0.out.1 (lt_blk X0.out.1))
    have G2 := hide (below_blk hb1 X0.out.2.1 (lt_blk X0.out.2.1))
    have l1 := lt_blk G1.out
    have l2 := lt_blk G2.out
    have k0 := cell_blk G1.out 0
    have k1 := cell_blk G1.out 1
    have k2 := cell_blk G1.out 2
    have m0 := cell_blk G2.out 0
    have m1 := cell_blk G2.out 1
    have m2 := cell_blk G2.out 2
    clear hb1
    go_wp2_with fail
    refine (HL2.out _).mono ?_
    rintro e w0 ⟨rfl, rfl⟩
    have X3 := hide (heap3 w1 (sptO (T b.x) (T b.y) (T b.z)) (arrO (T b.x) (T b.y) (T b.z)) (arrO (T b.x) (T b.y) (T b.z))).2.2.2.2
    have G3 := hide (below_blk X3.out G1.out (lt_blk G1.out))
    clear k0 k1 k2 m0 m1 m2 l1 l2
    have l1 := lt_blk G3.out
    have k0 := cell_blk G3.out 0
    have k1 := cell_blk G3.out 1
    have k2 := cell_blk G3.out 2
    go_wp2_with fail
    refine (HL1.out _).mono ?_
    rintro e w0 ⟨rfl, rfl⟩
    have Y0 := hide (heap5 w1 (sptO (T b.x) (T b.y) (T b.z)) (arrO (T b.x) (T b.y) (T b.z)) (arrO (T b.x) (T b.y) (T b.z)) (sptO (T a.x) (T a.y) (T a.z)) (arrO (T a.x) (T a.y) (T a.z)))
    have Y1 := hide Y0.out.1
    have YB := hide (HB1.out.trans (Y0.out.2.2.mono HB1.out.size))
    clear k0 k1 k2 l1
    go_wp2_with fail
    refine wp_loop_rounds 4 ?_
    rw [rounds_succ]
    go_wp2_with fail
    refine (H1.out _ (Nat.le_trans hB YB.out.size) (HT.out.on YB.out hB)).mono ?_
    rintro e w2 ⟨rfl, hb2⟩
    have Z2 := hide (below_blk hb2 Y1.out (lt_blk Y1.out))
    have HB2 := hide (YB.out.trans (hb2.mono YB.out.size))
    clear hb2
    go_wp2_with fail
    have k1 := cell_blk Z2.out 1
    rw [rounds_succ]
    go_wp2_with fail
    refine (H2.out _ (Nat.le_trans hB HB2.out.size) (HT.out.on HB2.out hB)).mono ?_
    rintro e w3 ⟨rfl, hb3⟩
    have Z3 := hide (below_blk hb3 Z2.out (lt_blk Z2.out))
    have HB3 := hide (HB2.out.trans (hb3.mono HB2.out.size))
    clear hb3 k1
    go_wp2_with fail
    have k1 := cell_blk Z3.out 2
    rw [rounds_succ]
    go_wp2_with fail
    refine (H3.out _ (Nat.le_trans hB HB3.out.size) (HT.out.on HB3.out hB)).mono ?_
    rintro e w4 ⟨rfl, hb4⟩
    have HB4 := hide (HB3.out.trans (hb4.mono HB3.out.size))
    clear hb4
    go_wp2_with fail
    first
      | (refine bodyPost_ret (results_tmp2 rfl _ _ _) rfl ?_
         exact ⟨rfl, HB4.out⟩)
      | (rw [rounds_succ]
         go_wp2_with fail
         refine bodyPost_ret (results_tmp2 rfl _ _ _) rfl ?_
         exact ⟨rfl, HB4.out⟩)
end Go.Proofs.YtbfojhneajedmaaGreatDoor
namespace Go.KP
open Go
section
variable {P : Program} {md : Region.Mode}

theorem any_steps {l : List Oper} {Q : Exit → Act → World → Prop} {n f : Nat} {S : Array Bool → Act → World → Prop} (hg : gateB md l 0 n = true) (hn : n ≤ l.length)
    (hS : ∀ a w, S (Array.replicate n true) a w → wpAny P md l.toArray Q f (padded (Array.replicate n true) (l.length - n)) a w)
    (hstep : ∀ (i : Nat) (o : Oper) (L : Array Bool) (a : Act) (w : World), i < n → l[i]? = some o → L.size = n → L.getD i false = false → (∀ j, waits md l.toArray i j → L.getD j false = true) → S L a w → o.wp P a w (fun a' w' => S (L.setIfInBounds i true) a' w') Q) :
    ∀ (fuel : Nat) (L : Array Bool) (a : Act), L.size = n → down md l.toArray L → (∀ j, j < 0 → j < n → L.getD j false = true) → L.toList.count false = fuel →
    ∀ w, S L a w → wpAny P md l.toArray Q (fuel + f) (padded L (l.length - n)) a w := by
  intro fuel
  induction fuel with
  | zero =>
    intro L a hL hd hk hc w h
    have : L = Array.replicate n true := by
      have hne := List.count_eq_zero.1 hc
      apply Array.ext
      · simp [hL]
      · intro i h1 h2
        rw [Array.getElem_replicate]
        cases hx : L[i] with
        | true => rfl
        | false => exact absurd (by rw [← hx]; simp) hne
    subst this
    rw [Nat.zero_add]
    exact hS a w h
  | succ fuel ih =>
    intro L a hL hd hk hc w h
    obtain ⟨j0, hj0, hjf⟩ : ∃ j, j < n ∧ L.getD j false = false := by
      have hmem : false ∈ L.toList := List.count_pos_iff.1 (by omega)
      obtain ⟨j, hj, hx⟩ := List.mem_iff_getElem.1 hmem
      refine ⟨j, by simpa [hL] using hj, ?_⟩
      have : j < L.size := by simpa using hj
      simpa [this] using hx
    have hpre : ∀ i, i ∈ Region.ready md l.toArray (padded L (l.length - n)) → i < n ∧ i ∈ Region.ready md (l.take n).toArray L := by
      intro i hi
      obtain ⟨h1, h2, h3⟩ := ready_iff.1 hi
      have hin : i < n := by
        rcases Nat.lt_or_ge i n with h | h
        · exact h
        · exfalso
          have hil : i < l.length := by simpa using h1
          rcases gate_behind hg i hil h with ⟨j, hj, hw⟩ | hall
          · have := h3 j hw
            rw [padded_f, Array.getD_eq_getD_getElem?, Array.getElem?_eq_none (by omega)] at this
            simp at this
          · have key : ∀ d j, n - j = d → j < n → L.getD j false = true := by
              intro d
              induction d using Nat.strongRecOn with
              | _ d ihd =>
                intro j hdj hj
                rcases hall j hj with h4 | h4 | ⟨m, h4, h5, h6⟩
                · exact hk j h4 hj
                · have := h3 j h4
                  rwa [padded_f] at this
                · exact hd m j (ihd (n - m) (by omega) m rfl h4) h6
            have := key _ j0 rfl hj0
            rw [hjf] at this
            cases this
      refine ⟨hin, ready_iff.2 ⟨by simp; omega, ?_, fun j hj => ?_⟩⟩
      · rwa [padded_t (by omega)] at h2
      · have := h3 j ((waits_take hin).1 hj)
        rwa [padded_f] at this
    have hback : ∀ i, i ∈ Region.ready md (l.take n).toArray L → i ∈ Region.ready md l.toArray (padded L (l.length - n)) := by
      intro i hi
      obtain ⟨h1, h2, h3⟩ := ready_iff.1 hi
      have hin : i < n := by simp at h1; omega
      refine ready_iff.2 ⟨by simp; omega, ?_, fun j hj => ?_⟩
      · rwa [padded_t (by omega)]
      · rw [padded_f]
        exact h3 j ((waits_take hin).2 hj)
    rw [Nat.add_right_comm]
    refine ⟨fun h0 => ?_, fun i hi => ?_⟩
    · obtain ⟨i, hi⟩ := some_ready hg hL j0 hj0 hjf
      have := hback i hi
      rw [h0] at this
      cases this
    · obtain ⟨hin, hr⟩ := hpre i hi
      obtain ⟨r1, r2, r3⟩ := ready_iff.1 hr
      have hiL : i < L.size := by omega
      have hfi : L.getD i false = false := by rw [← getD_tf hiL]; exact r2
      obtain ⟨b1, b2, b3⟩ := gate_before hg i hin
      have hd' : down md l.toArray (L.setIfInBounds i true) := by
        intro x y hx hxy
        have hmono : ∀ y, L.getD y false = true → (L.setIfInBounds i true).getD y false = true := by
          intro y hy
          by_cases hyi : y = i
          · subst hyi; rw [hfi] at hy; cases hy
          · simpa [Array.getD_eq_getD_getElem?, Array.getElem?_setIfInBounds_ne (Ne.symm hyi)] using hy
        by_cases hxi : x = i
        · subst hxi
          exact hmono y (r3 y ((waits_take hin).2 hxy))
        · have hx' : L.getD x false = true := by simpa [Array.getD_eq_getD_getElem?, Array.getElem?_setIfInBounds_ne (Ne.symm hxi)] using hx
          exact hmono y (hd x y hx' hxy)
      have hk' : ∀ j, j < 0 → j < n → (L.setIfInBounds i true).getD j false = true := by
        intro j h1 h2
        have hj := hk j h1 h2
        by_cases hji : j = i
        · subst hji; rw [hfi] at hj; cases hj
        · simpa [Array.getD_eq_getD_getElem?, Array.getElem?_setIfInBounds_ne (Ne.symm hji)] using hj
      have hnext : ∀ a' w', S (L.setIfInBounds i true) a' w' → wpAny P md l.toArray Q (fuel + f) ((padded L (l.length - n)).setIfInBounds i true) a' w' := by
        intro a' w' h'
        rw [padded_set hiL]
        exact ih _ a' (by simpa using hL) hd' hk' (by have := count_set hiL hfi; omega) w' h'
      unfold wpOp
      have e2 : l.toArray[i]? = some l[i] := by simp [b1]
      rw [e2]
      have hgd : l[i].guard = none := b2 _ (List.getElem?_eq_getElem b1)
      have hw1 : ∀ ys, Region.wanted l[i] ys = true := fun ys => by simp [Region.wanted, hgd]
      simp only [hw1, if_true]
      exact .inl (Oper.wp_mono hnext (hstep i l[i] L a w hin (List.getElem?_eq_getElem b1) hL hfi (fun j hj => r3 j ((waits_take hin).2 hj)) h))
/-- **A region that draws its order: its first n operations by steps, in whatever order; the rest in order.** -/
theorem region_steps {id : Nat} {Q : Exit → Act → World → Prop} {a : Act} {w : World} {l : List Oper} (n : Nat) (S : Array Bool → Act → World → Prop) (hm : P.follows .mixedOrders = true) (hn : n ≤ l.length)
    (hg : gateB .any l 0 n = true) (hs : seqB .any l n = true) (h0 : S (Array.replicate n false) a { w with drawn := w.drawn + 1 })
    (hstep : ∀ (i : Nat) (o : Oper) (L : Array Bool) (a : Act) (w : World), i < n → l[i]? = some o → L.size = n → L.getD i false = false → (∀ j, waits .any l.toArray i j → L.getD j false = true) → S L a w → o.wp P a w (fun a' w' => S (L.setIfInBounds i true) a' w') Q)
    (hend : ∀ a w, S (Array.replicate n true) a w → wpList P l.toArray Q (l.drop n) a w) : (Code.region id l.toArray true).wp P Q a w := by
  refine wp_region_any hm ?_
  have h2 := any_steps (P := P) (Q := Q) (S := S) (f := (l.drop n).length) hg hn (fun a2 w2 h3 => any_seq hs (l.drop n) n a2 w2 (fun j => by simp) (Nat.le_refl _) (by simp; omega) (hend a2 w2 h3)) hstep
    n (Array.replicate n false) a (by simp) (fun i j hi => by simp [Array.getD_eq_getD_getElem?, Array.getElem?_replicate] at hi; split at hi <;> simp at hi) (fun j hj => by omega) (by simp) _ h0
  have e : padded (Array.replicate n false) (l.length - n) = Array.replicate l.toArray.size false := by
    unfold padded
    rw [Array.replicate_append_replicate]
    congr 1
    simp
    omega
  rw [e] at h2
  have e2 : n + (l.drop n).length = l.toArray.size := by simp; omega
  rw [e2] at h2
  exact h2
theorem getD_set {L : Array Bool} {i j n : Nat} (hL : L.size = n) (hi : i < n) : (L.setIfInBounds i true).getD j false = if i = j then true else L.getD j false := by
  simp only [Array.getD_eq_getD_getElem?, Array.getElem?_setIfInBounds]
  by_cases h : i = j
  · subst h
    simp [hL, hi]
  · simp [h]
end
end Go.KP
