/-
  Texts laid together.
-/
import Derived.Test.YtpmnhipffkhcpaaGreatDoorMB11
import Derived.Test.YtpmnhipffkhcpaaGreatDoorMB9
import Derived.Test.YtpmnhipffkhcpaaGreatDoorMB4
import Derived.Test.YtpmnhipffkhcpaaGreatDoorMB5
import Derived.Test.YtpmnhipffkhcpaaGreatDoorMB3
import Derived.Test.YtpmnhipffkhcpaaGreatDoorMB2
import Derived.Test.YtpmnhipffkhcpaaGreatDoorMB8
import Derived.Lib.MinMax
set_option maxRecDepth 100000
set_option maxHeartbeats 32000000
namespace Go.KI
open Go

theorem momF_gr {K : Nat} (hK : K ≤ 2 * gq) {f : Rat × Rat} {a : Rat} (h1 : Gr gp gq f.1) (h2 : Gr gp gq f.2) (ha : Gr gp gq a) : Gr (zD K) zB (momF a f) :=
  weight_into hK (gr_mul h2 (dif_gr h1 ha))
theorem mean_gr {x y : Rat} (hx : Gr gp gq x) (hy : Gr gp gq y) : Gr mD mB ((x + y) * (1 / 2)) := by
  rw [← half_eq]
  exact mid_gr hx hy
theorem momS_gr {K : Nat} (hK : K ≤ 2 * gq) {f t z a : Rat} (hf : Gr gp gq f) (ht : Gr gp gq t) (hz : Gr gp gq z) (ha : Gr gp gq a) : Gr (zD K) zB (momS a (f, t, z)) :=
  turn_into hK (gr_mul (load_gr hf ht hz) (arm_gr (mean_gr hf ht) ha))
theorem sup_gr {K : Nat} {x : Rat} (c : Prop) [Decidable c] (h : Gr (zD K) zB x) : Gr (zD K) zB (if c then x else 0) := by
  by_cases hc : c
  · rw [if_pos hc]; exact h
  · rw [if_neg hc]; exact gr_zero _ _
theorem shear_gr {b : Bm} (h : BmS b) {a : Rat} (ha : Gr gp gq a) : ∃ K, 1 ≤ K ∧ K ≤ 2 * gq ∧ Gr (zD K) zB (leftB b) ∧ Gr (zD K) zB (rightB b) ∧ Gr (zD K) (130 * zB) (shearB b a) := by
  obtain ⟨K, h1, h2, h3, h4⟩ := react_gr h
  have hl := react_into h4
  have hr := react_into (right_l h3)
  refine ⟨K, h1, h2, hl, hr, ?_⟩
  have hf : Gr (zD K) (128 * zB) (foldB wgt b a) := fold_gr h ha fun _ _ k => weight_into h2 k.wt
  have := gr_sub (gr_add (sup_gr (b.lft ≤ a) hl) (sup_gr (b.rgt ≤ a) hr)) hf
  exact gr_mono this (by omega)
theorem moment_gr {b : Bm} (h : BmS b) {a : Rat} (ha : Gr gp gq a) : ∃ K, 1 ≤ K ∧ K ≤ 2 * gq ∧ Gr (tD * K) lB (leftB b) ∧ Gr (tD * K) lB (rightB b) ∧ Gr (zD K) (130 * zB) (momentB b a) := by
  obtain ⟨K, h1, h2, h3, h4⟩ := react_gr h
  refine ⟨K, h1, h2, h4, right_l h3, ?_⟩
  have hf : Gr (zD K) (128 * zB) (foldB (backAt a) b a) := fold_gr h ha fun _ _ k => turn_into h2 (back_gr k ha)
  have := gr_sub (gr_add (sup_gr (b.lft < a) (react_arm h4 ha (small_gr h.sf))) (sup_gr (b.rgt < a) (react_arm (right_l h3) ha (small_gr h.sr)))) hf
  exact gr_mono this (by omega)
end Go.KI
namespace Go.Proofs.YtpmnhipffkhcpaaGreatDoor
open Go.RowKit Go.KP Go.KI Go.Shelf

abbrev Fr := ByteArray × ByteArray
abbrev Sp := ByteArray × ByteArray × ByteArray
def frcells (l : List Fr) : List Value := l.flatMap fun f => [.string f.1, .string f.2]
def spcells (l : List Sp) : List Value := l.flatMap fun f => [.string f.1, .string f.2.1, .string f.2.2]
def frAt (l : List Fr) (i : Nat) : Fr := l[i]?.getD (⟨#[]⟩, ⟨#[]⟩)
def spAt (l : List Sp) (i : Nat) : Sp := l[i]?.getD (⟨#[]⟩, ⟨#[]⟩, ⟨#[]⟩)
theorem frcells_at : ∀ (l : List Fr) (i : Nat), i < l.length → (frcells l)[i * 2]? = some (.string (frAt l i).1) ∧ (frcells l)[i * 2 + 1]? = some (.string (frAt l i).2) := by
  intro l
  induction l with
  | nil => intro i h; simp at h
  | cons g r ih =>
    intro i h
    cases i with
    | zero => simp [frcells, frAt]
    | succ i =>
      have := ih i (by simpa using h)
      have e : frcells (g :: r) = .string g.1 :: .string g.2 :: frcells r := rfl
      rw [e, show (i + 1) * 2 = i * 2 + 2 by omega]
      simpa [frAt] using this
theorem spcells_at : ∀ (l : List Sp) (i : Nat), i < l.length → (spcells l)[i * 3]? = some (.string (spAt l i).1) ∧ (spcells l)[i * 3 + 1]? = some (.string (spAt l i).2.1) ∧ (spcells l)[i * 3 + 2]? = some (.string (spAt l i).2.2) := by
  intro l
  induction l with
  | nil => intro i h; simp at h
  | cons g r ih =>
    intro i h
    cases i with
    | zero => simp [spcells, spAt]
    | succ i =>
      have := ih i (by simpa using h)
      have e : spcells (g :: r) = .string g.1 :: .string g.2.1 :: .string g.2.2 :: spcells r := rfl
      rw [e, show (i + 1) * 3 = i * 3 + 3 by omega]
      simpa [spAt] using this
def FrRow (B : Nat) (w : World) (ad : Option Addr) (l : List Fr) : Prop := ∀ i, i < l.length → ∃ k o, ad = some ⟨k, o, none⟩ ∧ k < B ∧ w.cell? ⟨k, o + i * 2, none⟩ = some (.string (frAt l i).1) ∧ w.cell? ⟨k, o + i * 2 + 1, none⟩ = some (.string (frAt l i).2)
def SpRow (B : Nat) (w : World) (ad : Option Addr) (l : List Sp) : Prop := ∀ i, i < l.length → ∃ k o, ad = some ⟨k, o, none⟩ ∧ k < B ∧ w.cell? ⟨k, o + i * 3, none⟩ = some (.string (spAt l i).1) ∧ w.cell? ⟨k, o + i * 3 + 1, none⟩ = some (.string (spAt l i).2.1) ∧ w.cell? ⟨k, o + i * 3 + 2, none⟩ = some (.string (spAt l i).2.2)
theorem FrRow.of {B : Nat} {w : World} {v : Value} {l : List Fr} (h : SlAt B w 2 v l.length (frcells l)) : ∃ ad c, v = .slice ad l.length c ∧ FrRow B w ad l := by
  rcases h.2 with ⟨a, c, h1, h2⟩ | ⟨b, o, cap, hv, hb, hc⟩
  · exact ⟨a, c, by rw [h1, h2], fun i hi => by omega⟩
  · refine ⟨_, cap, hv, fun i hi => ?_⟩
    obtain ⟨h1, h2⟩ := frcells_at l i hi
    exact ⟨b, o, rfl, hb, hc _ _ h1, hc _ _ h2⟩
theorem SpRow.of {B : Nat} {w : World} {v : Value} {l : List Sp} (h : SlAt B w 3 v l.length (spcells l)) : ∃ ad c, v = .slice ad l.length c ∧ SpRow B w ad l := by
  rcases h.2 with ⟨a, c, h1, h2⟩ | ⟨b, o, cap, hv, hb, hc⟩
  · exact ⟨a, c, by rw [h1, h2], fun i hi => by omega⟩
  · refine ⟨_, cap, hv, fun i hi => ?_⟩
    obtain ⟨h1, h2, h3⟩ := spcells_at l i hi
    exact ⟨b, o, rfl, hb, hc _ _ h1, hc _ _ h2, hc _ _ h3⟩
theorem FrRow.cells {B : Nat} {w w2 : World} {ad : Option Addr} {l : List Fr} (h : FrRow B w ad l) (hc : ∀ k o, k < B → w2.cell? ⟨k, o, none⟩ = w.cell? ⟨k, o, none⟩) : FrRow B w2 ad l := fun i hi => by
  obtain ⟨k, o, h1, h2, h3, h4⟩ := h i hi
  exact ⟨k, o, h1, h2, (hc _ _ h2).trans h3, (hc _ _ h2).trans h4⟩
theorem SpRow.cells {B : Nat} {w w2 : World} {ad : Option Addr} {l : List Sp} (h : SpRow B w ad l) (hc : ∀ k o, k < B → w2.cell? ⟨k, o, none⟩ = w.cell? ⟨k, o, none⟩) : SpRow B w2 ad l := fun i hi => by
  obtain ⟨k, o, h1, h2, h3, h4, h5⟩ := h i hi
  exact ⟨k, o, h1, h2, (hc _ _ h2).trans h3, (hc _ _ h2).trans h4, (hc _ _ h2).trans h5⟩
theorem FrRow.mono {B B2 : Nat} {w : World} {ad : Option Addr} {l : List Fr} (h : FrRow B w ad l) (hB : B ≤ B2) : FrRow B2 w ad l := fun i hi => by
  obtain ⟨k, o, h1, h2, h3⟩ := h i hi
  exact ⟨k, o, h1, by omega, h3⟩
theorem SpRow.mono {B B2 : Nat} {w : World} {ad : Option Addr} {l : List Sp} (h : SpRow B w ad l) (hB : B ≤ B2) : SpRow B2 w ad l := fun i hi => by
  obtain ⟨k, o, h1, h2, h3⟩ := h i hi
  exact ⟨k, o, h1, by omega, h3⟩
theorem FrRow.nil (B : Nat) (w : World) (ad : Option Addr) : FrRow B w ad [] := fun i hi => by simp at hi
theorem SpRow.nil (B : Nat) (w : World) (ad : Option Addr) : SpRow B w ad [] := fun i hi => by simp at hi
abbrev beamV (L l r : ByteArray) (fa : Option Addr) (fn fc : Nat) (sa : Option Addr) (sn sc : Nat) : Value := .agg #[.string L, .string l, .string r, .slice fa fn fc, .slice sa sn sc]
abbrev beamO (L l r : ByteArray) (fa : Option Addr) (fn fc : Nat) (sa : Option Addr) (sn sc : Nat) : Obj := .cells #[.string L, .string l, .string r, .slice fa fn fc, .slice sa sn sc] 26
def TF (l : List (Rat × Rat)) : List Fr := l.map fun f => (T f.1, T f.2)
def TS (l : List (Rat × Rat × Rat)) : List Sp := l.map fun f => (T f.1, T f.2.1, T f.2.2)
def fAt (l : List (Rat × Rat)) (i : Nat) : Rat × Rat := l[i]?.getD (0, 0)
def sAt (l : List (Rat × Rat × Rat)) (i : Nat) : Rat × Rat × Rat := l[i]?.getD (0, 0, 0)
theorem TF_len (l : List (Rat × Rat)) : (TF l).length = l.length := List.length_map _
theorem TS_len (l : List (Rat × Rat × Rat)) : (TS l).length = l.length := List.length_map _
theorem TF_at {l : List (Rat × Rat)} {i : Nat} (h : i < l.length) : frAt (TF l) i = (T (fAt l i).1, T (fAt l i).2) := by
  simp [frAt, TF, fAt, h]
theorem TS_at {l : List (Rat × Rat × Rat)} {i : Nat} (h : i < l.length) : spAt (TS l) i = (T (sAt l i).1, T (sAt l i).2.1, T (sAt l i).2.2) := by
  simp [spAt, TS, sAt, h]
theorem fAt_mem {l : List (Rat × Rat)} {i : Nat} (h : i < l.length) : fAt l i ∈ l := by
  simp [fAt, h]
theorem sAt_mem {l : List (Rat × Rat × Rat)} {i : Nat} (h : i < l.length) : sAt l i ∈ l := by
  simp [sAt, h]
theorem fsum_step (g : Rat × Rat → Rat) {l : List (Rat × Rat)} {i : Nat} (h : i < l.length) : sumL g (l.take (i + 1)) = sumL g (l.take i) + g (fAt l i) := by
  rw [List.take_add_one, List.getElem?_eq_getElem h, Option.toList_some, sumL_snoc]
  simp [fAt, h]
theorem ssum_step (g : Rat × Rat × Rat → Rat) {l : List (Rat × Rat × Rat)} {i : Nat} (h : i < l.length) : sumL g (l.take (i + 1)) = sumL g (l.take i) + g (sAt l i) := by
  rw [List.take_add_one, List.getElem?_eq_getElem h, Option.toList_some, sumL_snoc]
  simp [sAt, h]
theorem TF_of {P : Rat → Rat → Prop} : ∀ {l : List Fr}, (∀ f ∈ l, ∃ p z, f = (T p, T z) ∧ P p z) → ∃ m, l = TF m ∧ ∀ f ∈ m, P f.1 f.2
  | [], _ => ⟨[], rfl, fun f hf => by cases hf⟩
  | a :: r, h => by
    obtain ⟨p, z, e, hp⟩ := h a (by simp)
    obtain ⟨m, e2, h2⟩ := TF_of (l := r) fun f hf => h f (by simp [hf])
    refine ⟨(p, z) :: m, by rw [e, e2]; rfl, fun f hf => ?_⟩
    rcases List.mem_cons.1 hf with rfl | hf
    · exact hp
    · exact h2 f hf
theorem TS_of {P : Rat → Rat → Rat → Prop} : ∀ {l : List Sp}, (∀ f ∈ l, ∃ p q z, f = (T p, T q, T z) ∧ P p q z) → ∃ m, l = TS m ∧ ∀ f ∈ m, P f.1 f.2.1 f.2.2
  | [], _ => ⟨[], rfl, fun f hf => by cases hf⟩
  | a :: r, h => by
    obtain ⟨p, q, z, e, hp⟩ := h a (by simp)
    obtain ⟨m, e2, h2⟩ := TS_of (l := r) fun f hf => h f (by simp [hf])
    refine ⟨(p, q, z) :: m, by rw [e, e2]; rfl, fun f hf => ?_⟩
    rcases List.mem_cons.1 hf with rfl | hf
    · exact hp
    · exact h2 f hf
theorem frAt_take {l : List Fr} {k : Nat} (h : k < l.length) : l.take (k + 1) = l.take k ++ [frAt l k] := by
  rw [List.take_add_one, List.getElem?_eq_getElem h]
  simp [frAt, h]
theorem spAt_take {l : List Sp} {k : Nat} (h : k < l.length) : l.take (k + 1) = l.take k ++ [spAt l k] := by
  rw [List.take_add_one, List.getElem?_eq_getElem h]
  simp [spAt, h]
theorem frAt_mem {l : List Fr} {k : Nat} (h : k < l.length) : frAt l k ∈ l := by simp [frAt, h]
theorem spAt_mem {l : List Sp} {k : Nat} (h : k < l.length) : spAt l k ∈ l := by simp [spAt, h]
end Go.Proofs.YtpmnhipffkhcpaaGreatDoor
namespace Go.KI

def primes25 : List Nat := [2, 3, 5, 7, 11, 13, 17, 19, 23, 29, 31, 37, 41, 43, 47, 53, 59, 61, 67, 71, 73, 79, 83, 89, 97]
open Go
theorem cmpT_cases (x y : Rat) : (x < y ∧ cmpR x y = -1) ∨ (x = y ∧ cmpR x y = 0) ∨ (y < x ∧ cmpR x y = 1) := by
  unfold cmpR
  by_cases h : x < y
  · rw [if_pos h]; exact .inl ⟨h, rfl⟩
  · rw [if_neg h]
    by_cases h2 : y < x
    · rw [if_pos h2]; exact .inr (.inr ⟨h2, rfl⟩)
    · rw [if_neg h2]; exact .inr (.inl ⟨Rat.le_antisymm (Rat.not_lt.1 h2) (Rat.not_lt.1 h), rfl⟩)
theorem cmpT_lt {x y : Rat} (h : x < y) : cmpR x y = -1 := if_pos h
theorem cmpT_gt {x y : Rat} (h : y < x) : cmpR x y = 1 := by
  rcases cmpT_cases x y with ⟨h1, _⟩ | ⟨h1, _⟩ | ⟨_, h1⟩
  · exact absurd h (Rat.not_lt.2 (Rat.le_of_lt h1))
  · rw [h1] at h; exact absurd h Rat.lt_irrefl
  · exact h1
end Go.KI
namespace Go.Proofs.YtpmnhipffkhcpaaGreatDoor
open Go.RowKit Go.KP Go.KI Go.Shelf
attribute [local go_sem] Oper.semAt_some

theorem bAdd_T {x y : Rat} {p q : Nat} (sx : sz p x) (sy : sz q y) (h : p + q + 1 ≤ 300) (B : Nat) (w : World) (hB : B ≤ w.heap.size) (hT : PQ B w) :
    Calls Tryz.prog 217 #[.string (T x), .string (T y)] w (Ret w (.string (T (x + y)))) := by
  have HT := hide hT
  have HC := hide (fun w hB hT => qadd_to (T_list x) (T_list y) (sz_fits sx (by rw [most_eq]; omega)) (sz_fits sy (by rw [most_eq]; omega)) (addC_of sx sy (by rw [most_eq]; omega)) B w hB hT)
  rw [show strB (ratS (x + y)) = T (x + y) from rfl] at HC
  generalize T (x + y) = Z at *
  generalize T x = X at *
  generalize T y = Y at *
  clear sx sy h hT
  go_enter Tryz.func217, Tryz.ntmps217
  go_wp2_with fail
  refine (HC.out _ hB HT.out).mono ?_
  rintro e w1 ⟨rfl, hb1⟩
  have HB1 := hide hb1
  clear hb1
  go_wp2_with fail
  go_ret
  exact ⟨rfl, HB1.out⟩
theorem bSub_T {x y : Rat} {p q : Nat} (sx : sz p x) (sy : sz q y) (h : p + q + 1 ≤ 300) (B : Nat) (w : World) (hB : B ≤ w.heap.size) (hT : PQ B w) :
    Calls Tryz.prog 219 #[.string (T x), .string (T y)] w (Ret w (.string (T (x - y)))) := by
  have HT := hide hT
  have HC := hide (fun w hB hT => qsub_to (T_list x) (T_list y) (sz_fits sx (by rw [most_eq]; omega)) (sz_fits sy (by rw [most_eq]; omega)) (subC_of sx sy (by rw [most_eq]; omega)) B w hB hT)
  rw [show strB (ratS (x - y)) = T (x - y) from rfl] at HC
  generalize T (x - y) = Z at *
  generalize T x = X at *
  generalize T y = Y at *
  clear sx sy h hT
  go_enter Tryz.func219, Tryz.ntmps219
  go_wp2_with fail
  refine (HC.out _ hB HT.out).mono ?_
  rintro e w1 ⟨rfl, hb1⟩
  have HB1 := hide hb1
  clear hb1
  go_wp2_with fail
  go_ret
  exact ⟨rfl, HB1.out⟩
theorem bMul_T {x y : Rat} {p q : Nat} (sx : sz p x) (sy : sz q y) (h : p + q ≤ 300) (B : Nat) (w : World) (hB : B ≤ w.heap.size) (hT : PQ B w) :
    Calls Tryz.prog 218 #[.string (T x), .string (T y)] w (Ret w (.string (T (x * y)))) := by
  have HT := hide hT
  have HC := hide (fun w hB hT => qmul_to (T_list x) (T_list y) (sz_fits sx (by rw [most_eq]; omega)) (sz_fits sy (by rw [most_eq]; omega)) (mulC_of sx sy (by rw [most_eq]; omega)) B w hB hT)
  rw [show strB (ratS (x * y)) = T (x * y) from rfl] at HC
  generalize T (x * y) = Z at *
  generalize T x = X at *
  generalize T y = Y at *
  clear sx sy h hT
  go_enter Tryz.func218, Tryz.ntmps218
  go_wp2_with fail
  refine (HC.out _ hB HT.out).mono ?_
  rintro e w1 ⟨rfl, hb1⟩
  have HB1 := hide hb1
  clear hb1
  go_wp2_with fail
  go_ret
  exact ⟨rfl, HB1.out⟩
theorem bDiv_T {x y : Rat} {p q : Nat} (sx : sz p x) (sy : sz q y) (hy : y ≠ 0) (h : p + q ≤ 300) (B : Nat) (w : World) (hB : B ≤ w.heap.size) (hT : PQ B w) :
    Calls Tryz.prog 220 #[.string (T x), .string (T y)] w (Ret w (.string (T (x / y)))) := by
  have HT := hide hT
  have HC := hide (fun w hB hT => qdiv_to (T_list x) (T_list y) (sz_fits sx (by rw [most_eq]; omega)) (sz_fits sy (by rw [most_eq]; omega)) hy (cmpC_of sx sy (by rw [most_eq]; omega)) B w hB hT)
  rw [show strB (ratS (x / y)) = T (x / y) from rfl] at HC
  generalize T (x / y) = Z at *
  generalize T x = X at *
  generalize T y = Y at *
  clear sx sy h hT hy
  go_enter Tryz.func220, Tryz.ntmps220
  go_wp2_with fail
  refine (HC.out _ hB HT.out).mono ?_
  rintro e w1 ⟨rfl, hb1⟩
  have HB1 := hide hb1
  clear hb1
  go_wp2_with fail
  go_ret
  exact ⟨rfl, HB1.out⟩
theorem bCmp_T {x y : Rat} {p q : Nat} (sx : sz p x) (sy : sz q y) (h : p + q ≤ 300) (B : Nat) (w : World) (hB : B ≤ w.heap.size) (hT : PQ B w) :
    Calls Tryz.prog 214 #[.string (T x), .string (T y)] w (Ret w (.int .i64 (cmpR x y))) := by
  have HT := hide hT
  have HC := hide (fun w hB hT => qcmp_T (sz_fits sx (by rw [most_eq]; omega)) (sz_fits sy (by rw [most_eq]; omega)) (cmpC_of sx sy (by rw [most_eq]; omega)) B w hB hT)
  generalize cmpR x y = Z at *
  generalize T x = X at *
  generalize T y = Y at *
  clear sx sy h hT
  go_enter Tryz.func214, Tryz.ntmps214
  go_wp2_with fail
  refine (HC.out _ hB HT.out).mono ?_
  rintro e w1 ⟨rfl, hb1⟩
  have HB1 := hide hb1
  clear hb1
  go_wp2_with fail
  go_ret
  exact ⟨rfl, HB1.out⟩
end Go.Proofs.YtpmnhipffkhcpaaGreatDoor
namespace Go.KI
open Go
theorem ratS_head {q : Rat} : (ratS q).head? = some 45 ↔ q.num < 0 := by
  have h : ∀ z : Int, (Lib.itoa z).head? = some 45 ↔ z < 0 := fun z => by
    rcases itoa_cases z with ⟨h1, h⟩ | ⟨h1, h⟩ <;> rw [h]
    · exact ⟨fun _ => h1, fun _ => rfl⟩
    · exact ⟨fun e => absurd e (dec_head45 _), fun e => by omega⟩
  unfold ratS
  split
  · exact h _
  · rw [← h q.num]
    cases hz : Lib.itoa q.num with
    | nil => exact absurd hz (by
        rcases itoa_cases q.num with ⟨_, h⟩ | ⟨_, h⟩ <;> rw [h]
        · simp
        · exact decDigits_ne _)
    | cons c r => rfl
end Go.KI
namespace Go.Proofs.YtpmnhipffkhcpaaGreatDoor
open Go.RowKit Go.KP Go.KI Go.Shelf
attribute [local go_sem] Oper.semAt_some

open Go.RowKit Go.KP Go.KI Go.Shelf
attribute [local go_sem] Oper.semAt_some

def iB (z : Int) : ByteArray := strB (Lib.itoa z)
theorem iB_list (z : Int) : (iB z).data.toList = Lib.itoa z := strB_list _
theorem iB_size {z : Int} (h : fits z) : (iB z).size ≤ 301 := fits_size (iB_list z) h
theorem iB_head (z : Int) : ∃ h : 0 < (iB z).size, (((((iB z)[0]'h).toNat : Nat) : Int) == 45) = decide (z < 0) := by
  have hne : (iB z).data.toList ≠ [] := by
    rw [iB_list]
    rcases itoa_cases z with ⟨_, a⟩ | ⟨_, a⟩ <;> rw [a]
    · simp
    · exact decDigits_ne _
  obtain ⟨hp, hh⟩ := bytes_head hne
  refine ⟨hp, ?_⟩
  rw [iB_list] at hh
  have h2 := head_itoa z
  rw [hh] at h2
  by_cases h : z < 0
  · have h3 := h2.2 h
    injection h3 with h3
    rw [h3, decide_eq_true h]
    rfl
  · rw [decide_eq_false h]
    simp only [beq_eq_false_iff_ne, ne_eq]
    intro e
    refine h (h2.1 ?_)
    congr 1
    apply UInt8.toNat_inj.1
    have e2 : (45 : UInt8).toNat = 45 := rfl
    omega
theorem iB_both {x y : Int} (f1 : fits x) (f2 : fits y) : chkI (iB x).data.toList = 0 ∧ chkI (iB y).data.toList = 0 ∧ bothI (iB x).data.toList (iB y).data.toList = 0 ∧ (iB x).size ≤ 1000000 ∧ (iB y).size ≤ 1000000 ∧ valI (iB x).data.toList = x ∧ valI (iB y).data.toList = y := by
  have c1 : chkI (iB x).data.toList = 0 := by rw [iB_list]; exact chk_fits f1
  have c2 : chkI (iB y).data.toList = 0 := by rw [iB_list]; exact chk_fits f2
  have l1 := iB_size f1
  have l2 := iB_size f2
  exact ⟨c1, c2, by unfold bothI; rw [if_pos c1, c2], by omega, by omega, by rw [iB_list, val_itoa], by rw [iB_list, val_itoa]⟩
theorem resI_yes {z : Int} (h : fits z) : pairV (resS z) (resE z) = .tuple #[.string (iB z), .int .i64 0] := by
  unfold resS resE
  rw [if_pos h, if_pos h]
  rfl
theorem resI_no {z : Int} (h : ¬ fits z) : pairV (resS z) (resE z) = .tuple #[.string ⟨#[]⟩, .int .i64 4] := by
  unfold resS resE
  rw [if_neg h, if_neg h]
  rfl
end Go.Proofs.YtpmnhipffkhcpaaGreatDoor
namespace Go.KI
open Go
end Go.KI
namespace Go.Proofs.YtpmnhipffkhcpaaGreatDoor
open Go.RowKit Go.KP Go.KI Go.Shelf
attribute [local go_sem] Oper.semAt_some

def primeB (k : Nat) : ByteArray := strB (Lib.decDigits (primes25.getD k 0))
abbrev primesA : Array Value := #[.string (primeB 0), .string (primeB 1), .string (primeB 2), .string (primeB 3), .string (primeB 4), .string (primeB 5), .string (primeB 6), .string (primeB 7), .string (primeB 8), .string (primeB 9), .string (primeB 10), .string (primeB 11), .string (primeB 12), .string (primeB 13), .string (primeB 14), .string (primeB 15), .string (primeB 16), .string (primeB 17), .string (primeB 18), .string (primeB 19), .string (primeB 20), .string (primeB 21), .string (primeB 22), .string (primeB 23), .string (primeB 24)]
structure PR (B : Nat) (w : World) : Prop where
  pq : PQ B w
  lt : 1 < B
  pr : ∃ t fr, w.heap[1]? = some (.cells primesA t fr)
theorem PR.on {B n : Nat} {w w2 : World} (h : PR B w) (hb : Below n w w2) (hB : B ≤ n) : PR B w2 :=
  ⟨h.pq.on hb hB, h.lt, by
    obtain ⟨t, fr, hp⟩ := h.pr
    exact ⟨t, fr, (hb.block _ (Nat.lt_of_lt_of_le h.lt hB)).trans hp⟩⟩
theorem PR.mono {B B2 : Nat} {w : World} (h : PR B w) (hB : B ≤ B2) : PR B2 w := ⟨h.pq.mono hB, Nat.lt_of_lt_of_le h.lt hB, h.pr⟩
open Go.RowKit Go.KP Go.KI Go.Shelf
attribute [local go_sem] Oper.semAt_some

def NumsAt (w : World) (b : Nat) (l : List Rat) : Prop := b < w.heap.size ∧ ∀ (i : Nat) q, l[i]? = some q → w.cell? ⟨b, i, none⟩ = some (.string (T q))
theorem NumsAt.below {w w2 : World} {b : Nat} {l : List Rat} {n : Nat} (h : NumsAt w b l) (hb : Below n w w2) (hn : b < n) : NumsAt w2 b l :=
  ⟨Nat.lt_of_lt_of_le h.1 hb.size, fun i q hq => by rw [← h.2 i q hq]; exact hb.cell (p := ⟨b, i, none⟩) hn⟩
open Go.RowKit Go.KP Go.KI Go.Shelf
attribute [local go_sem] Oper.semAt_some

theorem iB_T (z : Int) : iB z = T (z : Rat) := by
  apply bytes_eq
  rw [iB_list, T_list, ratS_int]
theorem fitsQ_int {z : Int} (h : fits z) : fitsQ (z : Rat) := ⟨h, fits_one⟩
open Go.RowKit Go.KP Go.KI Go.Shelf
attribute [local go_sem] Oper.semAt_some

theorem iB_lit (n : Nat) (l : List UInt8) (h : Lib.decDigits n = l) : iB (n : Int) = strB l := by
  unfold iB
  rw [Lib.itoa_nonneg, h]
theorem lit1 : iB ((1 : Nat) : Int) = ⟨#[49]⟩ := iB_lit 1 [49] (by decide +kernel)
theorem lit2 : iB ((2 : Nat) : Int) = ⟨#[50]⟩ := iB_lit 2 [50] (by decide +kernel)
end Go.Proofs.YtpmnhipffkhcpaaGreatDoor
namespace Go.KP
open Go Go.RowKit

structure QuietO (O : Nat → Prop) (B : Nat) (S : Nat → Prop) (W W2 : World) : Prop where
  os : W2.os = W.os
  tape : W2.tape = W.tape
  output : W2.output = W.output
  size : W.heap.size ≤ W2.heap.size
  block : ∀ b, ¬ O b → (b < B ∨ S b) → b < W.heap.size → W2.heap[b]? = W.heap[b]?
theorem QuietO.refl (O : Nat → Prop) (B : Nat) (S : Nat → Prop) (W : World) : QuietO O B S W W := ⟨rfl, rfl, rfl, Nat.le_refl _, fun _ _ _ _ => rfl⟩
theorem QuietO.trans {O : Nat → Prop} {B : Nat} {S : Nat → Prop} {a b c : World} (h : QuietO O B S a b) (k : QuietO O B S b c) : QuietO O B S a c :=
  ⟨k.os.trans h.os, k.tape.trans h.tape, k.output.trans h.output, Nat.le_trans h.size k.size, fun i hn hi hl => (k.block i hn hi (Nat.lt_of_lt_of_le hl h.size)).trans (h.block i hn hi hl)⟩
theorem QuietO.of_below {O : Nat → Prop} {B n : Nat} {S : Nat → Prop} {a w w2 : World} (h : QuietO O B S a w) (hb : Below n w w2) (hn : w.heap.size ≤ n) : QuietO O B S a w2 :=
  h.trans ⟨hb.os, hb.tape, hb.output, hb.size, fun b _ _ hl => hb.block b (by omega)⟩
theorem QuietO.set {O : Nat → Prop} {B : Nat} {S : Nat → Prop} {a w : World} (h : QuietO O B S a w) {p : Addr} (hp : O p.block) (u : Value) : QuietO O B S a (w.setCell p u) :=
  h.trans ⟨rfl, rfl, rfl, by simp [World.setCell], fun b hn _ _ => Below.heap_setCell _ _ _ _ (fun e => hn (by rw [e]; exact hp))⟩
variable {P : Program}

end Go.KP
namespace Go.KI
open Go
end Go.KI
namespace Go.Proofs.YtpmnhipffkhcpaaGreatDoor
open Go.RowKit Go.KP Go.KI Go.Shelf
attribute [local go_sem] Oper.semAt_some

instance ofBelow (n : Nat) (w : World) : Nonempty (Of (Below n w)) := ⟨⟨w, Below.refl n w⟩⟩
end Go.Proofs.YtpmnhipffkhcpaaGreatDoor
namespace Go.KI
open Go
def okS (s : ByteArray) : Prop := s.size ≤ 20 ∧ chkQ s.data.toList = 0
instance (s : ByteArray) : Decidable (okS s) := inferInstanceAs (Decidable (_ ∧ _))
def okT : Rat → List Rat → Prop
  | _, [] => True
  | x, a :: l => fitsQ a ∧ mulC x a ∧ okT (x * a) l
def prodL (x : Rat) (l : List Rat) : Rat := l.foldl (· * ·) x
end Go.KI
namespace Go.Proofs.YtpmnhipffkhcpaaGreatDoor
open Go.RowKit Go.KP Go.KI Go.Shelf
attribute [local go_sem] Oper.semAt_some

def StrsAt (w : World) (b : Nat) (l : List ByteArray) : Prop := b < w.heap.size ∧ ∀ (i : Nat) s, l[i]? = some s → w.cell? ⟨b, i, none⟩ = some (.string s)
theorem StrsAt.below {w w2 : World} {b : Nat} {l : List ByteArray} {n : Nat} (h : StrsAt w b l) (hb : Below n w w2) (hn : b < n) : StrsAt w2 b l :=
  ⟨Nat.lt_of_lt_of_le h.1 hb.size, fun i q hq => by rw [← h.2 i q hq]; exact hb.cell (p := ⟨b, i, none⟩) hn⟩
theorem strs2 {w : World} {b : Nat} {p q : ByteArray} (h : w.heap[b]? = some (.cells #[.string p, .string q] 22 (0, 0))) : StrsAt w b [p, q] := by
  refine ⟨lt_blk h, fun i x hx => ?_⟩
  match i with
  | 0 => simp at hx; rw [← hx]; exact cell_blk h 0
  | 1 => simp at hx; rw [← hx]; exact cell_blk h 1
  | i + 2 => simp at hx
theorem strs3 {w : World} {b : Nat} {p q r : ByteArray} (h : w.heap[b]? = some (.cells #[.string p, .string q, .string r] 22 (0, 0))) : StrsAt w b [p, q, r] := by
  refine ⟨lt_blk h, fun i x hx => ?_⟩
  match i with
  | 0 => simp at hx; rw [← hx]; exact cell_blk h 0
  | 1 => simp at hx; rw [← hx]; exact cell_blk h 1
  | 2 => simp at hx; rw [← hx]; exact cell_blk h 2
  | i + 3 => simp at hx
theorem nums3 {w : World} {b : Nat} {p q r : Rat} (h : w.heap[b]? = some (.cells #[.string (T p), .string (T q), .string (T r)] 22 (0, 0))) : NumsAt w b [p, q, r] := by
  refine ⟨lt_blk h, fun i x hx => ?_⟩
  match i with
  | 0 => simp at hx; rw [← hx]; exact cell_blk h 0
  | 1 => simp at hx; rw [← hx]; exact cell_blk h 1
  | 2 => simp at hx; rw [← hx]; exact cell_blk h 2
  | i + 3 => simp at hx
theorem T1 : T 1 = ⟨#[49]⟩ := by
  rw [show T 1 = iB ((1 : Nat) : Int) from (iB_T _).symm]
  exact lit1
theorem fitsQ_one : fitsQ (1 : Rat) := sz_fits (p := 1) ⟨by decide, by decide⟩ (by rw [most_eq]; omega)
theorem okT_drop {x a : Rat} {l : List Rat} {k : Nat} (hs : l[k]? = some a) (h : okT (prodL x (l.take k)) (l.drop k)) : fitsQ a ∧ mulC (prodL x (l.take k)) a ∧ prodL x (l.take (k + 1)) = prodL x (l.take k) * a ∧ okT (prodL x (l.take (k + 1))) (l.drop (k + 1)) := by
  have hk : k < l.length := (List.getElem?_eq_some_iff.1 hs).1
  have e : l.drop k = a :: l.drop (k + 1) := by
    rw [List.drop_eq_getElem_cons hk]
    congr 1
    exact (List.getElem?_eq_some_iff.1 hs).2
  rw [e] at h
  have e2 : prodL x (l.take (k + 1)) = prodL x (l.take k) * a := by
    unfold prodL
    rw [List.take_add_one, hs, List.foldl_append]
    rfl
  exact ⟨h.1, h.2.1, e2, by rw [e2]; exact h.2.2⟩
theorem okT_of : ∀ (l : List (Rat × Nat)) (x : Rat) (p : Nat), sz p x → (∀ y ∈ l, sz y.2 y.1) → p + (l.map (·.2)).sum ≤ 300 → okT x (l.map (·.1)) ∧ sz (p + (l.map (·.2)).sum) (prodL x (l.map (·.1))) := by
  intro l
  induction l with
  | nil => intro x p h _ _; exact ⟨trivial, by simpa [prodL] using h⟩
  | cons y l ih =>
    intro x p h hl hs
    have hy := hl y (by simp)
    simp only [List.map_cons, List.sum_cons] at hs ⊢
    obtain ⟨i1, i2⟩ := ih (x * y.1) (p + y.2) (sz_mul h hy) (fun z hz => hl z (by simp [hz])) (by omega)
    refine ⟨⟨sz_fits hy (by rw [most_eq]; omega), mulC_of h hy (by rw [most_eq]; omega), i1⟩, ?_⟩
    rw [show p + (y.2 + (l.map (·.2)).sum) = p + y.2 + (l.map (·.2)).sum by omega]
    exact i2
theorem sz_one : sz 1 (1 : Rat) := ⟨by decide, by decide⟩
theorem okT2 {a b : Rat} {p q : Nat} (ha : sz p a) (hb : sz q b) (h : p + q ≤ 299) : okT 1 [a, b] ∧ prodL 1 [a, b] = a * b ∧ sz (1 + (p + q)) (a * b) := by
  have e : prodL 1 [a, b] = a * b := by show 1 * a * b = a * b; rw [Rat.one_mul]
  have k := okT_of [(a, p), (b, q)] 1 1 sz_one (fun y hy => by simp at hy; rcases hy with rfl | rfl; exact ha; exact hb) (by simp; omega)
  have h2 := k.2
  simp only [List.map_cons, List.map_nil, List.sum_cons, List.sum_nil, Nat.add_zero] at h2
  rw [e] at h2
  exact ⟨k.1, e, h2⟩
theorem okT3 {a b c : Rat} {p q r : Nat} (ha : sz p a) (hb : sz q b) (hc : sz r c) (h : p + q + r ≤ 299) : okT 1 [a, b, c] ∧ prodL 1 [a, b, c] = a * b * c ∧ sz (1 + (p + (q + r))) (a * b * c) := by
  have e : prodL 1 [a, b, c] = a * b * c := by show 1 * a * b * c = a * b * c; rw [Rat.one_mul]
  have k := okT_of [(a, p), (b, q), (c, r)] 1 1 sz_one (fun y hy => by simp at hy; rcases hy with rfl | rfl | rfl; exact ha; exact hb; exact hc) (by simp; omega)
  have h2 := k.2
  simp only [List.map_cons, List.map_nil, List.sum_cons, List.sum_nil, Nat.add_zero] at h2
  rw [e] at h2
  exact ⟨k.1, e, h2⟩
end Go.Proofs.YtpmnhipffkhcpaaGreatDoor
namespace Go.KI
open Go
theorem smallB_lens {q : Rat} (h : smallB q) : (Lib.decDigits q.num.natAbs).length ≤ 12 ∧ (Lib.decDigits q.den).length ≤ 2 :=
  ⟨(dec_len_le (by omega)).2 h.1, (dec_len_le (by omega)).2 (Nat.lt_of_le_of_lt h.2 (by decide))⟩
theorem smallB_sz {q : Rat} (h : smallB q) : sz 12 q := ⟨h.1, Nat.lt_of_le_of_lt h.2 (by decide)⟩
theorem smallB_fits {q : Rat} (h : smallB q) : fitsQ q := sz_fits (smallB_sz h) (by rw [most_eq]; omega)
end Go.KI
namespace Go.Proofs.YtpmnhipffkhcpaaGreatDoor
open Go.RowKit Go.KP Go.KI Go.Shelf
attribute [local go_sem] Oper.semAt_some

theorem iB_lenN (n : Nat) : (iB (n : Int)).size = (Lib.decDigits n).length := by
  rw [← bytes_len, iB_list, Lib.itoa_nonneg]
theorem bdigits_I {z : Int} (w : World) : Calls Tryz.prog 226 #[.string (iB z)] w (fun e w' => e = .returned (.int .i64 ((Lib.decDigits z.natAbs).length : Nat)) ∧ w' = w) := by
  have H1 := hide (fun w => trimPrefix_any (iB z) w)
  have hs : (strB (digs (iB z).data.toList)).size = (Lib.decDigits z.natAbs).length := by rw [strB_size, iB_list, digs_itoa]
  generalize strB (digs (iB z).data.toList) = O at *
  generalize iB z = X at *
  generalize (Lib.decDigits z.natAbs).length = L at *
  subst hs
  go_enter Tryz.func226, Tryz.ntmps226
  go_wp2_with fail
  refine (H1.out _).mono ?_
  rintro e w2 ⟨rfl, rfl⟩
  go_wp2_with fail
  go_ret
  exact ⟨rfl, rfl⟩
theorem gt10 (w : World) : (binOp .gtr 9 (.string ⟨#[49, 48]⟩) (.string ⟨#[49, 50]⟩)).run Tryz.prog w = .ok (.bool false) w := by kernel_rfl
theorem gt11 (w : World) : (binOp .gtr 9 (.string ⟨#[49, 49]⟩) (.string ⟨#[49, 50]⟩)).run Tryz.prog w = .ok (.bool false) w := by kernel_rfl
theorem gt12 (w : World) : (binOp .gtr 9 (.string ⟨#[49, 50]⟩) (.string ⟨#[49, 50]⟩)).run Tryz.prog w = .ok (.bool false) w := by kernel_rfl
theorem den_cases {q : Rat} (h : smallB q) : ((iB (q.den : Int)).size ≠ 2) ∨ iB (q.den : Int) = ⟨#[49, 48]⟩ ∨ iB (q.den : Int) = ⟨#[49, 49]⟩ ∨ iB (q.den : Int) = ⟨#[49, 50]⟩ := by
  have h1 := h.2
  by_cases h2 : q.den < 10
  · left
    rw [iB_lenN]
    have := (dec_len_le (n := 1) (u := q.den) (by omega)).2 (by omega)
    omega
  · right
    have : q.den = 10 ∨ q.den = 11 ∨ q.den = 12 := by omega
    rcases this with e | e | e <;> rw [e]
    · exact .inl (iB_lit 10 [49, 48] (by decide +kernel))
    · exact .inr (.inl (iB_lit 11 [49, 49] (by decide +kernel)))
    · exact .inr (.inr (iB_lit 12 [49, 50] (by decide +kernel)))
theorem bnumber_ok {q : Rat} (h : smallB q) (B : Nat) (w : World) (hB : B ≤ w.heap.size) (hT : PQ B w) :
    Calls Tryz.prog 328 #[.string (T q)] w (Ret w (.int .i64 0)) := by
  have HT := hide hT
  have hf := smallB_fits h
  have HC := hide (fun w hB hT => qchk_T hf B w hB hT)
  have HP := hide (fun w hB hT => qParts_any (T q) (T_good hf).1 B w hB hT)
  rw [show partsR (T q).data.toList = .tuple #[.string (iB q.num), .string (iB (q.den : Int)), .int .i64 0] by unfold partsR; rw [if_pos (T_good hf).2.1, (T_good hf).2.2]; rfl] at HP
  have HD1 := hide (fun w => bdigits_I (z := q.num) w)
  have HD2 := hide (fun w => bdigits_I (z := (q.den : Int)) w)
  rw [Int.natAbs_natCast] at HD2
  obtain ⟨h1, h2⟩ := smallB_lens h
  have hd := den_cases h
  generalize (Lib.decDigits q.num.natAbs).length = a at *
  generalize (Lib.decDigits q.den).length = d at *
  generalize iB q.num = N at *
  generalize iB (q.den : Int) = D at *
  generalize T q = X at *
  have g1 : ((12 : Int) < (a : Int)) = False := eq_false (by omega)
  have g2 : ((2 : Int) < (d : Int)) = False := eq_false (by omega)
  clear h hf hT h1 h2
  rcases hd with hd | rfl | rfl | rfl
  · have g3 : ((D.size : Int) = 2) = False := eq_false (by omega)
    clear hd
    go_enter Tryz.func328, Tryz.ntmps328
    go_wp2_with fail
    refine (HC.out _ hB HT.out).mono ?_
    rintro e w1 ⟨rfl, hb1⟩
    have HB1 := hide hb1
    clear hb1
    go_wp2_with fail
    refine (HP.out _ (Nat.le_trans hB HB1.out.size) (HT.out.on HB1.out hB)).mono ?_
    rintro e w2 ⟨rfl, hb2⟩
    have HB2 := hide (Below.trans (HB1.out) (hb2.mono (HB1.out).size))
    clear hb2
    go_wp2_with fail
    refine (HD1.out _).mono ?_
    rintro e w0 ⟨rfl, rfl⟩
    go_wp2_with fail
    refine (HD2.out _).mono ?_
    rintro e w0 ⟨rfl, rfl⟩
    go_wp2_with fail
    go_ret
    exact ⟨rfl, HB2.out⟩
  · have hgt := gt10
    go_enter Tryz.func328, Tryz.ntmps328
    go_wp2_with fail
    refine (HC.out _ hB HT.out).mono ?_
    rintro e w1 ⟨rfl, hb1⟩
    have HB1 := hide hb1
    clear hb1
    go_wp2_with fail
    refine (HP.out _ (Nat.le_trans hB HB1.out.size) (HT.out.on HB1.out hB)).mono ?_
    rintro e w2 ⟨rfl, hb2⟩
    have HB2 := hide (Below.trans (HB1.out) (hb2.mono (HB1.out).size))
    clear hb2
    go_wp2_with fail
    refine (HD1.out _).mono ?_
    rintro e w0 ⟨rfl, rfl⟩
    go_wp2_with fail
    refine (HD2.out _).mono ?_
    rintro e w0 ⟨rfl, rfl⟩
    go_wp2_with fail
    go_ret
    exact ⟨rfl, HB2.out⟩
  · have hgt := gt11
    go_enter Tryz.func328, Tryz.ntmps328
    go_wp2_with fail
    refine (HC.out _ hB HT.out).mono ?_
    rintro e w1 ⟨rfl, hb1⟩
    have HB1 := hide hb1
    clear hb1
    go_wp2_with fail
    refine (HP.out _ (Nat.le_trans hB HB1.out.size) (HT.out.on HB1.out hB)).mono ?_
    rintro e w2 ⟨rfl, hb2⟩
    have HB2 := hide (Below.trans (HB1.out) (hb2.mono (HB1.out).size))
    clear hb2
    go_wp2_with fail
    refine (HD1.out _).mono ?_
    rintro e w0 ⟨rfl, rfl⟩
    go_wp2_with fail
    refine (HD2.out _).mono ?_
    rintro e w0 ⟨rfl, rfl⟩
    go_wp2_with fail
    go_ret
    exact ⟨rfl, HB2.out⟩
  · have hgt := gt12
    go_enter Tryz.func328, Tryz.ntmps328
    go_wp2_with fail
    refine (HC.out _ hB HT.out).mono ?_
    rintro e w1 ⟨rfl, hb1⟩
    have HB1 := hide hb1
    clear hb1
    go_wp2_with fail
    refine (HP.out _ (Nat.le_trans hB HB1.out.size) (HT.out.on HB1.out hB)).mono ?_
    rintro e w2 ⟨rfl, hb2⟩
    have HB2 := hide (Below.trans (HB1.out) (hb2.mono (HB1.out).size))
    clear hb2
    go_wp2_with fail
    refine (HD1.out _).mono ?_
    rintro e w0 ⟨rfl, rfl⟩
    go_wp2_with fail
    refine (HD2.out _).mono ?_
    rintro e w0 ⟨rfl, rfl⟩
    go_wp2_with fail
    go_ret
    exact ⟨rfl, HB2.out⟩
theorem bnumbers_ok (b : Nat) (l : List Rat) (hl : l.length ≤ 1000) (hs : ∀ q ∈ l, smallB q) (B : Nat) (w : World) (hc : NumsAt w b l) (hB : B ≤ w.heap.size) (hT : PQ B w) :
    Calls Tryz.prog 212 #[.slice (some ⟨b, 0, none⟩) l.length l.length] w (Ret w (.int .i64 0)) := by
  have HT := hide hT
  have HC := hide hc
  obtain ⟨n, hn⟩ : ∃ n, n = l.length := ⟨_, rfl⟩
  rw [← hn] at hl ⊢
  have HN := hide hn
  have HS := hide hs
  clear hc hn hT hs
  go_enter Tryz.func212, Tryz.ntmps212
  go_wp2_with fail
  go_loopw [8] (fun i wr => ∃ k : Nat, k ≤ n ∧ i = .int .i64 k ∧ Hid (Below w.heap.size w wr)) (fun i _ => n - (intOf i).toNat)
  case atStart => exact ⟨0, Nat.zero_le _, rfl, Below.refl _ _⟩
  case round =>
    obtain ⟨k, hk, rfl, hin⟩ := hrel
    obtain ⟨wo, hwo⟩ : ∃ wo, wo = wr := ⟨_, rfl⟩
    subst hwo
    by_cases hlt : k < n
    · have hki : (k : Int) < (n : Int) := by omega
      have hk0 : (0 : Int) ≤ (k : Int) := by omega
      obtain ⟨a, hs⟩ : ∃ s, l[k]? = some s := ⟨_, List.getElem?_eq_getElem (by rw [← HN.out]; exact hlt)⟩
      have hcell := (HC.out.below hin.out HC.out.1).2 k a hs
      have H1 := hide (bnumber_ok (HS.out a (List.mem_of_getElem? hs)) B wo (Nat.le_trans hB hin.out.size) (HT.out.on hin.out hB))
      generalize T a = X at H1 hcell
      clear hs hlt
      go_wp2_with fail
      refine H1.out.mono ?_
      rintro e w1 ⟨rfl, hb1⟩
      have HB1 := hide (hin.out.trans (hb1.mono hin.out.size))
      clear hb1 hin
      go_wp2_with fail
      go_roundw
      case rel => exact ⟨k + 1, by omega, by simp, HB1.out⟩
      case measure => simp [intOf]; omega
    · obtain rfl : k = n := by omega
      have hki : ((k : Int) < (k : Int)) = False := eq_false (by omega)
      clear hlt
      go_wp2_with fail
      go_ret
      exact ⟨rfl, hin.out⟩
theorem cmp_nlt {x y : Rat} (h : x ≤ y) : (0 < cmpR x y) = False := eq_false fun g => by
  rcases cmpT_cases x y with ⟨_, h2⟩ | ⟨_, h2⟩ | ⟨h1, _⟩
  · rw [h2] at g; omega
  · rw [h2] at g; omega
  · exact absurd h1 (Rat.not_lt.2 h)
theorem cmp_nle {x y : Rat} (h : x < y) : (0 ≤ cmpR x y) = False := eq_false (by rw [cmpT_lt h]; decide)
theorem cmp_nneg {x y : Rat} (h : y ≤ x) : (cmpR x y < 0) = False := eq_false fun g => by
  rcases cmpT_cases x y with ⟨h1, _⟩ | ⟨_, h2⟩ | ⟨_, h2⟩
  · exact absurd h1 (Rat.not_lt.2 h)
  · rw [h2] at g; omega
  · rw [h2] at g; omega
theorem cmp_npos {x y : Rat} (h : y < x) : (cmpR x y ≤ 0) = False := eq_false (by rw [cmpT_gt h]; decide)
theorem cmp_lt0 {x y : Rat} (h : x < y) : cmpR x y < 0 := by rw [cmpT_lt h]; decide
theorem cmp_le0 {x y : Rat} (h : x ≤ y) : cmpR x y ≤ 0 := Int.not_lt.1 fun g => (cmp_nlt h ▸ g : False)
theorem cmp_gt0 {x y : Rat} (h : y < x) : 0 < cmpR x y := by rw [cmpT_gt h]; decide
theorem sz_zero1 : sz 1 (0 : Rat) := ⟨by decide, by decide⟩
theorem boutside_in {L a : Rat} {p q : Nat} (sL : sz p L) (sA : sz q a) (h : p + q + 1 ≤ 300) (h0 : 0 ≤ a) (h1 : a ≤ L) (l r : ByteArray) (fa : Option Addr) (fn fc : Nat) (sa : Option Addr) (sn sc : Nat) (B : Nat) (w : World) (hB : B ≤ w.heap.size) (hT : PQ B w) :
    Calls Tryz.prog 213 #[beamV (T L) l r fa fn fc sa sn sc, .string (T a)] w (Ret w (.bool false)) := by
  have HT := hide hT
  have X0 := hide (heap1 w (beamO (T L) l r fa fn fc sa sn sc))
  have H1 := hide (fun w hB hT => bCmp_T sA sz_zero1 (by omega) B w hB hT)
  have H2 := hide (fun w hB hT => bCmp_T sA sL (by omega) B w hB hT)
  rw [T0] at H1
  have g1 := cmp_nneg h0
  have g2 := cmp_nlt h1
  generalize cmpR a 0 = c1 at *
  generalize cmpR a L = c2 at *
  generalize T L = TL at *
  generalize T a = TA at *
  clear hT sL sA h h0 h1
  go_enter Tryz.func213, Tryz.ntmps213
  go_wp2_with fail
  refine (H1.out _ (Nat.le_trans hB X0.out.2.2.size) (HT.out.on X0.out.2.2 hB)).mono ?_
  rintro e w1 ⟨rfl, hb1⟩
  have G0 := hide (below_blk hb1 (X0.out.1) (lt_blk (X0.out.1)))
  have HB1 := hide (Below.trans (X0.out.2.2) (hb1.mono (X0.out.2.2).size))
  clear hb1
  have q0_0 := cell_blk G0.out 0
  have q0_l := lt_blk G0.out
  go_wp2_with fail
  refine (H2.out _ (Nat.le_trans hB HB1.out.size) (HT.out.on HB1.out hB)).mono ?_
  rintro e w2 ⟨rfl, hb2⟩
  clear q0_0 q0_l
  have G0 := hide (below_blk hb2 G0.out (lt_blk G0.out))
  have HB2 := hide (Below.trans (HB1.out) (hb2.mono (HB1.out).size))
  clear hb2
  have q0_0 := cell_blk G0.out 0
  have q0_l := lt_blk G0.out
  go_wp2_with fail
  go_ret
  exact ⟨rfl, HB2.out⟩
theorem bframe_ok {L l r : Rat} (sL : smallB L) (sl : smallB l) (sr : smallB r) (h0 : 0 < L) (l0 : 0 ≤ l) (l1 : l ≤ L) (r0 : 0 ≤ r) (r1 : r ≤ L) (lr : l < r) (fa : Option Addr) (fn fc : Nat) (sa : Option Addr) (sn sc : Nat) (B : Nat) (w : World) (hB : B ≤ w.heap.size) (hT : PQ B w) :
    Calls Tryz.prog 211 #[beamV (T L) (T l) (T r) fa fn fc sa sn sc] w (Ret w (.int .i64 0)) := by
  have HT := hide hT
  have X0 := hide (heap2 w (beamO (T L) (T l) (T r) fa fn fc sa sn sc) (.cells #[.string (T L), .string (T l), .string (T r)] 22))
  have H1 := hide (bnumbers_ok (w.heap.size + 1) [L, l, r] (by simp) (fun q hq => by simp at hq; rcases hq with rfl | rfl | rfl; exact sL; exact sl; exact sr) B _ (nums3 X0.out.2.1) (Nat.le_trans hB X0.out.2.2.2.size) (hT.on X0.out.2.2.2 hB))
  have H2 := hide (fun w hB hT => bCmp_T (smallB_sz sL) sz_zero1 (by omega) B w hB hT)
  rw [T0] at H2
  have g2 : (cmpR L 0 ≤ 0) = False := cmp_npos h0
  have H3 := hide (fun w hB hT => boutside_in (smallB_sz sL) (smallB_sz sl) (by omega) l0 l1 (T l) (T r) fa fn fc sa sn sc B w hB hT)
  have H4 := hide (fun w hB hT => boutside_in (smallB_sz sL) (smallB_sz sr) (by omega) r0 r1 (T l) (T r) fa fn fc sa sn sc B w hB hT)
  have H5 := hide (fun w hB hT => bCmp_T (smallB_sz sl) (smallB_sz sr) (by omega) B w hB hT)
  have g5 := cmp_nle lr
  generalize cmpR L 0 = c1 at *
  generalize cmpR l r = c2 at *
  generalize T L = TL at *
  generalize T l = Tl at *
  generalize T r = Tr at *
  clear hT sL sl sr h0 l0 l1 r0 r1 lr
  go_enter Tryz.func211, Tryz.ntmps211
  go_wp2_with fail
  refine H1.out.mono ?_
  rintro e w1 ⟨rfl, hb1⟩
  have G0 := hide (below_blk hb1 (X0.out.1) (lt_blk (X0.out.1)))
  have HB1 := hide (Below.trans (X0.out.2.2.2) (hb1.mono (X0.out.2.2.2).size))
  clear hb1
  have q0_0 := cell_blk G0.out 0
  have q0_1 := cell_blk G0.out 1
  have q0_2 := cell_blk G0.out 2
  have q0_3 := cell_blk G0.out 3
  have q0_4 := cell_blk G0.out 4
  have q0_l := lt_blk G0.out
  go_wp2_with fail
  refine (H2.out _ (Nat.le_trans hB HB1.out.size) (HT.out.on HB1.out hB)).mono ?_
  rintro e w2 ⟨rfl, hb2⟩
  clear q0_0 q0_1 q0_2 q0_3 q0_4 q0_l
  have G0 := hide (below_blk hb2 G0.out (lt_blk G0.out))
  have HB2 := hide (Below.trans (HB1.out) (hb2.mono (HB1.out).size))
  clear hb2
  have q0_0 := cell_blk G0.out 0
  have q0_1 := cell_blk G0.out 1
  have q0_2 := cell_blk G0.out 2
  have q0_3 := cell_blk G0.out 3
  have q0_4 := cell_blk G0.out 4
  have q0_l := lt_blk G0.out
  go_wp2_with fail
  refine (H3.out _ (Nat.le_trans hB HB2.out.size) (HT.out.on HB2.out hB)).mono ?_
  rintro e w3 ⟨rfl, hb3⟩
  clear q0_0 q0_1 q0_2 q0_3 q0_4 q0_l
  have G0 := hide (below_blk hb3 G0.out (lt_blk G0.out))
  have HB3 := hide (Below.trans (HB2.out) (hb3.mono (HB2.out).size))
  clear hb3
  have q0_0 := cell_blk G0.out 0
  have q0_1 := cell_blk G0.out 1
  have q0_2 := cell_blk G0.out 2
  have q0_3 := cell_blk G0.out 3
  have q0_4 := cell_blk G0.out 4
  have q0_l := lt_blk G0.out
  go_wp2_with fail
  refine (H4.out _ (Nat.le_trans hB HB3.out.size) (HT.out.on HB3.out hB)).mono ?_
  rintro e w4 ⟨rfl, hb4⟩
  clear q0_0 q0_1 q0_2 q0_3 q0_4 q0_l
  have G0 := hide (below_blk hb4 G0.out (lt_blk G0.out))
  have HB4 := hide (Below.trans (HB3.out) (hb4.mono (HB3.out).size))
  clear hb4
  have q0_0 := cell_blk G0.out 0
  have q0_1 := cell_blk G0.out 1
  have q0_2 := cell_blk G0.out 2
  have q0_3 := cell_blk G0.out 3
  have q0_4 := cell_blk G0.out 4
  have q0_l := lt_blk G0.out
  go_wp2_with fail
  refine (H5.out _ (Nat.le_trans hB HB4.out.size) (HT.out.on HB4.out hB)).mono ?_
  rintro e w5 ⟨rfl, hb5⟩
  clear q0_0 q0_1 q0_2 q0_3 q0_4 q0_l
  have G0 := hide (below_blk hb5 G0.out (lt_blk G0.out))
  have HB5 := hide (Below.trans (HB4.out) (hb5.mono (HB4.out).size))
  clear hb5
  have q0_0 := cell_blk G0.out 0
  have q0_1 := cell_blk G0.out 1
  have q0_2 := cell_blk G0.out 2
  have q0_3 := cell_blk G0.out 3
  have q0_4 := cell_blk G0.out 4
  have q0_l := lt_blk G0.out
  go_wp2_with fail
  go_ret
  exact ⟨rfl, HB5.out⟩
structure BeamAt (B : Nat) (w : World) (fa sa : Option Addr) (b : Bm) : Prop where
  F : FrRow B w fa (TF b.F)
  S : SpRow B w sa (TS b.S)
theorem BeamAt.cells {B : Nat} {w w2 : World} {fa sa : Option Addr} {b : Bm} (h : BeamAt B w fa sa b) (hc : ∀ k o, k < B → w2.cell? ⟨k, o, none⟩ = w.cell? ⟨k, o, none⟩) : BeamAt B w2 fa sa b := ⟨h.F.cells hc, h.S.cells hc⟩
theorem BeamAt.below {B n : Nat} {w w2 : World} {fa sa : Option Addr} {b : Bm} (h : BeamAt B w fa sa b) (hb : Below n w w2) (hn : B ≤ n) : BeamAt B w2 fa sa b := h.cells fun k o hk => hb.cell (p := ⟨k, o, none⟩) (show k < n by omega)
theorem BeamAt.mono {B B2 : Nat} {w : World} {fa sa : Option Addr} {b : Bm} (h : BeamAt B w fa sa b) (hB : B ≤ B2) : BeamAt B2 w fa sa b := ⟨h.F.mono hB, h.S.mono hB⟩
theorem BeamAt.force {B : Nat} {w : World} {fa sa : Option Addr} {b : Bm} (h : BeamAt B w fa sa b) {i : Nat} (hi : i < b.F.length) : ∃ k o, fa = some ⟨k, o, none⟩ ∧ k < B ∧ w.cell? ⟨k, o + i * 2, none⟩ = some (.string (T (fAt b.F i).1)) ∧ w.cell? ⟨k, o + i * 2 + 1, none⟩ = some (.string (T (fAt b.F i).2)) := by
  have := h.F i (by rw [TF_len]; exact hi)
  rwa [TF_at hi] at this
theorem BeamAt.spread {B : Nat} {w : World} {fa sa : Option Addr} {b : Bm} (h : BeamAt B w fa sa b) {i : Nat} (hi : i < b.S.length) : ∃ k o, sa = some ⟨k, o, none⟩ ∧ k < B ∧ w.cell? ⟨k, o + i * 3, none⟩ = some (.string (T (sAt b.S i).1)) ∧ w.cell? ⟨k, o + i * 3 + 1, none⟩ = some (.string (T (sAt b.S i).2.1)) ∧ w.cell? ⟨k, o + i * 3 + 2, none⟩ = some (.string (T (sAt b.S i).2.2)) := by
  have := h.S i (by rw [TS_len]; exact hi)
  rwa [TS_at hi] at this
abbrev bmV (b : Bm) (fa : Option Addr) (fc : Nat) (sa : Option Addr) (sc : Nat) : Value := beamV (T b.len) (T b.lft) (T b.rgt) fa b.F.length fc sa b.S.length sc
abbrev bmO (b : Bm) (fa : Option Addr) (fc : Nat) (sa : Option Addr) (sc : Nat) : Obj := beamO (T b.len) (T b.lft) (T b.rgt) fa b.F.length fc sa b.S.length sc
open Go.RowKit Go.KP Go.KI Go.Shelf
attribute [local go_sem] Oper.semAt_some

theorem cls_callq {f : Nat} {args : Array Value} {v : Value} {B n : Nat} {W0 : World} (hT : PQ B W0) (hB : B ≤ n) (H : ∀ w, B ≤ w.heap.size → PQ B w → Calls Tryz.prog f args w (Ret w v)) (x : Of (Below n W0)) (hx : n ≤ x.w.heap.size) :
    Calls Tryz.prog f args x.w fun e w' => e = .returned v ∧ Cls (Below n W0) w' :=
  (H x.w (by omega) (hT.on x.h hB)).mono fun _ _ ⟨h, hb⟩ => ⟨h, Cls.mk (x.h.trans (hb.mono hx))⟩
theorem sz_sub2 {p q : Nat} {x y : Rat} (hx : sz p x) (hy : sz q y) : sz (q + p + 1) (y - x) := sz_sub hy hx
abbrev pntV (a b : ByteArray) : Value := .agg #[.string a, .string b]
abbrev pntO (a b : ByteArray) : Obj := .cells #[.string a, .string b] 249
abbrev frcO (a b : ByteArray) : Obj := .cells #[.string a, .string b] 39
abbrev sprO (a b c : ByteArray) : Obj := .cells #[.string a, .string b, .string c] 41
theorem exit_pnt {f : Func} {R : Ending → World → Prop} {a : Act} {W : World} {b : Nat} {t : Tmp} {n d : ByteArray} (hf : f.results = #[.cell t 249]) (hb : W.heap[b]? = some (pntO n d)) (h2 : a.tmps[t]? = some (.pointer (some ⟨b, 0, none⟩))) (hd : a.defers = []) (hR : R (.returned (pntV n d)) W) :
    bodyPost Tryz.prog f R .ret a W := by
  have hcell := fun o => cell_blk hb o
  refine bodyPost_ret ?_ hd hR
  simp [results, hf, go_sem, hcell, h2]
theorem set_pnt {W : World} {b : Nat} {u v : ByteArray} (h : W.heap[b]? = some (pntO u v)) (x y : ByteArray) : ((W.setCell ⟨b, 0, none⟩ (.string x)).setCell ⟨b, 1, none⟩ (.string y)).heap[b]? = some (pntO x y) := by
  simp only [World.setCell, Array.getElem?_modify, h]
  simp
theorem T2lit : T 2 = ⟨#[50]⟩ := by
  rw [show T 2 = iB ((2 : Nat) : Int) from (iB_T _).symm]
  exact lit2
theorem sz_two1 : sz 1 (2 : Rat) := ⟨by decide, by decide⟩
theorem bmiddle_T {f t z : Rat} (sf : sz 20 f) (st : sz 20 t) (sZ : sz 20 z) (B : Nat) (w : World) (hB : B ≤ w.heap.size) (hT : PQ B w) :
    Calls Tryz.prog 329 #[.agg #[.string (T f), .string (T t), .string (T z)]] w (Ret w (pntV (T ((f + t) / 2)) (T (z * (t - f))))) := by
  have X0 := hide (heap2 w (sprO (T f) (T t) (T z)) (pntO ⟨#[]⟩ ⟨#[]⟩))
  obtain ⟨W0, hW0⟩ : ∃ W, W = (w.alloc (sprO (T f) (T t) (T z))).alloc (pntO ⟨#[]⟩ ⟨#[]⟩) := ⟨_, rfl⟩
  rw [← hW0] at X0
  have E1 := hide X0.out.1
  have E2 := hide X0.out.2.1
  have HB0 := hide X0.out.2.2.2
  have hs := HB0.out.size
  have HN1 := hide (fun (o : Of (Below W0.heap.size W0)) => cls_callq (hT.on HB0.out hB) (by omega) (fun w hB hT => bAdd_T sf st (by omega) B w hB hT) o o.h.size)
  have HN2 := hide (fun (o : Of (Below W0.heap.size W0)) => cls_callq (hT.on HB0.out hB) (by omega) (fun w hB hT => bDiv_T (sz_add sf st) sz_two1 (by decide) (by omega) B w hB hT) o o.h.size)
  have HN3 := hide (fun (o : Of (Below W0.heap.size W0)) => cls_callq (hT.on HB0.out hB) (by omega) (fun w hB hT => bSub_T st sf (by omega) B w hB hT) o o.h.size)
  have HN4 := hide (fun (o : Of (Below W0.heap.size W0)) => cls_callq (hT.on HB0.out hB) (by omega) (fun w hB hT => bMul_T sZ (sz_sub st sf) (by omega) B w hB hT) o o.h.size)
  rw [T2lit] at HN2
  generalize T ((f + t) / 2) = M at *
  generalize T (z * (t - f)) = K at *
  generalize T (f + t) = S at *
  generalize T (t - f) = R at *
  generalize T f = P0 at *
  generalize T t = P1 at *
  generalize T z = P2 at *
  clear sf st sZ hT hs X0
  go_enter Tryz.func329, Tryz.ntmps329
  go_wp2_with fail
  rw [← hW0]
  clear hW0
  have hx1 : ∀ x : Of (Below W0.heap.size W0), ∀ o, x.w.cell? ⟨w.heap.size, o, none⟩ = W0.cell? ⟨w.heap.size, o, none⟩ := fun x o => x.h.cell (p := ⟨w.heap.size, o, none⟩) (lt_blk E1.out)
  have c1 := fun o => cell_blk E1.out o
  have kn : Nonempty (Of (Below W0.heap.size W0)) := ⟨⟨_, Below.refl _ _⟩⟩
  refine region_prefix (C := Cls (Below W0.heap.size W0)) 14 (by kernel_rfl) (by decide) (by kernel_rfl) (by kernel_rfl) (by kernel_rfl) (by kernel_rfl) (Cls.mk (Below.refl _ _).drew) ?_
  simp only [List.take_succ_cons, List.take_zero, List.drop_succ_cons, List.drop_zero]
  repeat (go_big_quiet_step (first | rfl | with_reducible exact HN1.out _ | with_reducible exact HN2.out _ | with_reducible exact HN3.out _ | with_reducible exact HN4.out _))
  refine wpQuiet_nil ?_
  intro w1 hcl
  have hb1 := hcl.out
  have A2 := hide (below_blk hb1 E2.out (lt_blk E2.out))
  have HB1 := hide (HB0.out.trans (hb1.mono HB0.out.size))
  clear hcl hb1 hx1 c1 HN1 HN2 HN3 HN4 kn
  have k0 := cell_blk A2.out 0
  have k1 := cell_blk A2.out 1
  have f0 := froz_blk A2.out 0
  have f1 := froz_blk A2.out 1
  have l6 := lt_blk A2.out
  go_wp2_with fail
  exact exit_pnt rfl (set_pnt A2.out _ _) rfl rfl ⟨rfl, (HB1.out.setCell (p := ⟨w.heap.size + 1, 0, none⟩) (show w.heap.size ≤ w.heap.size + 1 by omega) _).setCell (p := ⟨w.heap.size + 1, 1, none⟩) (show w.heap.size ≤ w.heap.size + 1 by omega) _⟩
abbrev boxO (x : Rat) : Obj := .cells #[.string (T x)] 22
theorem box_put {W : World} {b : Nat} {x : Rat} (h : W.heap[b]? = some (boxO x)) (y : Rat) : (W.setCell ⟨b, 0, none⟩ (.string (T y))).heap[b]? = some (boxO y) := by
  simp only [World.setCell, Array.getElem?_modify, h]
  simp
theorem only_of {g : Nat} {w w2 : World} (h : Below w.heap.size w w2) : Only g w w2 := ⟨h.os, h.tape, h.output, h.size, fun b _ hb => h.block b hb⟩
theorem only_on {g B : Nat} {w w2 : World} (h : Only g w w2) (hB : B ≤ g) (hs : B ≤ w.heap.size) : Below B w w2 := ⟨h.os, h.tape, h.output, h.size, fun b hb => h.block b (by omega) (by omega)⟩
structure Each (g : Nat) (lb : Array Value) (bx : Nat) (W0 : World) (Z Y : Nat) (h : Rat → Rat → Rat) : Prop where
  enters : ∀ args w, (callFunc g args).run Tryz.prog w = .ok (.enter g args) w
  calls : ∀ (n : Nat) (x p q : Rat) (W : World), Only bx W0 W → W.heap[bx]? = some (boxO x) → Gr Z (n * Y) x → n ≤ 200 → Pnt p q →
    Calls Tryz.prog g (#[pntV (T p) (T q)] ++ lb) W (fun e W' => (∃ v, e = .returned v) ∧ Only bx W W' ∧ W'.heap[bx]? = some (boxO (x + h p q)))
theorem each_total {K : Nat} (k1 : 1 ≤ K) (k2 : K ≤ 2 * gq) {bx B : Nat} {W0 : World} (hB : B ≤ bx) (hs : B ≤ W0.heap.size) (hT : PQ B W0) : Each 330 #[.pointer (some ⟨bx, 0, none⟩)] bx W0 (zD K) zB (fun _ q => q) := by
  refine ⟨enters_of Tryz.func330 (by kernel_rfl) rfl, fun n x p q W ho hbx hx hn hp => ?_⟩
  have HB0 := hide (only_on ho hB hs)
  have hW := hT.on HB0.out (Nat.le_refl _)
  have HT := hide hW
  have hB := Nat.le_trans hs HB0.out.size
  have X0 := hide (heap1 W (pntO (T p) (T q)))
  have H1 := hide (fun w hB hT => bAdd_T (run_sz k1 k2 (by omega) hx) (pnt_sz hp).2 (by omega) B w hB hT)
  have E0 := hide (below_blk X0.out.2.2 hbx (lt_blk hbx))
  have k0 := cell_blk hbx 0
  have l0 := lt_blk hbx
  rw [show x + (fun _ q => q) p q = x + q by first | rfl | exact (Rat.sub_eq_add_neg x q).symm]
  obtain ⟨Y, hY⟩ : ∃ Y, Y = T (x + q) := ⟨_, rfl⟩
  rw [← hY] at H1
  have HY := hide hY
  obtain ⟨X, hX⟩ : ∃ X, X = T x := ⟨_, rfl⟩
  rw [← hX] at H1 k0
  generalize T p = P at *
  generalize T q = Q at *
  clear hp hx ho hW hT hY hX hbx
  go_enter Tryz.func330, Tryz.ntmps330
  go_wp2_with fail
  refine (H1.out _ (Nat.le_trans hB X0.out.2.2.size) (HT.out.on X0.out.2.2 hB)).mono ?_
  rintro e w1 ⟨rfl, hb1⟩
  have E1 := hide (below_blk hb1 E0.out (lt_blk E0.out))
  have HB1 := hide (X0.out.2.2.trans (hb1.mono X0.out.2.2.size))
  clear hb1 k0 l0
  have k0 := cell_blk E1.out 0
  have f0 := froz_blk E1.out 0
  have l0 := lt_blk E1.out
  go_wp2_with fail
  refine bodyPost_end (results_none rfl _ _ _) rfl ?_
  refine ⟨⟨_, rfl⟩, (only_of HB1.out).set 0 _, ?_⟩
  rw [HY.out]
  exact box_put E1.out _
theorem each_shear {K : Nat} (k1 : 1 ≤ K) (k2 : K ≤ 2 * gq) {bx B : Nat} {W0 : World} (hB : B ≤ bx) (hs : B ≤ W0.heap.size) (hT : PQ B W0) : Each 267 #[.pointer (some ⟨bx, 0, none⟩)] bx W0 (zD K) zB (fun _ q => -q) := by
  refine ⟨enters_of Tryz.func267 (by kernel_rfl) rfl, fun n x p q W ho hbx hx hn hp => ?_⟩
  have HB0 := hide (only_on ho hB hs)
  have hW := hT.on HB0.out (Nat.le_refl _)
  have HT := hide hW
  have hB := Nat.le_trans hs HB0.out.size
  have X0 := hide (heap1 W (pntO (T p) (T q)))
  have H1 := hide (fun w hB hT => bSub_T (run_sz k1 k2 (by omega) hx) (pnt_sz hp).2 (by omega) B w hB hT)
  have E0 := hide (below_blk X0.out.2.2 hbx (lt_blk hbx))
  have k0 := cell_blk hbx 0
  have l0 := lt_blk hbx
  rw [show x + (fun _ q => -q) p q = x - q by first | rfl | exact (Rat.sub_eq_add_neg x q).symm]
  obtain ⟨Y, hY⟩ : ∃ Y, Y = T (x - q) := ⟨_, rfl⟩
  rw [← hY] at H1
  have HY := hide hY
  obtain ⟨X, hX⟩ : ∃ X, X = T x := ⟨_, rfl⟩
  rw [← hX] at H1 k0
  generalize T p = P at *
  generalize T q = Q at *
  clear hp hx ho hW hT hY hX hbx
  go_enter Tryz.func267, Tryz.ntmps267
  go_wp2_with fail
  refine (H1.out _ (Nat.le_trans hB X0.out.2.2.size) (HT.out.on X0.out.2.2 hB)).mono ?_
  rintro e w1 ⟨rfl, hb1⟩
  have E1 := hide (below_blk hb1 E0.out (lt_blk E0.out))
  have HB1 := hide (X0.out.2.2.trans (hb1.mono X0.out.2.2.size))
  clear hb1 k0 l0
  have k0 := cell_blk E1.out 0
  have f0 := froz_blk E1.out 0
  have l0 := lt_blk E1.out
  go_wp2_with fail
  refine bodyPost_end (results_none rfl _ _ _) rfl ?_
  refine ⟨⟨_, rfl⟩, (only_of HB1.out).set 0 _, ?_⟩
  rw [HY.out]
  exact box_put E1.out _
theorem each_turn {K : Nat} (k1 : 1 ≤ K) (k2 : K ≤ 2 * gq) {bx bb B : Nat} {W0 : World} (hB : B ≤ bx) (hs : B ≤ W0.heap.size) (hT : PQ B W0) (hne : bb ≠ bx) {b : Bm} {fa sa : Option Addr} {fc sc : Nat} (hb : W0.heap[bb]? = some (bmO b fa fc sa sc)) (gc : Gr gp gq b.lft) : Each 216 #[.pointer (some ⟨bx, 0, none⟩), .pointer (some ⟨bb, 0, none⟩)] bx W0 (zD K) zB (turnAt b.lft) := by
  refine ⟨enters_of Tryz.func216 (by kernel_rfl) rfl, fun n x p q W ho hbx hx hn hp => ?_⟩
  have HB0 := hide (only_on ho hB hs)
  have hW := hT.on HB0.out (Nat.le_refl _)
  have hB := Nat.le_trans hs HB0.out.size
  have hbb := (ho.block bb hne (lt_blk hb)).trans hb
  obtain ⟨W1, hW1⟩ : ∃ V, V = W.alloc (pntO (T p) (T q)) := ⟨_, rfl⟩
  have X0 := hide (heap1 W (pntO (T p) (T q)))
  rw [← hW1] at X0
  have E0 := hide (below_blk X0.out.2.2 hbx (lt_blk hbx))
  have E1 := hide (below_blk X0.out.2.2 hbb (lt_blk hbb))
  have E2 := hide X0.out.1
  have HB1 := hide X0.out.2.2
  have hs1 := HB1.out.size
  have HN1 := hide (fun (o : Of (Below W1.heap.size W1)) => cls_callq (hW.on HB1.out hB) (by omega) (fun w hB hT => bSub_T (pnt_sz hp).1 (place_sz gc) (by omega) B w hB hT) o o.h.size)
  have HN2 := hide (fun (o : Of (Below W1.heap.size W1)) => cls_callq (hW.on HB1.out hB) (by omega) (fun w hB hT => bMul_T (pnt_sz hp).2 (sz_mono (sz_sub (pnt_sz hp).1 (place_sz gc)) (show _ ≤ 81 by omega)) (by omega) B w hB hT) o o.h.size)
  have HN3 := hide (fun (o : Of (Below W1.heap.size W1)) => cls_callq (hW.on HB1.out hB) (by omega) (fun w hB hT => bAdd_T (run_sz k1 k2 (by omega) hx) (turn_sz (turn_gr hp gc)) (by omega) B w hB hT) o o.h.size)
  rw [show x + (turnAt b.lft) p q = x + q * (p - b.lft) by first | rfl | exact (Rat.sub_eq_add_neg x _).symm]
  have HY := hide (rfl : T (x + q * (p - b.lft)) = T (x + q * (p - b.lft)))
  revert HY
  generalize hYY : T (x + q * (p - b.lft)) = Y at HN3
  intro HY
  generalize T (q * (p - b.lft)) = Z1 at *
  generalize T (p - b.lft) = Z2 at *
  obtain ⟨X, hX⟩ : ∃ X, X = T x := ⟨_, rfl⟩
  have c0 := fun o => cell_blk E0.out o
  have c1 := fun o => cell_blk E1.out o
  have c2 := fun o => cell_blk E2.out o
  rw [← hX] at HN3 c0
  generalize T p = P at *
  generalize T q = Q at *
  generalize T b.lft = Tl at *
  generalize T b.len = TL at *
  generalize T b.rgt = Tr at *
  generalize b.F.length = fn at *
  generalize b.S.length = sn at *
  have l0 := lt_blk E0.out
  have l1 := lt_blk E1.out
  have l2 := lt_blk E2.out
  clear hp hx ho hW hT hX hb hs1 X0 gc hbb hbx
  go_enter Tryz.func216, Tryz.ntmps216
  go_wp2_with fail
  rw [← hW1]
  clear hW1
  have hx0 : ∀ x : Of (Below W1.heap.size W1), ∀ o, x.w.cell? ⟨bx, o, none⟩ = W1.cell? ⟨bx, o, none⟩ := fun x o => x.h.cell (p := ⟨bx, o, none⟩) l0
  have hx1 : ∀ x : Of (Below W1.heap.size W1), ∀ o, x.w.cell? ⟨bb, o, none⟩ = W1.cell? ⟨bb, o, none⟩ := fun x o => x.h.cell (p := ⟨bb, o, none⟩) l1
  have hx2 : ∀ x : Of (Below W1.heap.size W1), ∀ o, x.w.cell? ⟨W.heap.size, o, none⟩ = W1.cell? ⟨W.heap.size, o, none⟩ := fun x o => x.h.cell (p := ⟨W.heap.size, o, none⟩) l2
  have kn : Nonempty (Of (Below W1.heap.size W1)) := ⟨⟨_, Below.refl _ _⟩⟩
  refine region_prefix (C := Cls (Below W1.heap.size W1)) 10 (by kernel_rfl) (by decide) (by kernel_rfl) (by kernel_rfl) (by kernel_rfl) (by kernel_rfl) (Cls.mk (Below.refl _ _).drew) ?_
  simp only [List.take_succ_cons, List.take_zero, List.drop_succ_cons, List.drop_zero]
  repeat (go_big_quiet_step (first | rfl | with_reducible exact HN1.out _ | with_reducible exact HN2.out _ | with_reducible exact HN3.out _))
  refine wpQuiet_nil ?_
  intro w1 hcl
  have hb1 := hcl.out
  have A0 := hide (below_blk hb1 E0.out l0)
  have HB2 := hide (HB1.out.trans (hb1.mono HB1.out.size))
  clear hcl hb1 hx0 hx1 hx2 c0 c1 c2 HN1 HN2 HN3 kn l0 l1 l2
  have k0 := cell_blk A0.out 0
  have f0 := froz_blk A0.out 0
  have l0 := lt_blk A0.out
  go_wp2_with fail
  refine bodyPost_end (results_none rfl _ _ _) rfl ?_
  refine ⟨⟨_, rfl⟩, (only_of HB2.out).set 0 _, ?_⟩
  rw [← hYY]
  exact box_put A0.out _
theorem each_back {K : Nat} (k1 : 1 ≤ K) (k2 : K ≤ 2 * gq) {bx bb B : Nat} {W0 : World} (hB : B ≤ bx) (hs : B ≤ W0.heap.size) (hT : PQ B W0) (hne : bb ≠ bx) {a : Rat} (hb : W0.heap[bb]? = some (boxO a)) (gc : Gr gp gq a) : Each 228 #[.pointer (some ⟨bx, 0, none⟩), .pointer (some ⟨bb, 0, none⟩)] bx W0 (zD K) zB (fun p q => -(backAt a p q)) := by
  refine ⟨enters_of Tryz.func228 (by kernel_rfl) rfl, fun n x p q W ho hbx hx hn hp => ?_⟩
  have HB0 := hide (only_on ho hB hs)
  have hW := hT.on HB0.out (Nat.le_refl _)
  have hB := Nat.le_trans hs HB0.out.size
  have hbb := (ho.block bb hne (lt_blk hb)).trans hb
  obtain ⟨W1, hW1⟩ : ∃ V, V = W.alloc (pntO (T p) (T q)) := ⟨_, rfl⟩
  have X0 := hide (heap1 W (pntO (T p) (T q)))
  rw [← hW1] at X0
  have E0 := hide (below_blk X0.out.2.2 hbx (lt_blk hbx))
  have E1 := hide (below_blk X0.out.2.2 hbb (lt_blk hbb))
  have E2 := hide X0.out.1
  have HB1 := hide X0.out.2.2
  have hs1 := HB1.out.size
  have HN1 := hide (fun (o : Of (Below W1.heap.size W1)) => cls_callq (hW.on HB1.out hB) (by omega) (fun w hB hT => bSub_T (place_sz gc) (pnt_sz hp).1 (by omega) B w hB hT) o o.h.size)
  have HN2 := hide (fun (o : Of (Below W1.heap.size W1)) => cls_callq (hW.on HB1.out hB) (by omega) (fun w hB hT => bMul_T (pnt_sz hp).2 (sz_mono (sz_sub2 (pnt_sz hp).1 (place_sz gc)) (show _ ≤ 81 by omega)) (by omega) B w hB hT) o o.h.size)
  have HN3 := hide (fun (o : Of (Below W1.heap.size W1)) => cls_callq (hW.on HB1.out hB) (by omega) (fun w hB hT => bSub_T (run_sz k1 k2 (by omega) hx) (turn_sz (back_gr hp gc)) (by omega) B w hB hT) o o.h.size)
  rw [show x + (fun p q => -(backAt a p q)) p q = x - q * (a - p) by first | rfl | exact (Rat.sub_eq_add_neg x _).symm]
  have HY := hide (rfl : T (x - q * (a - p)) = T (x - q * (a - p)))
  revert HY
  generalize hYY : T (x - q * (a - p)) = Y at HN3
  intro HY
  generalize T (q * (a - p)) = Z1 at *
  generalize T (a - p) = Z2 at *
  obtain ⟨X, hX⟩ : ∃ X, X = T x := ⟨_, rfl⟩
  have c0 := fun o => cell_blk E0.out o
  have c1 := fun o => cell_blk E1.out o
  have c2 := fun o => cell_blk E2.out o
  rw [← hX] at HN3 c0
  generalize T p = P at *
  generalize T q = Q at *
  generalize T a = TA at *
  have l0 := lt_blk E0.out
  have l1 := lt_blk E1.out
  have l2 := lt_blk E2.out
  clear hp hx ho hW hT hX hb hs1 X0 gc hbb hbx
  go_enter Tryz.func228, Tryz.ntmps228
  go_wp2_with fail
  rw [← hW1]
  clear hW1
  have hx0 : ∀ x : Of (Below W1.heap.size W1), ∀ o, x.w.cell? ⟨bx, o, none⟩ = W1.cell? ⟨bx, o, none⟩ := fun x o => x.h.cell (p := ⟨bx, o, none⟩) l0
  have hx1 : ∀ x : Of (Below W1.heap.size W1), ∀ o, x.w.cell? ⟨bb, o, none⟩ = W1.cell? ⟨bb, o, none⟩ := fun x o => x.h.cell (p := ⟨bb, o, none⟩) l1
  have hx2 : ∀ x : Of (Below W1.heap.size W1), ∀ o, x.w.cell? ⟨W.heap.size, o, none⟩ = W1.cell? ⟨W.heap.size, o, none⟩ := fun x o => x.h.cell (p := ⟨W.heap.size, o, none⟩) l2
  have kn : Nonempty (Of (Below W1.heap.size W1)) := ⟨⟨_, Below.refl _ _⟩⟩
  refine region_prefix (C := Cls (Below W1.heap.size W1)) 9 (by kernel_rfl) (by decide) (by kernel_rfl) (by kernel_rfl) (by kernel_rfl) (by kernel_rfl) (Cls.mk (Below.refl _ _).drew) ?_
  simp only [List.take_succ_cons, List.take_zero, List.drop_succ_cons, List.drop_zero]
  repeat (go_big_quiet_step (first | rfl | with_reducible exact HN1.out _ | with_reducible exact HN2.out _ | with_reducible exact HN3.out _))
  refine wpQuiet_nil ?_
  intro w1 hcl
  have hb1 := hcl.out
  have A0 := hide (below_blk hb1 E0.out l0)
  have HB2 := hide (HB1.out.trans (hb1.mono HB1.out.size))
  clear hcl hb1 hx0 hx1 hx2 c0 c1 c2 HN1 HN2 HN3 kn l0 l1 l2
  have k0 := cell_blk A0.out 0
  have f0 := froz_blk A0.out 0
  have l0 := lt_blk A0.out
  go_wp2_with fail
  refine bodyPost_end (results_none rfl _ _ _) rfl ?_
  refine ⟨⟨_, rfl⟩, (only_of HB2.out).set 0 _, ?_⟩
  rw [← hYY]
  exact box_put A0.out _
open Go.RowKit Go.KP Go.KI Go.Shelf
attribute [local go_sem] Oper.semAt_some

theorem only_blk {g : Nat} {w w2 : World} (h : Only g w w2) {b : Nat} {o : Obj} (hb : w.heap[b]? = some o) (hn : b ≠ g) : w2.heap[b]? = some o := (h.block b hn (lt_blk hb)).trans hb
theorem Only.alloc {g : Nat} {a w : World} (h : Only g a w) (o : Obj) : Only g a (w.alloc o) := h.trans (only_of (heap1 w o).2.2)
theorem BeamAt.only {B g : Nat} {w w2 : World} {fa sa : Option Addr} {b : Bm} (h : BeamAt B w fa sa b) (hb : Only g w w2) (hn : B ≤ g) (hs : B ≤ w.heap.size) : BeamAt B w2 fa sa b := h.below (only_on hb hn hs) (Nat.le_refl _)
theorem set_spr {W : World} {b : Nat} {u v x : ByteArray} (h : W.heap[b]? = some (sprO u v x)) (y : ByteArray) : (W.setCell ⟨b, 1, none⟩ (.string y)).heap[b]? = some (sprO u y x) := by
  simp only [World.setCell, Array.getElem?_modify, h]
  simp
structure FoldAt (g bx : Nat) (W0 W : World) (Z Y n : Nat) (x : Rat) (o : Obj) : Prop where
  only : Only bx W0 W
  box : W.heap[bx]? = some (boxO x)
  gr : Gr Z (n * Y) x
  own : W.heap[W0.heap.size]? = some o
theorem FoldAt.step {g bx : Nat} {W0 W W1 W2 : World} {Z Y n : Nat} {x y : Rat} {o : Obj} (h : FoldAt g bx W0 W Z Y n x o) (hb : Below W.heap.size W W1) (k : Only bx W1 W2) (hy : W2.heap[bx]? = some (boxO y)) (hg : Gr Z ((n + 1) * Y) y) (hl : bx < W0.heap.size) : FoldAt g bx W0 W2 Z Y (n + 1) y o :=
  ⟨(h.only.trans (only_of hb)).trans k, hy, hg, only_blk k (below_blk hb h.own (lt_blk h.own)) (by omega)⟩
theorem FoldAt.keep {g bx : Nat} {W0 W W1 : World} {Z Y n : Nat} {x : Rat} {o : Obj} (h : FoldAt g bx W0 W Z Y n x o) (hb : Below W.heap.size W W1) : FoldAt g bx W0 W1 Z Y (n + 1) x o :=
  ⟨h.only.trans (only_of hb), below_blk hb h.box (lt_blk h.box), gr_mono h.gr (Nat.mul_le_mul_right _ (by omega)), below_blk hb h.own (lt_blk h.own)⟩
theorem bfold_any {g : Nat} {lb : Array Value} {bx B Z Y m : Nat} {h : Rat → Rat → Rat} {b : Bm} {u x0 : Rat} (hs : BmS b) (hu : Gr gp gq u) (hm : m ≤ 10) (hx0 : Gr Z (m * Y) x0) (hg : ∀ p q, Pnt p q → Gr Z Y (h p q)) (fa : Option Addr) (fc : Nat) (sa : Option Addr) (sc : Nat) (W0 : World)
    (HE : Each g lb bx W0 Z Y h) (hbx : W0.heap[bx]? = some (boxO x0)) (hBx : B ≤ bx) (hT : PQ B W0) (hb : BeamAt B W0 fa sa b) :
    Calls Tryz.prog 215 #[bmV b fa fc sa sc, .string (T u), .func (.func g) #[] lb] W0 (fun e W' => (∃ v, e = .returned v) ∧ Only bx W0 W' ∧ W'.heap[bx]? = some (boxO (x0 + foldB h b u))) := by
  have hl0 := lt_blk hbx
  have hen := HE.enters
  have HC := hide HE.calls
  have HB := hide hb
  have HT := hide hT
  have HS := hide hs
  have HG := hide hg
  have su := place_sz hu
  have hlen := hs.few
  have X0 := hide (heap1 W0 (bmO b fa fc sa sc))
  obtain ⟨n1, hn1⟩ : ∃ n, n = b.F.length := ⟨_, rfl⟩
  obtain ⟨n2, hn2⟩ : ∃ n, n = b.S.length := ⟨_, rfl⟩
  obtain ⟨O, hO⟩ : ∃ O, O = bmO b fa fc sa sc := ⟨_, rfl⟩
  have HO := hide hO
  have I0 : FoldAt g bx W0 (W0.alloc O) Z Y (m + 0) (x0 + sumL (forceT h u) (b.F.take 0)) O := by
    rw [hO]
    refine ⟨only_of X0.out.2.2, ?_, ?_, X0.out.1⟩
    · rw [show x0 + sumL (forceT h u) (b.F.take 0) = x0 by show x0 + 0 = x0; exact Rat.add_zero _]
      exact below_blk X0.out.2.2 hbx hl0
    · rw [show x0 + sumL (forceT h u) (b.F.take 0) = x0 by show x0 + 0 = x0; exact Rat.add_zero _]
      exact hx0
  have HI0 := hide I0
  have k3 := cell_blk X0.out.1 3
  have l3 := lt_blk X0.out.1
  rw [← hO] at k3 l3
  have HU := hide hu
  have HSU := hide su
  clear hb hT hs hg hx0 hbx HE hO I0 X0 hu su
  rw [show bmV b fa fc sa sc = .agg #[.string (T b.len), .string (T b.lft), .string (T b.rgt), .slice fa n1 fc, .slice sa n2 sc] by rw [hn1, hn2]]
  have HN1 := hide hn1
  have HN2 := hide hn2
  have hO2 : O = .cells #[.string (T b.len), .string (T b.lft), .string (T b.rgt), .slice fa n1 fc, .slice sa n2 sc] 26 := by rw [HO.out, hn1, hn2]
  have HO2 := hide hO2
  obtain ⟨U, hU⟩ : ∃ U, U = T u := ⟨_, rfl⟩
  rw [← hU]
  have HUU := hide hU
  rw [hn1.symm, hn2.symm] at hlen
  clear hn1 hn2 HO hU
  generalize T b.len = TL at *
  generalize T b.lft = Tl at *
  generalize T b.rgt = Tr at *
  go_enter Tryz.func215, Tryz.ntmps215
  go_wp2_with fail
  rw [← hO2]
  clear hO2
  go_loopw [13] (fun i wr => ∃ k : Nat, k ≤ n1 ∧ i = .int .i64 k ∧ Hid (FoldAt g bx W0 wr Z Y (m + k) (x0 + sumL (forceT h u) (b.F.take k)) O)) (fun i _ => n1 - (intOf i).toNat)
  case atStart => exact ⟨0, Nat.zero_le _, rfl, HI0.out⟩
  clear HI0 k3 l3
  case round =>
    obtain ⟨k, hk, rfl, hin⟩ := hrel
    obtain ⟨wo, hwo⟩ : ∃ wo, wo = wr := ⟨_, rfl⟩
    subst hwo
    by_cases hlt : k < n1
    · have hki : (k : Int) < (n1 : Int) := by omega
      have hk0 : (0 : Int) ≤ (k : Int) := by omega
      have hkl : k < b.F.length := by rw [← HN1.out]; exact hlt
      have hBs : B ≤ W0.heap.size := by omega
      obtain ⟨kb, ko, hfa, hkb, c1, c2⟩ := (HB.out.only hin.out.only hBx hBs).force hkl
      subst hfa
      have hfm := fAt_mem hkl
      obtain ⟨sp, sq⟩ := HS.out.sF _ hfm
      have hstep := fsum_step (forceT h u) hkl
      obtain ⟨P, hP⟩ : ∃ P, P = (fAt b.F k).1 := ⟨_, rfl⟩
      obtain ⟨Q, hQ⟩ : ∃ P, P = (fAt b.F k).2 := ⟨_, rfl⟩
      have hft : forceT h u (fAt b.F k) = if P ≤ u then h P Q else 0 := by unfold forceT; rw [hP, hQ]
      rw [← hP] at sp c1
      rw [← hQ] at sq c2
      have HSTEP := hide hstep
      have HFT := hide hft
      have hpn := force_pnt (small_gr sp) (small_gr sq)
      have HPN := hide hpn
      have hsz := hin.out.only.size
      have HTw := hide (HT.out.on (only_on hin.out.only hBx hBs) (Nat.le_refl _))
      have hBw : B ≤ wo.heap.size := Nat.le_trans hBs hsz
      have H1 := hide (fun w hB hT => bCmp_T (place_sz (small_gr sp)) HSU.out (by omega) B w hB hT)
      have hkw : kb < wo.heap.size := by omega
      rw [← HUU.out] at H1
      have XF := hide (heap1 wo (frcO (T P) (T Q)))
      have HTQ := hide (rfl : T Q = T Q)
      by_cases hle : P ≤ u
      · rw [if_pos hle] at hft
        have hc := cmp_le0 hle
        have HFT := hide hft
        generalize cmpR P u = C at *
        have HCL := hide (fun W a1 a2 a3 => HC.out (m + k) (x0 + sumL (forceT h u) (b.F.take k)) P Q W a1 a2 a3 (by omega) HPN.out)
        generalize T P = TP at *
        generalize T Q = TQ at *
        clear hstep hft hpn sp sq hfm hP hQ hle hsz HTQ hlt HC
        go_wp2_with fail
        refine (H1.out _ (Nat.le_trans hBw XF.out.2.2.size) (HTw.out.on XF.out.2.2 hBw)).mono ?_
        rintro e w1 ⟨rfl, hb1⟩
        have G1 := hide (below_blk hb1 XF.out.1 (lt_blk XF.out.1))
        have HB1 := hide (XF.out.2.2.trans (hb1.mono XF.out.2.2.size))
        have q0 := cell_blk G1.out 0
        have q1 := cell_blk G1.out 1
        have ql := lt_blk G1.out
        clear hb1 c1 c2 hkw XF
        go_wp2_with fail
        refine (HCL.out _ (hin.out.only.trans (only_of HB1.out)) (below_blk HB1.out hin.out.box (lt_blk hin.out.box)) hin.out.gr).mono ?_
        rintro e w2 ⟨⟨v, rfl⟩, ho2, hb2⟩
        have HI := hide (hin.out.step HB1.out ho2 hb2 (by
          have := gr_snoc hin.out.gr (HG.out _ _ HPN.out)
          exact this) hl0)
        clear ho2 hb2 q0 q1 ql
        go_wp2_with fail
        go_roundw
        case rel =>
          refine ⟨k + 1, by omega, by simp, ?_⟩
          have := HI.out
          rw [HSTEP.out, HFT.out, ← Rat.add_assoc]
          exact this
        case measure => simp [intOf]; omega
      · rw [if_neg hle] at hft
        have hc := cmp_npos (Rat.not_le.1 hle)
        have HFT := hide hft
        generalize cmpR P u = C at *
        generalize T P = TP at *
        generalize T Q = TQ at *
        clear hstep hft hpn sp sq hfm hP hQ hle hsz HTQ hlt
        go_wp2_with fail
        refine (H1.out _ (Nat.le_trans hBw XF.out.2.2.size) (HTw.out.on XF.out.2.2 hBw)).mono ?_
        rintro e w1 ⟨rfl, hb1⟩
        have HB1 := hide (XF.out.2.2.trans (hb1.mono XF.out.2.2.size))
        clear hb1 c1 c2 hkw XF
        go_wp2_with fail
        go_roundw
        case rel =>
          refine ⟨k + 1, by omega, by simp, ?_⟩
          have := hin.out.keep HB1.out
          rw [HSTEP.out, HFT.out, Rat.add_zero]
          exact this
        case measure => simp [intOf]; omega
    · obtain rfl : k = n1 := by omega
      have hki : ((k : Int) < (k : Int)) = False := eq_false (by omega)
      have hal : b.F.take k = b.F := List.take_of_length_le (by rw [HN1.out]; omega)
      have hin2 := hin.out
      rw [hal] at hin2
      obtain ⟨X1, hX1⟩ : ∃ X, X = x0 + sumL (forceT h u) b.F := ⟨_, rfl⟩
      rw [← hX1] at hin2
      have HX1 := hide hX1
      have HI1 := hide hin2
      have G0 := hin2.own
      rw [HO2.out] at G0
      have k4 := cell_blk G0 4
      have l4 := lt_blk G0
      have HSZ := hide (show wo.heap.size ≥ W0.heap.size from hin2.only.size)
      clear hin hin2 hal hX1 hlt G0
      go_wp2_with fail
      go_loopw [33] (fun i wr => ∃ j : Nat, j ≤ n2 ∧ i = .int .i64 j ∧ Hid (FoldAt g bx W0 wr Z Y (m + k + j) (X1 + sumL (spreadT h u) (b.S.take j)) O)) (fun i _ => n2 - (intOf i).toNat)
      case atStart =>
        refine ⟨0, Nat.zero_le _, rfl, ?_⟩
        have := HI1.out
        rw [show X1 + sumL (spreadT h u) (b.S.take 0) = X1 by show X1 + 0 = X1; exact Rat.add_zero _]
        exact this
      clear k4 l4 HI1
      case round =>
        obtain ⟨j, hj, rfl, hin⟩ := hrel
        obtain ⟨wp, hwp⟩ : ∃ wp, wp = wr := ⟨_, rfl⟩
        subst hwp
        by_cases hlt : j < n2
        · have hji : (j : Int) < (n2 : Int) := by omega
          have hj0 : (0 : Int) ≤ (j : Int) := by omega
          have hjl : j < b.S.length := by rw [← HN2.out]; exact hlt
          have hBs : B ≤ W0.heap.size := by omega
          obtain ⟨kb, ko, hsa, hkb, c1, c2, c3⟩ := (HB.out.only hin.out.only hBx hBs).spread hjl
          subst hsa
          have hfm := sAt_mem hjl
          obtain ⟨sp, st, sq⟩ := HS.out.sS _ hfm
          have hstep := ssum_step (spreadT h u) hjl
          obtain ⟨P, hP⟩ : ∃ P, P = (sAt b.S j).1 := ⟨_, rfl⟩
          obtain ⟨E, hE⟩ : ∃ P, P = (sAt b.S j).2.1 := ⟨_, rfl⟩
          obtain ⟨Q, hQ⟩ : ∃ P, P = (sAt b.S j).2.2 := ⟨_, rfl⟩
          obtain ⟨D, hD⟩ : ∃ D, D = cutTo u E := ⟨_, rfl⟩
          have hft : spreadT h u (sAt b.S j) = if P < D then h ((P + D) / 2) (Q * (D - P)) else 0 := by unfold spreadT; rw [hD, hP, hQ, hE]
          rw [← hP] at sp c1
          rw [← hE] at st c2
          rw [← hQ] at sq c3
          have gD : Gr gp gq D := by rw [hD]; exact cut_gr HU.out (small_gr st)
          have HSTEP := hide hstep
          have HPN := hide (spread_pnt (small_gr sp) gD (small_gr sq))
          have hsz := hin.out.only.size
          have HTw := hide (HT.out.on (only_on hin.out.only hBx hBs) (Nat.le_refl _))
          have hBw : B ≤ wp.heap.size := Nat.le_trans hBs hsz
          have H1 := hide (fun w hB hT => bCmp_T (place_sz (small_gr st)) HSU.out (by omega) B w hB hT)
          have H2 := hide (fun w hB hT => bCmp_T (place_sz (small_gr sp)) (place_sz gD) (by omega) B w hB hT)
          have H3 := hide (fun w hB hT => bmiddle_T (place_sz (small_gr sp)) (place_sz gD) (place_sz (small_gr sq)) B w hB hT)
          have hkw : kb < wp.heap.size := by omega
          rw [← HUU.out] at H1
          have XF := hide (heap1 wp (sprO (T P) (T E) (T Q)))
          have HCL := hide (fun W a1 a2 a3 => HC.out (m + k + j) (X1 + sumL (spreadT h u) (b.S.take j)) _ _ W a1 a2 a3 (by omega) HPN.out)
          have hDE : (E ≤ u ∧ D = E ∧ (0 < cmpR E u) = False) ∨ (u < E ∧ T D = U ∧ 0 < cmpR E u) := by
            unfold cutTo at hD
            by_cases hue : u < E
            · rw [if_pos hue] at hD
              exact .inr ⟨hue, by rw [hD, HUU.out], cmp_gt0 hue⟩
            · rw [if_neg hue] at hD
              exact .inl ⟨Rat.not_lt.1 hue, hD, cmp_nlt (Rat.not_lt.1 hue)⟩
          clear hD hE hP hQ sp st sq hfm hstep gD hsz hlt
          rcases hDE with ⟨_, hde, g1⟩ | ⟨_, hde, g1⟩
          · subst hde
            by_cases hless : P < D
            · rw [if_pos hless] at hft
              have g2 := cmp_lt0 hless
              have HFT := hide hft
              generalize cmpR D u = C1 at *
              generalize cmpR P D = C2 at *
              clear hft hless
              obtain ⟨M, hM⟩ : ∃ M, M = T ((P + D) / 2) := ⟨_, rfl⟩
              obtain ⟨K, hK⟩ : ∃ M, M = T (Q * (D - P)) := ⟨_, rfl⟩
              rw [← hM, ← hK] at H3 HCL
              clear hM hK
              generalize T P = TP at *
              generalize T Q = TQ at *
              generalize T D = TD at *
              go_wp2_with fail
              refine (H1.out _ (Nat.le_trans hBw XF.out.2.2.size) (HTw.out.on XF.out.2.2 hBw)).mono ?_
              rintro e w1 ⟨rfl, hb1⟩
              have G1 := hide (below_blk hb1 XF.out.1 (lt_blk XF.out.1))
              have HB1 := hide (XF.out.2.2.trans (hb1.mono XF.out.2.2.size))
              have q0 := cell_blk G1.out 0
              have q1 := cell_blk G1.out 1
              have q2 := cell_blk G1.out 2
              have ql := lt_blk G1.out
              clear hb1 c1 c2 c3 hkw XF
              go_wp2_with fail
              refine (H2.out _ (Nat.le_trans hBw HB1.out.size) (HTw.out.on HB1.out hBw)).mono ?_
              rintro e w3 ⟨rfl, hb3⟩
              have G3 := hide (below_blk hb3 G1.out (lt_blk G1.out))
              have HB3 := hide (HB1.out.trans (hb3.mono HB1.out.size))
              clear hb3 q0 q1 q2 ql
              have q0 := cell_blk G3.out 0
              have q1 := cell_blk G3.out 1
              have q2 := cell_blk G3.out 2
              have ql := lt_blk G3.out
              go_wp2_with fail
              refine (H3.out _ (Nat.le_trans hBw HB3.out.size) (HTw.out.on HB3.out hBw)).mono ?_
              rintro e w4 ⟨rfl, hb4⟩
              have HB4 := hide (HB3.out.trans (hb4.mono HB3.out.size))
              clear hb4 q0 q1 q2 ql
              go_wp2_with fail
              refine (HCL.out _ (hin.out.only.trans (only_of HB4.out)) (below_blk HB4.out hin.out.box (lt_blk hin.out.box)) hin.out.gr).mono ?_
              rintro e w5 ⟨⟨v, rfl⟩, ho2, hb2⟩
              have HI := hide (hin.out.step HB4.out ho2 hb2 (gr_snoc hin.out.gr (HG.out _ _ HPN.out)) hl0)
              clear ho2 hb2
              go_wp2_with fail
              go_roundw
              case rel =>
                refine ⟨j + 1, by omega, by simp, ?_⟩
                have := HI.out
                rw [HSTEP.out, HFT.out, ← Rat.add_assoc]
                exact this
              case measure => simp [intOf]; omega
            · rw [if_neg hless] at hft
              have g2 := cmp_nneg (Rat.not_lt.1 hless)
              have HFT := hide hft
              generalize cmpR D u = C1 at *
              generalize cmpR P D = C2 at *
              clear hft hless
              generalize T P = TP at *
              generalize T Q = TQ at *
              generalize T D = TD at *
              go_wp2_with fail
              refine (H1.out _ (Nat.le_trans hBw XF.out.2.2.size) (HTw.out.on XF.out.2.2 hBw)).mono ?_
              rintro e w1 ⟨rfl, hb1⟩
              have G1 := hide (below_blk hb1 XF.out.1 (lt_blk XF.out.1))
              have HB1 := hide (XF.out.2.2.trans (hb1.mono XF.out.2.2.size))
              have q0 := cell_blk G1.out 0
              have q1 := cell_blk G1.out 1
              have q2 := cell_blk G1.out 2
              have ql := lt_blk G1.out
              clear hb1 c1 c2 c3 hkw XF
              go_wp2_with fail
              refine (H2.out _ (Nat.le_trans hBw HB1.out.size) (HTw.out.on HB1.out hBw)).mono ?_
              rintro e w3 ⟨rfl, hb3⟩
              have G3 := hide (below_blk hb3 G1.out (lt_blk G1.out))
              have HB3 := hide (HB1.out.trans (hb3.mono HB1.out.size))
              clear hb3 q0 q1 q2 ql
              go_wp2_with fail
              go_roundw
              case rel =>
                refine ⟨j + 1, by omega, by simp, ?_⟩
                have := hin.out.keep HB3.out
                rw [HSTEP.out, HFT.out, Rat.add_zero]
                exact this
              case measure => simp [intOf]; omega
          · rw [hde] at H2 H3
            by_cases hless : P < D
            · rw [if_pos hless] at hft
              have g2 := cmp_lt0 hless
              have HFT := hide hft
              generalize cmpR E u = C1 at *
              generalize cmpR P D = C2 at *
              clear hft hless hde
              obtain ⟨M, hM⟩ : ∃ M, M = T ((P + D) / 2) := ⟨_, rfl⟩
              obtain ⟨K, hK⟩ : ∃ M, M = T (Q * (D - P)) := ⟨_, rfl⟩
              rw [← hM, ← hK] at H3 HCL
              clear hM hK
              generalize T P = TP at *
              generalize T Q = TQ at *
              generalize T E = TE at *
              go_wp2_with fail
              refine (H1.out _ (Nat.le_trans hBw XF.out.2.2.size) (HTw.out.on XF.out.2.2 hBw)).mono ?_
              rintro e w1 ⟨rfl, hb1⟩
              have G1 := hide (below_blk hb1 XF.out.1 (lt_blk XF.out.1))
              have HB1 := hide (XF.out.2.2.trans (hb1.mono XF.out.2.2.size))
              have G2 := hide (set_spr G1.out U)
              have HB2 := hide (HB1.out.setCell (p := ⟨wp.heap.size, 1, none⟩) (Nat.le_refl _) (.string U))
              have f1 := froz_blk G1.out 1
              have q1 := cell_blk G1.out 1
              have ql := lt_blk G1.out
              clear hb1 c1 c2 c3 hkw XF G1
              obtain ⟨w2, hw2⟩ : ∃ w, w = w1.setCell ⟨wp.heap.size, 1, none⟩ (.string U) := ⟨_, rfl⟩
              rw [← hw2] at G2 HB2
              have q0 := cell_blk G2.out 0
              have q2 := cell_blk G2.out 1
              have q3 := cell_blk G2.out 2
              have ql2 := lt_blk G2.out
              have hsub : w1.setCell ⟨wp.heap.size, 1, none⟩ (.string U) = w2 := hw2.symm
              clear hw2
              go_wp2_with fail
              clear hsub q1 f1 ql
              refine (H2.out _ (Nat.le_trans hBw HB2.out.size) (HTw.out.on HB2.out hBw)).mono ?_
              rintro e w3 ⟨rfl, hb3⟩
              have G3 := hide (below_blk hb3 G2.out (lt_blk G2.out))
              have HB3 := hide (HB2.out.trans (hb3.mono HB2.out.size))
              clear hb3 q0 q2 q3 ql2
              have q0 := cell_blk G3.out 0
              have q1 := cell_blk G3.out 1
              have q2 := cell_blk G3.out 2
              have ql := lt_blk G3.out
              go_wp2_with fail
              refine (H3.out _ (Nat.le_trans hBw HB3.out.size) (HTw.out.on HB3.out hBw)).mono ?_
              rintro e w4 ⟨rfl, hb4⟩
              have HB4 := hide (HB3.out.trans (hb4.mono HB3.out.size))
              clear hb4 q0 q1 q2 ql
              go_wp2_with fail
              refine (HCL.out _ (hin.out.only.trans (only_of HB4.out)) (below_blk HB4.out hin.out.box (lt_blk hin.out.box)) hin.out.gr).mono ?_
              rintro e w5 ⟨⟨v, rfl⟩, ho2, hb2⟩
              have HI := hide (hin.out.step HB4.out ho2 hb2 (gr_snoc hin.out.gr (HG.out _ _ HPN.out)) hl0)
              clear ho2 hb2
              go_wp2_with fail
              go_roundw
              case rel =>
                refine ⟨j + 1, by omega, by simp, ?_⟩
                have := HI.out
                rw [HSTEP.out, HFT.out, ← Rat.add_assoc]
                exact this
              case measure => simp [intOf]; omega
            · rw [if_neg hless] at hft
              have g2 := cmp_nneg (Rat.not_lt.1 hless)
              have HFT := hide hft
              generalize cmpR E u = C1 at *
              generalize cmpR P D = C2 at *
              clear hft hless hde
              generalize T P = TP at *
              generalize T Q = TQ at *
              generalize T E = TE at *
              go_wp2_with fail
              refine (H1.out _ (Nat.le_trans hBw XF.out.2.2.size) (HTw.out.on XF.out.2.2 hBw)).mono ?_
              rintro e w1 ⟨rfl, hb1⟩
              have G1 := hide (below_blk hb1 XF.out.1 (lt_blk XF.out.1))
              have HB1 := hide (XF.out.2.2.trans (hb1.mono XF.out.2.2.size))
              have G2 := hide (set_spr G1.out U)
              have HB2 := hide (HB1.out.setCell (p := ⟨wp.heap.size, 1, none⟩) (Nat.le_refl _) (.string U))
              have f1 := froz_blk G1.out 1
              have q1 := cell_blk G1.out 1
              have ql := lt_blk G1.out
              clear hb1 c1 c2 c3 hkw XF G1
              obtain ⟨w2, hw2⟩ : ∃ w, w = w1.setCell ⟨wp.heap.size, 1, none⟩ (.string U) := ⟨_, rfl⟩
              rw [← hw2] at G2 HB2
              have q0 := cell_blk G2.out 0
              have q2 := cell_blk G2.out 1
              have q3 := cell_blk G2.out 2
              have ql2 := lt_blk G2.out
              have hsub : w1.setCell ⟨wp.heap.size, 1, none⟩ (.string U) = w2 := hw2.symm
              clear hw2
              go_wp2_with fail
              clear hsub q1 f1 ql
              refine (H2.out _ (Nat.le_trans hBw HB2.out.size) (HTw.out.on HB2.out hBw)).mono ?_
              rintro e w3 ⟨rfl, hb3⟩
              have G3 := hide (below_blk hb3 G2.out (lt_blk G2.out))
              have HB3 := hide (HB2.out.trans (hb3.mono HB2.out.size))
              clear hb3 q0 q2 q3 ql2
              go_wp2_with fail
              go_roundw
              case rel =>
                refine ⟨j + 1, by omega, by simp, ?_⟩
                have := hin.out.keep HB3.out
                rw [HSTEP.out, HFT.out, Rat.add_zero]
                exact this
              case measure => simp [intOf]; omega
        · obtain rfl : j = n2 := by omega
          have hji : ((j : Int) < (j : Int)) = False := eq_false (by omega)
          have hal : b.S.take j = b.S := List.take_of_length_le (by rw [HN2.out]; omega)
          have hin2 := hin.out
          rw [hal] at hin2
          have HF := hide hin2
          clear hin hin2 hal hlt
          go_wp2_with fail
          refine bodyPost_end (results_none rfl _ _ _) rfl ?_
          refine ⟨⟨_, rfl⟩, HF.out.only, ?_⟩
          rw [HF.out.box, HX1.out]
          unfold foldB
          rw [Rat.add_assoc]
end Go.Proofs.YtpmnhipffkhcpaaGreatDoor
