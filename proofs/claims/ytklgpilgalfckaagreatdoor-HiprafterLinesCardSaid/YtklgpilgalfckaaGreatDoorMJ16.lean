/-
  Texts laid together.
-/
import Derived.Test.YtklgpilgalfckaaGreatDoorMJ15
import Derived.Test.YtklgpilgalfckaaGreatDoorMJ1
import Derived.Test.YtklgpilgalfckaaGreatDoorMJ3
import Derived.Shelf.Abstract
set_option maxRecDepth 100000
set_option maxHeartbeats 16000000
namespace Go.Proofs.YtklgpilgalfckaaGreatDoor
open Go.RowKit Go.KP Go.KI Go.Shelf
attribute [local go_sem] Oper.semAt_some

structure Ln where
  k : Int
  a : S3
  b : S3
  l : Int
  r : Int
abbrev lnCs (L : Ln) : List Value := [.int .i64 L.k, .string L.a.x, .string L.a.y, .string L.a.z, .string L.b.x, .string L.b.y, .string L.b.z, .int .i64 L.l, .int .i64 L.r]
abbrev lnV (L : Ln) : Value := .agg #[.int .i64 L.k, .string L.a.x, .string L.a.y, .string L.a.z, .string L.b.x, .string L.b.y, .string L.b.z, .int .i64 L.l, .int .i64 L.r]
abbrev lnO (L : Ln) : Obj := .cells #[.int .i64 L.k, .string L.a.x, .string L.a.y, .string L.a.z, .string L.b.x, .string L.b.y, .string L.b.z, .int .i64 L.l, .int .i64 L.r] 30
def tinyL (L : Ln) : Prop := tiny3 L.a ∧ tiny3 L.b
def ofE (L : Ln) (wd dp : Int) : Int := if kindP L.k = 0 then 8 else memE (kindP L.k) L.l L.r L.a L.b wd dp
def ofV (L : Ln) (wd dp : Int) : Value := if ofE L wd dp = 0 then memTV (kindP L.k) L.l L.r L.a L.b wd dp else mem0V
theorem of_ways (L : Ln) (wd dp : Int) : (kindP L.k = 0 ∧ ofE L wd dp = 8 ∧ ofV L wd dp = mem0V) ∨
    (kindP L.k ≠ 0 ∧ ofE L wd dp = memE (kindP L.k) L.l L.r L.a L.b wd dp ∧ ((memE (kindP L.k) L.l L.r L.a L.b wd dp ≠ 0 ∧ ofV L wd dp = mem0V) ∨
      (memE (kindP L.k) L.l L.r L.a L.b wd dp = 0 ∧ ofV L wd dp = memTV (kindP L.k) L.l L.r L.a L.b wd dp))) := by
  unfold ofV ofE
  by_cases h : kindP L.k = 0
  · rw [if_pos h]
    exact .inl ⟨h, rfl, if_neg (by decide)⟩
  · rw [if_neg h]
    by_cases h2 : memE (kindP L.k) L.l L.r L.a L.b wd dp = 0
    · exact .inr ⟨h, rfl, .inr ⟨h2, if_pos h2⟩⟩
    · exact .inr ⟨h, rfl, .inl ⟨h2, if_neg h2⟩⟩
theorem hOf_any (L : Ln) (wd dp : Int) (h : tinyL L) (B : Nat) (w : World) (hB : B ≤ w.heap.size) (hT : PQ B w) :
    Calls Tryz.prog 8 #[lnV L, .int .i64 wd, .int .i64 dp] w (Ret w (.tuple #[ofV L wd dp, .int .i64 (ofE L wd dp)])) := by
  have HT := hide hT
  have HK := hide (fun w => hkindOf_any L.k w)
  have HC := hide (fun w hB hT => hCheck_any (kindP L.k) L.l L.r L.a L.b wd dp h.1 h.2 B w hB hT)
  have hw := of_ways L wd dp
  obtain ⟨E, hE⟩ : ∃ E, E = ofE L wd dp := ⟨_, rfl⟩
  obtain ⟨V, hV⟩ : ∃ V, V = ofV L wd dp := ⟨_, rfl⟩
  obtain ⟨k, hkk⟩ : ∃ k, k = kindP L.k := ⟨_, rfl⟩
  rw [← hE, ← hV, ← hkk] at hw
  rw [← hkk] at HK HC
  rw [← hE, ← hV]
  obtain ⟨c, hc⟩ : ∃ c, c = memE k L.l L.r L.a L.b wd dp := ⟨_, rfl⟩
  rw [← hc] at HC hw
  have X0 := hide (heap2 w (lnO L) mem0)
  clear hE hV hkk hc h hT
  rcases hw with ⟨rfl, rfl, rfl⟩ | ⟨hk, rfl, hw⟩
  · go_enter Tryz.func8, Tryz.ntmps8
    go_wp2_with fail
    refine (HK.out _).mono ?_
    rintro e w1 ⟨rfl, hb1⟩
    have G2 := hide (below_blk hb1 X0.out.2.1 (lt_blk X0.out.2.1))
    have HB1 := hide (X0.out.2.2.2.trans (hb1.mono X0.out.2.2.2.size))
    clear hb1
    have d := fun o => cell_blk G2.out o
    have f := fun o => froz_blk G2.out o
    have l4 := lt_blk G2.out
    go_wp2_with fail
    exact exit_memE rfl (put11_at G2.out _ _ _ _ _ _ _ _ _ _ _) rfl rfl rfl ⟨rfl, put11_below HB1.out (show w.heap.size ≤ w.heap.size + 1 by omega) _ _ _ _ _ _ _ _ _ _ _⟩
  · have HK := hide (fun w => decide_eq_true hk ▸ HK.out w)
    rcases hw with ⟨hc, rfl⟩ | ⟨rfl, rfl⟩
    all_goals
      go_enter Tryz.func8, Tryz.ntmps8
      go_wp2_with fail
      refine (HK.out _).mono ?_
      rintro e w1 ⟨rfl, hb1⟩
      have G1 := hide (below_blk hb1 X0.out.1 (lt_blk X0.out.1))
      have G2 := hide (below_blk hb1 X0.out.2.1 (lt_blk X0.out.2.1))
      have HB1 := hide (X0.out.2.2.2.trans (hb1.mono X0.out.2.2.2.size))
      clear hb1
      have k1 := cell_blk G1.out 1
      have k2 := cell_blk G1.out 2
      have k3 := cell_blk G1.out 3
      have k4 := cell_blk G1.out 4
      have k5 := cell_blk G1.out 5
      have k6 := cell_blk G1.out 6
      have k7 := cell_blk G1.out 7
      have k8 := cell_blk G1.out 8
      have l1 := lt_blk G1.out
      go_wp2_with fail
      have X1 := hide (heap1 w1 (memTO k L.l L.r L.a L.b wd dp))
      have HB2 := hide (HB1.out.trans (X1.out.2.2.mono HB1.out.size))
      refine (HC.out _ (Nat.le_trans hB HB2.out.size) (HT.out.on HB2.out hB)).mono ?_
      rintro e w3 ⟨rfl, hb3⟩
      have G3 := hide (below_blk hb3 X1.out.1 (lt_blk X1.out.1))
      have G4 := hide (below_blk hb3 (below_blk X1.out.2.2 G2.out (lt_blk G2.out)) (Nat.lt_of_lt_of_le (lt_blk G2.out) X1.out.2.2.size))
      have HB3 := hide (HB2.out.trans (hb3.mono HB2.out.size))
      clear hb3 k1 k2 k3 k4 k5 k6 k7 k8 l1 G1 G2
      have c := fun o => cell_blk G3.out o
      have l3 := lt_blk G3.out
      have d := fun o => cell_blk G4.out o
      have f := fun o => froz_blk G4.out o
      have l4 := lt_blk G4.out
      go_wp2_with fail
      exact exit_memE rfl (put11_at G4.out _ _ _ _ _ _ _ _ _ _ _) rfl rfl rfl ⟨rfl, put11_below HB3.out (show w.heap.size ≤ w.heap.size + 1 by omega) _ _ _ _ _ _ _ _ _ _ _⟩
theorem r28kind_at (k : Int) (a b : S3) (l r : Int) (w : World) : Calls Tryz.prog 34 #[lnV ⟨k, a, b, l, r⟩] w (Ret w (.int .i64 (kindP k))) := by
  unfold kindP
  by_cases h1 : k = 1
  · subst h1
    rw [if_pos rfl]
    have X0 := hide (heap1 w (lnO ⟨1, a, b, l, r⟩))
    go_enter Tryz.func34, Tryz.ntmps34
    go_wp2_with fail
    go_ret
    exact ⟨rfl, X0.out.2.2⟩
  · rw [if_neg h1]
    by_cases h2 : k = 2
    · subst h2
      rw [if_pos rfl]
      have X0 := hide (heap1 w (lnO ⟨2, a, b, l, r⟩))
      clear h1
      go_enter Tryz.func34, Tryz.ntmps34
      go_wp2_with fail
      go_ret
      exact ⟨rfl, X0.out.2.2⟩
    · rw [if_neg h2]
      by_cases h3 : k = 3
      · subst h3
        rw [if_pos rfl]
        have X0 := hide (heap1 w (lnO ⟨3, a, b, l, r⟩))
        clear h1 h2
        go_enter Tryz.func34, Tryz.ntmps34
        go_wp2_with fail
        go_ret
        exact ⟨rfl, X0.out.2.2⟩
      · rw [if_neg h3]
        have X0 := hide (heap1 w (lnO ⟨k, a, b, l, r⟩))
        have g1 : (k == 1) = false := by simpa using h1
        have g2 : (k == 2) = false := by simpa using h2
        have g3 : (k == 3) = false := by simpa using h3
        clear h1 h2 h3
        go_enter Tryz.func34, Tryz.ntmps34
        go_wp2_with fail
        go_ret
        exact ⟨rfl, X0.out.2.2⟩
theorem r28kind_any (L : Ln) (w : World) : Calls Tryz.prog 34 #[lnV L] w (Ret w (.int .i64 (kindP L.k))) := r28kind_at L.k L.a L.b L.l L.r w
theorem r28Of_any (L : Ln) (wd dp : Int) (h : tinyL L) (B : Nat) (w : World) (hB : B ≤ w.heap.size) (hT : PQ B w) :
    Calls Tryz.prog 9 #[lnV L, .int .i64 wd, .int .i64 dp] w (Ret w (.tuple #[ofV L wd dp, .int .i64 (ofE L wd dp)])) := by
  have HT := hide hT
  have HK := hide (fun w => r28kind_any L w)
  have HC := hide (fun w hB hT => r28Check_any (kindP L.k) L.l L.r L.a L.b wd dp h.1 h.2 B w hB hT)
  have hw := of_ways L wd dp
  obtain ⟨E, hE⟩ : ∃ E, E = ofE L wd dp := ⟨_, rfl⟩
  obtain ⟨V, hV⟩ : ∃ V, V = ofV L wd dp := ⟨_, rfl⟩
  obtain ⟨k, hkk⟩ : ∃ k, k = kindP L.k := ⟨_, rfl⟩
  rw [← hE, ← hV, ← hkk] at hw
  rw [← hkk] at HK HC
  rw [← hE, ← hV]
  obtain ⟨c, hc⟩ : ∃ c, c = memE k L.l L.r L.a L.b wd dp := ⟨_, rfl⟩
  rw [← hc] at HC hw
  have X0 := hide (heap2 w (lnO L) mem0)
  clear hE hV hkk hc h hT
  rcases hw with ⟨rfl, rfl, rfl⟩ | ⟨hk, rfl, hw⟩
  · go_enter Tryz.func9, Tryz.ntmps9
    go_wp2_with fail
    refine (HK.out _).mono ?_
    rintro e w1 ⟨rfl, hb1⟩
    have G2 := hide (below_blk hb1 X0.out.2.1 (lt_blk X0.out.2.1))
    have HB1 := hide (X0.out.2.2.2.trans (hb1.mono X0.out.2.2.2.size))
    clear hb1
    have d := fun o => cell_blk G2.out o
    have f := fun o => froz_blk G2.out o
    have l4 := lt_blk G2.out
    go_wp2_with fail
    exact exit_memE rfl (put11_at G2.out _ _ _ _ _ _ _ _ _ _ _) rfl rfl rfl ⟨rfl, put11_below HB1.out (show w.heap.size ≤ w.heap.size + 1 by omega) _ _ _ _ _ _ _ _ _ _ _⟩
  · rcases hw with ⟨hc, rfl⟩ | ⟨rfl, rfl⟩
    all_goals
      go_enter Tryz.func9, Tryz.ntmps9
      go_wp2_with fail
      refine (HK.out _).mono ?_
      rintro e w1 ⟨rfl, hb1⟩
      have G1 := hide (below_blk hb1 X0.out.1 (lt_blk X0.out.1))
      have G2 := hide (below_blk hb1 X0.out.2.1 (lt_blk X0.out.2.1))
      have HB1 := hide (X0.out.2.2.2.trans (hb1.mono X0.out.2.2.2.size))
      clear hb1
      have k1 := cell_blk G1.out 1
      have k2 := cell_blk G1.out 2
      have k3 := cell_blk G1.out 3
      have k4 := cell_blk G1.out 4
      have k5 := cell_blk G1.out 5
      have k6 := cell_blk G1.out 6
      have k7 := cell_blk G1.out 7
      have k8 := cell_blk G1.out 8
      have l1 := lt_blk G1.out
      have hkF : (k == 0) = false := by simpa using hk
      go_wp2_with fail
      have X1 := hide (heap1 w1 (memTO k L.l L.r L.a L.b wd dp))
      have HB2 := hide (HB1.out.trans (X1.out.2.2.mono HB1.out.size))
      refine (HC.out _ (Nat.le_trans hB HB2.out.size) (HT.out.on HB2.out hB)).mono ?_
      rintro e w3 ⟨rfl, hb3⟩
      have G3 := hide (below_blk hb3 X1.out.1 (lt_blk X1.out.1))
      have G4 := hide (below_blk hb3 (below_blk X1.out.2.2 G2.out (lt_blk G2.out)) (Nat.lt_of_lt_of_le (lt_blk G2.out) X1.out.2.2.size))
      have HB3 := hide (HB2.out.trans (hb3.mono HB2.out.size))
      clear hb3 k1 k2 k3 k4 k5 k6 k7 k8 l1 G1 G2
      have c := fun o => cell_blk G3.out o
      have l3 := lt_blk G3.out
      have d := fun o => cell_blk G4.out o
      have f := fun o => froz_blk G4.out o
      have l4 := lt_blk G4.out
      go_wp2_with fail
      exact exit_memE rfl (put11_at G4.out _ _ _ _ _ _ _ _ _ _ _) rfl rfl rfl ⟨rfl, put11_below HB3.out (show w.heap.size ≤ w.heap.size + 1 by omega) _ _ _ _ _ _ _ _ _ _ _⟩
end Go.Proofs.YtklgpilgalfckaaGreatDoor
namespace Go.KI
open Go

abbrev Sz3 := Int × Int × Int
def pickS (S : List Sz3) (k : Int) : Option (Int × Int) := if k = 0 then none else (S.find? (fun s => s.1 = k)).map (·.2)
def sizeOK (s : Sz3) : Bool := decide (1 ≤ s.1 ∧ s.1 ≤ 12) && decide (1 ≤ s.2.1 ∧ s.2.1 ≤ 1000) && decide (1 ≤ s.2.2 ∧ s.2.2 ≤ 1000)
def validFrom : List Sz3 → List Sz3 → Bool
  | _, [] => true
  | P, s :: r => sizeOK s && !(P.any (fun x => x.1 = s.1)) && validFrom (P ++ [s]) r
def validS (S : List Sz3) : Bool := validFrom [] S
theorem validFrom_false {P R : List Sz3} {s : Sz3} (h : sizeOK s = false ∨ P.any (fun x => x.1 = s.1) = true) : validFrom P (s :: R) = false := by
  unfold validFrom
  rcases h with h | h <;> rw [h] <;> simp
theorem validFrom_true {P R : List Sz3} {s : Sz3} (h1 : sizeOK s = true) (h2 : P.any (fun x => x.1 = s.1) = false) : validFrom P (s :: R) = validFrom (P ++ [s]) R := by
  conv => lhs; unfold validFrom
  rw [h1, h2]
  rfl
def once (S : List Sz3) : Prop := S.Pairwise (fun a b => a.1 ≠ b.1)
theorem valid_once {S : List Sz3} : ∀ {P : List Sz3}, once P → validFrom P S = true → once (P ++ S) := by
  induction S with
  | nil => intro P h _; rw [List.append_nil]; exact h
  | cons s r ih =>
    intro P hP h
    unfold validFrom at h
    simp only [Bool.and_eq_true, Bool.not_eq_true'] at h
    obtain ⟨⟨_, h2⟩, h3⟩ := h
    have hs : once (P ++ [s]) := by
      unfold once
      rw [List.pairwise_append]
      refine ⟨hP, List.pairwise_singleton _ _, fun a ha b hb => ?_⟩
      rw [List.mem_singleton.1 hb]
      have := List.any_eq_false.1 h2 a ha
      simpa using this
    have := ih hs h3
    rwa [List.append_assoc] at this
theorem filter_once {S : List Sz3} (h : once S) (k : Int) : S.filter (fun s => s.1 = k) = (S.find? (fun s => s.1 = k)).toList := by
  induction S with
  | nil => rfl
  | cons s r ih =>
    unfold once at h
    rw [List.pairwise_cons] at h
    by_cases hs : s.1 = k
    · have hr : r.filter (fun s => s.1 = k) = [] := by
        rw [List.filter_eq_nil_iff]
        intro a ha
        have := h.1 a ha
        rw [hs] at this
        simpa using Ne.symm this
      rw [List.filter_cons, List.find?_cons]
      simp [hs, hr]
    · rw [List.filter_cons, List.find?_cons]
      simp only [hs, decide_false, if_false, Bool.false_eq_true]
      exact ih h.2
section
variable {L M : Type} (pk : L → Option (Int × Int)) (er : L → Int × Int → Int) (mk : L → Int × Int → M)
def errA : List L → Int
  | [] => 0
  | l :: r => match pk l with
    | none => errA r
    | some s => if er l s ≠ 0 then er l s else errA r
def outA : List L → List M
  | [] => []
  | l :: r => match pk l with
    | none => outA r
    | some s => mk l s :: outA r
theorem outA_cons (x : L) (r : List L) : outA pk mk (x :: r) = match pk x with
    | none => outA pk mk r
    | some s => mk x s :: outA pk mk r := rfl
theorem errA_cons (x : L) (r : List L) : errA pk er (x :: r) = match pk x with
    | none => errA pk er r
    | some s => if er x s ≠ 0 then er x s else errA pk er r := rfl
theorem outA_append (a b : List L) : outA pk mk (a ++ b) = outA pk mk a ++ outA pk mk b := by
  induction a with
  | nil => rfl
  | cons x r ih =>
    rw [List.cons_append, outA_cons, outA_cons]
    cases pk x with
    | none => exact ih
    | some s =>
      show mk x s :: outA pk mk (r ++ b) = mk x s :: outA pk mk r ++ outA pk mk b
      rw [ih]
      rfl
theorem errA_append {a : List L} (h : errA pk er a = 0) (b : List L) : errA pk er (a ++ b) = errA pk er b := by
  induction a with
  | nil => rfl
  | cons x r ih =>
    rw [errA_cons] at h
    rw [List.cons_append, errA_cons]
    cases hx : pk x with
    | none => rw [hx] at h; exact ih h
    | some s =>
      rw [hx] at h
      by_cases he : er x s ≠ 0
      · exact absurd ((if_pos he).symm.trans h) he
      · exact (if_neg he).trans (ih ((if_neg he).symm.trans h))
theorem outA_none {l : L} (h : pk l = none) : outA pk mk [l] = [] := by
  unfold outA
  rw [h]
  rfl
theorem outA_some {l : L} {s : Int × Int} (h : pk l = some s) : outA pk mk [l] = [mk l s] := by
  unfold outA
  rw [h]
  rfl
theorem errA_none {l : L} {r : List L} (h : pk l = none) : errA pk er (l :: r) = errA pk er r := by
  conv => lhs; unfold errA
  rw [h]
theorem errA_bad {l : L} {r : List L} {s : Int × Int} (h : pk l = some s) (he : er l s ≠ 0) : errA pk er (l :: r) = er l s := by
  conv => lhs; unfold errA
  rw [h]
  exact if_pos he
theorem errA_good {l : L} {r : List L} {s : Int × Int} (h : pk l = some s) (he : er l s = 0) : errA pk er (l :: r) = errA pk er r := by
  conv => lhs; unfold errA
  rw [h]
  exact if_neg (fun g => g he)
theorem outA_le (l : List L) : (outA pk mk l).length ≤ l.length := by
  induction l with
  | nil => exact Nat.le_refl _
  | cons x r ih =>
    unfold outA
    split
    · rw [List.length_cons]; omega
    · rw [List.length_cons, List.length_cons]; omega
theorem outA_mem {l : List L} {m : M} (h : m ∈ outA pk mk l) : ∃ x s, x ∈ l ∧ pk x = some s ∧ m = mk x s := by
  induction l with
  | nil => cases h
  | cons x r ih =>
    unfold outA at h
    split at h
    · obtain ⟨y, s, h1, h2, h3⟩ := ih h
      exact ⟨y, s, by simp [h1], h2, h3⟩
    · next s hs =>
      rcases List.mem_cons.1 h with e | e
      · exact ⟨x, s, by simp, hs, e⟩
      · obtain ⟨y, t, h1, h2, h3⟩ := ih e
        exact ⟨y, t, by simp [h1], h2, h3⟩
end
end Go.KI
namespace Go.Proofs.YtklgpilgalfckaaGreatDoor
open Go.RowKit Go.KP Go.KI Go.Shelf
attribute [local go_sem] Oper.semAt_some

def idxF {α : Type} (p : α → Bool) : Nat → List α → Int
  | _, [] => -1
  | k, x :: r => if p x then (k : Int) else idxF p (k + 1) r
theorem idxF_any {α : Type} (p : α → Bool) : ∀ (l : List α) (k : Nat), decide (0 ≤ idxF p k l) = l.any p := by
  intro l
  induction l with
  | nil => intro k; rfl
  | cons x r ih =>
    intro k
    unfold idxF
    cases h : p x
    · simp [ih, h]
    · simp [h]
def AnswersZ (g : Nat) (lb : Array Value) (p : Sz3 → Bool) (w : World) : Prop :=
  (∀ args W, (callFunc g args).run Tryz.prog W = .ok (.enter g args) W) ∧
  ∀ (x : Sz3) W, Below w.heap.size w W → Calls Tryz.prog g (#[.agg #[.int .i64 x.1, .int .i64 x.2.1, .int .i64 x.2.2]] ++ lb) W (Ret W (.bool (p x)))
abbrev zAt (S : List Sz3) (k : Nat) : Sz3 := S.getD k (0, 0, 0)
def SizesAt (w : World) (A : Option Addr) (S : List Sz3) : Prop := ∀ k, k < S.length → ∃ b o, A = some ⟨b, o, none⟩ ∧ b < w.heap.size ∧ w.cell? ⟨b, o + k * 3, none⟩ = some (.int .i64 (zAt S k).1) ∧ w.cell? ⟨b, o + k * 3 + 1, none⟩ = some (.int .i64 (zAt S k).2.1) ∧ w.cell? ⟨b, o + k * 3 + 2, none⟩ = some (.int .i64 (zAt S k).2.2)
theorem SizesAt.on {w w2 : World} {A : Option Addr} {S : List Sz3} (h : SizesAt w A S) (hb : Below w.heap.size w w2) : SizesAt w2 A S := by
  intro k hk
  obtain ⟨b, o, h1, h2, h3, h4, h5⟩ := h k hk
  exact ⟨b, o, h1, Nat.lt_of_lt_of_le h2 hb.size, (hb.cell (p := ⟨b, o + k * 3, none⟩) h2).trans h3, (hb.cell (p := ⟨b, o + k * 3 + 1, none⟩) h2).trans h4, (hb.cell (p := ⟨b, o + k * 3 + 2, none⟩) h2).trans h5⟩
theorem SizesAt.take {w : World} {A : Option Addr} {S : List Sz3} (h : SizesAt w A S) (n : Nat) : SizesAt w A (S.take n) := by
  intro k hk
  rw [List.length_take] at hk
  have e : zAt (S.take n) k = zAt S k := by
    simp only [zAt, List.getD_eq_getElem?_getD]
    rw [List.getElem?_take_of_lt (by omega)]
  rw [e]
  exact h k (by omega)
theorem zIndex_any (g : Nat) (lb : Array Value) (p : Sz3 → Bool) (A : Option Addr) (n c : Nat) (S : List Sz3) (w : World) (hn : S.length = n) (hmax : n ≤ 1000000) (hc : SizesAt w A S) (hf : AnswersZ g lb p w) :
    Calls Tryz.prog 73 #[.slice A n c, .func (.func g) #[] lb] w (Ret w (.int .i64 (idxF p 0 S))) := by
  obtain ⟨eg, hp⟩ := hf
  have HC := hide hc; have HP := hide hp; have HN := hide hn
  have HI := hide (show idxF p 0 S = idxF p 0 (S.drop 0) from rfl)
  obtain ⟨V, hV⟩ : ∃ V, V = idxF p 0 S := ⟨_, rfl⟩
  rw [← hV] at HI ⊢
  clear hc hp hn hV
  go_enter Tryz.func73, Tryz.ntmps73
  go_wp2_with fail
  go_loopw [8] (fun i wr => ∃ k : Nat, k ≤ n ∧ i = .int .i64 k ∧ Below w.heap.size w wr ∧ Hid (V = idxF p k (S.drop k))) (fun i _ => n - (intOf i).toNat)
  case atStart => exact ⟨0, Nat.zero_le _, rfl, Below.refl _ _, HI⟩
  case round =>
    obtain ⟨k, hk, rfl, hb, hinv⟩ := hrel
    by_cases hlt : k < n
    · obtain ⟨b, o, rfl, hbl, hc1, hc2, hc3⟩ := HC.out k (by rw [HN.out]; exact hlt)
      have r1 := (hb.cell (p := ⟨b, o + k * 3, none⟩) hbl).trans hc1
      have r2 := (hb.cell (p := ⟨b, o + k * 3 + 1, none⟩) hbl).trans hc2
      have r3 := (hb.cell (p := ⟨b, o + k * 3 + 2, none⟩) hbl).trans hc3
      have hst : idxF p k (S.drop k) = if p (zAt S k) then (k : Int) else idxF p (k + 1) (S.drop (k + 1)) := by
        have hl : k < S.length := by rw [HN.out]; exact hlt
        rw [List.drop_eq_getElem_cons hl]
        simp [idxF, zAt, hl]
      have HS := hide hst
      clear hst hc1 hc2 hc3
      obtain ⟨z, hz⟩ : ∃ z, z = zAt S k := ⟨_, rfl⟩
      rw [← hz] at r1 r2 r3 HS
      clear hz
      cases hx : p z
      all_goals
        have HX := hide hx
        clear hx
        go_wp2_with fail
        refine (HP.out z wr hb).mono ?_
        rintro e w2 ⟨rfl, hb2⟩
        have HB2 := hide (hb.trans (hb2.mono hb.size))
        clear hb2
        rw [HX.out]
        go_wp2_with fail
      · go_roundw
        case rel => exact ⟨k + 1, by omega, by go_num, HB2.out, by have h := hinv.out; rw [HS.out, HX.out] at h; exact h⟩
        case measure => simp [intOf]; omega
      · go_ret
        refine ⟨?_, HB2.out⟩
        have h := hinv.out
        rw [HS.out, HX.out] at h
        rw [h]
        rfl
    · obtain rfl : k = n := by omega
      go_wp2_with fail
      go_ret
      refine ⟨?_, hb⟩
      have h := hinv.out
      rw [List.drop_of_length_le (by have := HN.out; omega)] at h
      rw [h]
      rfl
theorem zContains_any (g : Nat) (lb : Array Value) (p : Sz3 → Bool) (A : Option Addr) (n c : Nat) (S : List Sz3) (w : World) (hn : S.length = n) (hmax : n ≤ 1000000) (hc : SizesAt w A S) (hf : AnswersZ g lb p w) :
    Calls Tryz.prog 70 #[.slice A n c, .func (.func g) #[] lb] w (Ret w (.bool (S.any p))) := by
  have HX := hide (zIndex_any g lb p A n c S w hn hmax hc hf)
  clear hn hc hf
  have HA := hide (idxF_any p S 0)
  obtain ⟨q, hq⟩ : ∃ q, q = idxF p 0 S := ⟨_, rfl⟩
  rw [← hq] at HX HA
  clear hq
  go_enter Tryz.func70, Tryz.ntmps70
  go_wp2_with fail
  refine HX.out.mono ?_
  rintro e w1 ⟨rfl, hb1⟩
  go_wp2_with fail
  go_ret
  refine ⟨?_, hb1⟩
  rw [← HA.out]
  rfl
abbrev szO (s : Sz3) : Obj := .cells #[.int .i64 s.1, .int .i64 s.2.1, .int .i64 s.2.2] 59
theorem valid1_at (b : Nat) (s x : Sz3) (w : World) (h : w.heap[b]? = some (szO s)) :
    Calls Tryz.prog 71 #[.agg #[.int .i64 x.1, .int .i64 x.2.1, .int .i64 x.2.2], .pointer (some ⟨b, 0, none⟩)] w (Ret w (.bool (decide (x.1 = s.1)))) := by
  have X0 := hide (heap1 w (szO x))
  have G := hide (below_blk X0.out.2.2 h (lt_blk h))
  have c0 := cell_blk G.out 0
  have l0 := lt_blk G.out
  clear h
  go_enter Tryz.func71, Tryz.ntmps71
  go_wp2_with fail
  go_ret
  refine ⟨?_, X0.out.2.2⟩
  simp
  rfl
theorem valid1_answers (b : Nat) (s : Sz3) (w : World) (h : w.heap[b]? = some (szO s)) : AnswersZ 71 #[.pointer (some ⟨b, 0, none⟩)] (fun x => decide (x.1 = s.1)) w :=
  ⟨enters_of Tryz.func71 (by kernel_rfl) rfl, fun x W hb => valid1_at b s x W (below_blk hb h (lt_blk h))⟩
open Go.RowKit Go.KP Go.KI Go.Shelf
attribute [local go_sem] Oper.semAt_some

theorem size_ways (P R : List Sz3) (s : Sz3) :
    ((s.1 < 1 ∨ (¬ s.1 < 1 ∧ 12 < s.1)) ∧ validFrom P (s :: R) = false) ∨
    (1 ≤ s.1 ∧ s.1 ≤ 12 ∧ (s.2.1 < 1 ∨ (¬ s.2.1 < 1 ∧ 1000 < s.2.1)) ∧ validFrom P (s :: R) = false) ∨
    (1 ≤ s.1 ∧ s.1 ≤ 12 ∧ 1 ≤ s.2.1 ∧ s.2.1 ≤ 1000 ∧ (s.2.2 < 1 ∨ (¬ s.2.2 < 1 ∧ 1000 < s.2.2)) ∧ validFrom P (s :: R) = false) ∨
    (1 ≤ s.1 ∧ s.1 ≤ 12 ∧ 1 ≤ s.2.1 ∧ s.2.1 ≤ 1000 ∧ 1 ≤ s.2.2 ∧ s.2.2 ≤ 1000 ∧ ((P.any (fun x => decide (x.1 = s.1)) = true ∧ validFrom P (s :: R) = false) ∨ (P.any (fun x => decide (x.1 = s.1)) = false ∧ validFrom P (s :: R) = validFrom (P ++ [s]) R))) := by
  by_cases h : sizeOK s = true
  · have h' := h
    unfold sizeOK at h
    simp only [Bool.and_eq_true, decide_eq_true_eq] at h
    obtain ⟨⟨⟨h1, h2⟩, h3, h4⟩, h5, h6⟩ := h
    refine .inr (.inr (.inr ⟨h1, h2, h3, h4, h5, h6, ?_⟩))
    cases hp : P.any (fun x => decide (x.1 = s.1))
    · exact .inr ⟨rfl, validFrom_true h' hp⟩
    · exact .inl ⟨rfl, validFrom_false (.inr hp)⟩
  · have hf : sizeOK s = false := by simpa using h
    have e := validFrom_false (P := P) (R := R) (.inl hf)
    rw [e]
    unfold sizeOK at hf
    simp only [Bool.and_eq_false_iff, decide_eq_false_iff_not] at hf
    by_cases h1 : 1 ≤ s.1 ∧ s.1 ≤ 12
    · by_cases h2 : 1 ≤ s.2.1 ∧ s.2.1 ≤ 1000
      · have h3 : ¬ (1 ≤ s.2.2 ∧ s.2.2 ≤ 1000) := by
          rcases hf with (hf | hf) | hf
          · exact absurd h1 hf
          · exact absurd h2 hf
          · exact hf
        exact .inr (.inr (.inl ⟨h1.1, h1.2, h2.1, h2.2, by omega, rfl⟩))
      · exact .inr (.inl ⟨h1.1, h1.2, by omega, rfl⟩)
    · exact .inl ⟨by omega, rfl⟩
theorem hvalid_any (A : Option Addr) (n c : Nat) (S : List Sz3) (w : World) (hn : S.length = n) (hmax : n ≤ 1000000) (hcap : n ≤ c) (hc : SizesAt w A S) :
    Calls Tryz.prog 36 #[.slice A n c] w (Ret w (.bool (validS S))) := by
  have HC := hide hc; have HN := hide hn
  have HI := hide (show validS S = validFrom (S.take 0) (S.drop 0) from rfl)
  obtain ⟨V, hV⟩ : ∃ V, V = validS S := ⟨_, rfl⟩
  rw [← hV] at HI ⊢
  clear hc hn hV
  go_enter Tryz.func36, Tryz.ntmps36
  go_wp2_with fail
  go_loopw [7] (fun i wr => ∃ k : Nat, k ≤ n ∧ i = .int .i64 k ∧ Below w.heap.size w wr ∧ Hid (V = validFrom (S.take k) (S.drop k))) (fun i _ => n - (intOf i).toNat)
  case atStart => exact ⟨0, Nat.zero_le _, rfl, Below.refl _ _, HI⟩
  case round =>
    obtain ⟨k, hk, rfl, hb, hinv⟩ := hrel
    by_cases hlt : k < n
    · obtain ⟨b, o, rfl, hbl, hc1, hc2, hc3⟩ := HC.out k (by rw [HN.out]; exact hlt)
      have r1 := (hb.cell (p := ⟨b, o + k * 3, none⟩) hbl).trans hc1
      have r2 := (hb.cell (p := ⟨b, o + k * 3 + 1, none⟩) hbl).trans hc2
      have r3 := (hb.cell (p := ⟨b, o + k * 3 + 2, none⟩) hbl).trans hc3
      have hl : k < S.length := by rw [HN.out]; exact hlt
      have hst : validFrom (S.take k) (S.drop k) = validFrom (S.take k) (zAt S k :: S.drop (k + 1)) := by
        rw [List.drop_eq_getElem_cons hl]
        simp [zAt, hl]
      have htk : S.take k ++ [zAt S k] = S.take (k + 1) := by
        rw [List.take_add_one]
        simp [zAt, hl]
      have hsw := size_ways (S.take k) (S.drop (k + 1)) (zAt S k)
      rw [← hst, htk] at hsw
      have HZ := hide (HC.out.take k)
      have HL := hide (show (S.take k).length = k by rw [List.length_take]; omega)
      clear hst htk hc1 hc2 hc3 hl
      obtain ⟨z, hz⟩ : ∃ z, z = zAt S k := ⟨_, rfl⟩
      rw [← hz] at r1 r2 r3 hsw
      clear hz
      have X0 := hide (heap1 wr (szO z))
      have HB0 := hide (hb.trans (X0.out.2.2.mono hb.size))
      rcases hsw with ⟨h1, e⟩ | ⟨h1, h2, h3, e⟩ | ⟨h1, h2, h3, h4, h5, e⟩ | ⟨h1, h2, h3, h4, h5, h6, h7⟩
      · have HO := hide (fun w => houtside_yes z.1 1 12 h1 w)
        have HE := hide e
        clear h1 e
        go_wp2_with fail
        refine (HO.out _).mono ?_
        rintro e w' ⟨rfl, rfl⟩
        go_wp2_with fail
        go_ret
        exact ⟨by rw [hinv.out, HE.out]; rfl, HB0.out⟩
      · have HO := hide (fun w => houtside_no z.1 1 12 h1 h2 w)
        have HO2 := hide (fun w => houtside_yes z.2.1 1 1000 h3 w)
        have HE := hide e
        clear h1 h2 h3 e
        go_wp2_with fail
        refine (HO.out _).mono ?_
        rintro e w' ⟨rfl, rfl⟩
        go_wp2_with fail
        refine (HO2.out _).mono ?_
        rintro e w' ⟨rfl, rfl⟩
        go_wp2_with fail
        go_ret
        exact ⟨by rw [hinv.out, HE.out]; rfl, HB0.out⟩
      · have HO := hide (fun w => houtside_no z.1 1 12 h1 h2 w)
        have HO2 := hide (fun w => houtside_no z.2.1 1 1000 h3 h4 w)
        have HO3 := hide (fun w => houtside_yes z.2.2 1 1000 h5 w)
        have HE := hide e
        clear h1 h2 h3 h4 h5 e
        go_wp2_with fail
        refine (HO.out _).mono ?_
        rintro e w' ⟨rfl, rfl⟩
        go_wp2_with fail
        refine (HO2.out _).mono ?_
        rintro e w' ⟨rfl, rfl⟩
        go_wp2_with fail
        refine (HO3.out _).mono ?_
        rintro e w' ⟨rfl, rfl⟩
        go_wp2_with fail
        go_ret
        exact ⟨by rw [hinv.out, HE.out]; rfl, HB0.out⟩
      · have HO := hide (fun w => houtside_no z.1 1 12 h1 h2 w)
        have HO2 := hide (fun w => houtside_no z.2.1 1 1000 h3 h4 w)
        have HO3 := hide (fun w => houtside_no z.2.2 1 1000 h5 h6 w)
        have HZ2 := hide (show SizesAt (wr.alloc (szO z)) (some ⟨b, o, none⟩) (S.take k) from (show SizesAt w (some ⟨b, o, none⟩) (S.take k) from HZ.out).on HB0.out)
        have HP := hide (zContains_any 71 _ _ (some ⟨b, o, none⟩) k c (S.take k) (wr.alloc (szO z)) HL.out (by omega) HZ2.out (valid1_answers wr.heap.size z _ X0.out.1))
        have HE := hide h7
        have l1 := X0.out.2.1
        clear h1 h2 h3 h4 h5 h6 h7
        go_wp2_with fail
        refine (HO.out _).mono ?_
        rintro e w' ⟨rfl, rfl⟩
        go_wp2_with fail
        refine (HO2.out _).mono ?_
        rintro e w' ⟨rfl, rfl⟩
        go_wp2_with fail
        refine (HO3.out _).mono ?_
        rintro e w' ⟨rfl, rfl⟩
        go_wp2_with fail
        refine HP.out.mono ?_
        rintro e w2 ⟨rfl, hb2⟩
        have HB2 := hide (HB0.out.trans (hb2.mono HB0.out.size))
        clear hb2
        rcases HE.out with ⟨h1, h2⟩ | ⟨h1, h2⟩
        · rw [h1]
          have HE2 := hide h2
          clear h1 h2
          go_wp2_with fail
          go_ret
          exact ⟨by rw [hinv.out, HE2.out]; rfl, HB2.out⟩
        · rw [h1]
          have HE2 := hide h2
          clear h1 h2
          go_wp2_with fail
          go_roundw
          case rel => exact ⟨k + 1, by omega, by go_num, HB2.out, hide (by rw [hinv.out, HE2.out])⟩
          case measure => simp [intOf]; omega
    · obtain rfl : k = n := by omega
      go_wp2_with fail
      go_ret
      refine ⟨?_, hb⟩
      have h := hinv.out
      rw [List.drop_of_length_le (by have := HN.out; omega)] at h
      rw [h]
      rfl
end Go.Proofs.YtklgpilgalfckaaGreatDoor
namespace Go.KP
open Go
theorem region_class {P : Program} {C : World → Prop} {id : Nat} {Q : Exit → Act → World → Prop} {a : Act} {w : World} {l : List Oper} (hm : P.follows .mixedOrders = true) (hno : Region.noSelect l.toArray = true)
    (hlex : Region.lexFrom .any l.toArray l.length 0 (Array.replicate l.length false) = true) (hC : C { w with drawn := w.drawn + 1 })
    (h : wpQuiet P l.toArray C (fun a' => ∀ w', C w' → Q .normal a' w') l a) : (Code.region id l.toArray true).wp P Q a w := by
  refine wp_region_any hm ?_
  have h1 := wpAnyQ_lex (P := P) (C := C) (md := .any) hno l 0 (Array.replicate l.length false) a (by simp) hlex h
  have e : l.toArray.size = l.length := by simp
  rw [e]
  exact wpAny_of_quiet (C := C) (Q := fun a' => ∀ w', C w' → Q .normal a' w') (fun _ w' hw h => h w' hw) _ _ _ _ hC h1
end Go.KP
namespace Go.Proofs.YtklgpilgalfckaaGreatDoor
open Go.RowKit Go.KP Go.KI Go.Shelf
attribute [local go_sem] Oper.semAt_some

theorem T_dig (u : Nat) (h : u < 10) : T ((u : Nat) : Rat) = ⟨#[UInt8.ofNat (48 + u)]⟩ := by
  apply bytes_eq
  rw [T_list, show ((u : Nat) : Rat) = (((u : Nat) : Int) : Rat) from rfl, ratS_int, Lib.itoa_nonneg, Lib.decDigits_one h]
theorem T4 : T 4 = ⟨#[52]⟩ := T_dig 4 (by omega)
theorem T3 : T 3 = ⟨#[51]⟩ := T_dig 3 (by omega)
theorem T2 : T 2 = ⟨#[50]⟩ := T_dig 2 (by omega)
theorem T1 : T 1 = ⟨#[49]⟩ := T_dig 1 (by omega)
theorem Tm4 : T (-4) = ⟨#[45, 52]⟩ := by
  apply bytes_eq
  rw [T_list, show (-4 : Rat) = (((-((4 : Nat) : Int)) : Int) : Rat) by decide +kernel, ratS_int, Lib.itoa_neg 4 (by omega), Lib.decDigits_one (by omega)]
  rfl
abbrev q32 : Rat := ⟨3, 2, by decide, by decide⟩
theorem T32 : T q32 = ⟨#[51, 47, 50]⟩ := by
  apply bytes_eq
  rw [T_list]
  unfold ratS
  rw [if_neg (by decide), show q32.num = ((3 : Nat) : Int) from rfl, Lib.itoa_nonneg, Lib.decDigits_one (by omega), show q32.den = 2 from rfl, Lib.decDigits_one (by omega)]
  rfl
abbrev pEx : V3 := ⟨4, 4, 3⟩
theorem pSz : szV 1 pEx := ⟨⟨by decide, by decide⟩, ⟨by decide, by decide⟩, ⟨by decide, by decide⟩⟩
theorem zSz : szV 1 vzero := ⟨⟨by decide, by decide⟩, ⟨by decide, by decide⟩, ⟨by decide, by decide⟩⟩
theorem exMem : Mem 6 3 0 vzero pEx 80 220 := ⟨by omega, by omega, by omega, by omega, by omega, by omega, by omega, by omega, szV_mono zSz (by omega), szV_mono pSz (by omega), by decide +kernel⟩
theorem ex_sub : vsub pEx vzero = pEx := by decide +kernel
theorem ex_side : vside pEx = ⟨-4, 4, 0⟩ := by decide +kernel
theorem ex_yes : meetsP vzero pEx ⟨2, 2, q32⟩ := by decide +kernel
theorem ex_no : ¬ meetsP vzero pEx ⟨2, 2, 1⟩ := by decide +kernel
abbrev b0 : ByteArray := ⟨#[48]⟩
abbrev b1 : ByteArray := ⟨#[49]⟩
abbrev b2 : ByteArray := ⟨#[50]⟩
abbrev b3 : ByteArray := ⟨#[51]⟩
abbrev b4 : ByteArray := ⟨#[52]⟩
abbrev bm4 : ByteArray := ⟨#[45, 52]⟩
abbrev b32 : ByteArray := ⟨#[51, 47, 50]⟩
abbrev exV : Value := .agg #[.int .i64 6, .int .i64 3, .int .i64 0, .string b0, .string b0, .string b0, .string b4, .string b4, .string b3, .int .i64 80, .int .i64 220]
abbrev exO : Obj := .cells #[.int .i64 6, .int .i64 3, .int .i64 0, .string b0, .string b0, .string b0, .string b4, .string b4, .string b3, .int .i64 80, .int .i64 220] 32
theorem exV_eq : memV 6 3 0 vzero pEx 80 220 = exV := by
  show Value.agg #[.int .i64 6, .int .i64 3, .int .i64 0, .string (T 0), .string (T 0), .string (T 0), .string (T 4), .string (T 4), .string (T 3), .int .i64 80, .int .i64 220] = _
  rw [T0, T4, T3]
theorem vp_eq : vecV pEx = spotV b4 b4 b3 := by
  show Value.agg #[.string (T 4), .string (T 4), .string (T 3)] = _
  rw [T4, T3]
theorem vs_eq : vecV ⟨-4, 4, 0⟩ = spotV bm4 b4 b0 := by
  show Value.agg #[.string (T (-4)), .string (T 4), .string (T 0)] = _
  rw [T4, T0, Tm4]
theorem vy_eq : vecV ⟨2, 2, q32⟩ = spotV b2 b2 b32 := by
  show Value.agg #[.string (T 2), .string (T 2), .string (T q32)] = _
  rw [T2, T32]
theorem vn_eq : vecV ⟨2, 2, 1⟩ = spotV b2 b2 b1 := by
  show Value.agg #[.string (T 2), .string (T 2), .string (T 1)] = _
  rw [T2, T1]
theorem lx_eq : lineV 2 vzero pEx 3 0 = .agg #[.int .i64 2, .string b0, .string b0, .string b0, .string b4, .string b4, .string b3, .int .i64 3, .int .i64 0] := by
  show Value.agg #[.int .i64 2, .string (T 0), .string (T 0), .string (T 0), .string (T 4), .string (T 4), .string (T 3), .int .i64 3, .int .i64 0] = _
  rw [T0, T4, T3]
theorem mx6 (w : World) : (Builtin.max_ #[33, 33, 33, 33, 33, 33] 33 #[.int .i64 0, .int .i64 0, .int .i64 0, .int .i64 0, .int .i64 0, .int .i64 0]).run Tryz.prog w = .ok (.int .i64 0) w := by kernel_rfl
theorem hawake_any (B : Nat) (w : World) (hB : B ≤ w.heap.size) (hT : PQ B w) :
    Calls Tryz.prog 7 #[] w (Ret w (.bool true)) := by
  have HT := hide hT
  have HOf := hide (fun w hB hT => hOf_to (n := 2) (by decide) exMem B w hB hT)
  rw [show kindP 2 = 6 from rfl, lx_eq, exV_eq] at HOf
  have HD := hide (fun w hB hT => hDirection_to exMem B w hB hT)
  rw [ex_sub, exV_eq, vp_eq] at HD
  have HS := hide (fun w hB hT => hSide_to exMem B w hB hT)
  rw [ex_sub, exV_eq, ex_side, vs_eq] at HS
  have HR := hide (fun w hB hT => hRise_to exMem B w hB hT)
  rw [ex_sub, exV_eq, show T pEx.z = b3 from T3] at HR
  have HM1 := hide (fun w hB hT => hMeets_to exMem (q := ⟨2, 2, q32⟩) ⟨⟨by decide +kernel, by decide +kernel⟩, ⟨by decide +kernel, by decide +kernel⟩, ⟨by decide +kernel, by decide +kernel⟩⟩ (r := true) (decide_eq_true ex_yes).symm B w hB hT)
  rw [exV_eq, vy_eq] at HM1
  have HM2 := hide (fun w hB hT => hMeets_to exMem (q := ⟨2, 2, 1⟩) ⟨⟨by decide +kernel, by decide +kernel⟩, ⟨by decide +kernel, by decide +kernel⟩, ⟨by decide +kernel, by decide +kernel⟩⟩ (r := false) (decide_eq_false ex_no).symm B w hB hT)
  rw [exV_eq, vn_eq] at HM2
  have HSP := hide (fun x y z w => lspot_at x y z w)
  have X0 := hide (heap2 w (spotO b0 b0 b0) (spotO b4 b4 b3))
  clear hT
  go_enter Tryz.func7, Tryz.ntmps7
  go_wp2_with fail
  refine (HSP.out _ _ _ _).mono ?_
  rintro e w' ⟨rfl, rfl⟩
  go_wp2_with fail
  refine (HSP.out _ _ _ _).mono ?_
  rintro e w' ⟨rfl, rfl⟩
  go_wp2_with fail
  refine (HOf.out _ (Nat.le_trans hB X0.out.2.2.2.size) (HT.out.on X0.out.2.2.2 hB)).mono ?_
  rintro e w1 ⟨rfl, hb1⟩
  have X1 := hide (heap1 w1 exO)
  have G1 := hide X1.out.1
  have HB1 := hide (X0.out.2.2.2.trans ((hb1.trans (X1.out.2.2.mono hb1.size)).mono X0.out.2.2.2.size))
  clear hb1
  go_wp2_with fail
  refine (HD.out _ (Nat.le_trans hB HB1.out.size) (HT.out.on HB1.out hB)).mono ?_
  rintro e w2 ⟨rfl, hb2⟩
  have X2 := hide (heap1 w2 (spotO b4 b4 b3))
  have hb2' := hb2.trans (X2.out.2.2.mono hb2.size)
  have G1 := hide (below_blk hb2' G1.out (lt_blk G1.out))
  have G3 := hide X2.out.1
  have HB2 := hide (HB1.out.trans (hb2'.mono HB1.out.size))
  clear hb2 hb2'
  have c := fun o => cell_blk G1.out o
  have l1 := lt_blk G1.out
  go_wp2_with fail
  refine (HS.out _ (Nat.le_trans hB HB2.out.size) (HT.out.on HB2.out hB)).mono ?_
  rintro e w3 ⟨rfl, hb3⟩
  have X3 := hide (heap1 w3 (spotO bm4 b4 b0))
  have hb3' := hb3.trans (X3.out.2.2.mono hb3.size)
  have G1 := hide (below_blk hb3' G1.out (lt_blk G1.out))
  have G3 := hide (below_blk hb3' G3.out (lt_blk G3.out))
  have G5 := hide X3.out.1
  have HB3 := hide (HB2.out.trans (hb3'.mono HB2.out.size))
  clear hb3 hb3' c l1
  have c := fun o => cell_blk G1.out o
  have l1 := lt_blk G1.out
  go_wp2_with fail
  refine (HR.out _ (Nat.le_trans hB HB3.out.size) (HT.out.on HB3.out hB)).mono ?_
  rintro e w4 ⟨rfl, hb4⟩
  have G1 := hide (below_blk hb4 G1.out (lt_blk G1.out))
  have G3 := hide (below_blk hb4 G3.out (lt_blk G3.out))
  have G5 := hide (below_blk hb4 G5.out (lt_blk G5.out))
  have HB4 := hide (HB3.out.trans (hb4.mono HB3.out.size))
  clear hb4 c l1
  have c := fun o => cell_blk G1.out o
  have l1 := lt_blk G1.out
  have HC4 := hide (fun (x : Of (Below w4.heap.size w4)) => show Calls Tryz.prog 31 #[exV, spotV b2 b2 b32] x.w fun e w' => e = .returned (.tuple #[.bool true, .int .i64 0]) ∧ Cls (Below w4.heap.size w4) w' from (HM1.out x.w (Nat.le_trans hB (Nat.le_trans HB4.out.size x.h.size)) ((HT.out.on HB4.out hB).on x.h (Nat.le_trans hB HB4.out.size))).mono fun _ _ ⟨h, hb⟩ => ⟨h, Cls.mk (x.h.trans (hb.mono (by have := x.h.size; omega)))⟩)
  have HSC := hide (fun (a b c : ByteArray) (x : Of (Below w4.heap.size w4)) => lspot_cls a b c w4.heap.size w4 (Nat.le_refl _) x)
  go_wp2_with fail
  have hx1 : ∀ x : Of (Below w4.heap.size w4), ∀ o, x.w.cell? ⟨w1.heap.size, o, none⟩ = w4.cell? ⟨w1.heap.size, o, none⟩ := fun x o => x.h.cell (p := ⟨w1.heap.size, o, none⟩) (lt_blk G1.out)
  refine region_prefix (C := Cls (Below w4.heap.size w4)) 8 (by kernel_rfl) (by decide) (by kernel_rfl) (by kernel_rfl) (by kernel_rfl) (by kernel_rfl) (Cls.mk (Below.refl _ _).drew) ?_
  simp only [List.take_succ_cons, List.take_zero, List.drop_succ_cons, List.drop_zero]
  repeat (go_big_quiet_step (first | with_reducible exact HSC.out _ _ _ _ | with_reducible exact HC4.out _))
  refine wpQuiet_nil ?_
  intro w5 hcl
  have hb := hcl.out
  have G1 := hide (below_blk hb G1.out (lt_blk G1.out))
  have G3 := hide (below_blk hb G3.out (lt_blk G3.out))
  have G5 := hide (below_blk hb G5.out (lt_blk G5.out))
  have HB5 := hide (HB4.out.trans (hb.mono HB4.out.size))
  clear hcl hb hx1 c l1 HC4 HSC
  have c := fun o => cell_blk G1.out o
  have l1 := lt_blk G1.out
  have HC5 := hide (fun (x : Of (Below w5.heap.size w5)) => show Calls Tryz.prog 31 #[exV, spotV b2 b2 b1] x.w fun e w' => e = .returned (.tuple #[.bool false, .int .i64 0]) ∧ Cls (Below w5.heap.size w5) w' from (HM2.out x.w (Nat.le_trans hB (Nat.le_trans HB5.out.size x.h.size)) ((HT.out.on HB5.out hB).on x.h (Nat.le_trans hB HB5.out.size))).mono fun _ _ ⟨h, hb⟩ => ⟨h, Cls.mk (x.h.trans (hb.mono (by have := x.h.size; omega)))⟩)
  have HSC := hide (fun (a b c : ByteArray) (x : Of (Below w5.heap.size w5)) => lspot_cls a b c w5.heap.size w5 (Nat.le_refl _) x)
  go_wp2_with fail
  have hx1 : ∀ x : Of (Below w5.heap.size w5), ∀ o, x.w.cell? ⟨w1.heap.size, o, none⟩ = w5.cell? ⟨w1.heap.size, o, none⟩ := fun x o => x.h.cell (p := ⟨w1.heap.size, o, none⟩) (lt_blk G1.out)
  refine region_prefix (C := Cls (Below w5.heap.size w5)) 8 (by kernel_rfl) (by decide) (by kernel_rfl) (by kernel_rfl) (by kernel_rfl) (by kernel_rfl) (Cls.mk (Below.refl _ _).drew) ?_
  simp only [List.take_succ_cons, List.take_zero, List.drop_succ_cons, List.drop_zero]
  repeat (go_big_quiet_step (first | with_reducible exact HSC.out _ _ _ _ | with_reducible exact HC5.out _))
  refine wpQuiet_nil ?_
  intro w6 hcl
  have hb := hcl.out
  have G1 := hide (below_blk hb G1.out (lt_blk G1.out))
  have G3 := hide (below_blk hb G3.out (lt_blk G3.out))
  have G5 := hide (below_blk hb G5.out (lt_blk G5.out))
  have HB6 := hide (HB5.out.trans (hb.mono HB5.out.size))
  clear hcl hb hx1 c l1 HC5 HSC
  have c := fun o => cell_blk G1.out o
  have l1 := lt_blk G1.out
  have HSC := hide (fun (a b c : ByteArray) (x : Of (Below w6.heap.size w6)) => lspot_cls a b c w6.heap.size w6 (Nat.le_refl _) x)
  have hmx := mx6
  have he1 : ∀ w, (Op.equalIn 10000 28 (spotV b4 b4 b3) (spotV b4 b4 b3)).run Tryz.prog w = .ok true w := fun w => by rw [eqSpot]; simp
  have he2 : ∀ w, (Op.equalIn 10000 28 (spotV bm4 b4 b0) (spotV bm4 b4 b0)).run Tryz.prog w = .ok true w := fun w => by rw [eqSpot]; simp
  go_wp2_with fail
  have hx1 : ∀ x : Of (Below w6.heap.size w6), ∀ o, x.w.cell? ⟨w1.heap.size, o, none⟩ = w6.cell? ⟨w1.heap.size, o, none⟩ := fun x o => x.h.cell (p := ⟨w1.heap.size, o, none⟩) (lt_blk G1.out)
  have hx3 : ∀ x : Of (Below w6.heap.size w6), ∀ o, x.w.cell? ⟨w2.heap.size, o, none⟩ = w6.cell? ⟨w2.heap.size, o, none⟩ := fun x o => x.h.cell (p := ⟨w2.heap.size, o, none⟩) (lt_blk G3.out)
  have hx5 : ∀ x : Of (Below w6.heap.size w6), ∀ o, x.w.cell? ⟨w3.heap.size, o, none⟩ = w6.cell? ⟨w3.heap.size, o, none⟩ := fun x o => x.h.cell (p := ⟨w3.heap.size, o, none⟩) (lt_blk G5.out)
  have c3 := fun o => cell_blk G3.out o
  have c5 := fun o => cell_blk G5.out o
  refine region_class (C := Cls (Below w6.heap.size w6)) (by kernel_rfl) (by kernel_rfl) (by kernel_rfl) (Cls.mk (Below.refl _ _).drew) ?_
  repeat (go_big_quiet_step (first | with_reducible exact HSC.out _ _ _ _))
  refine wpQuiet_nil ?_
  intro w7 hcl
  have HB7 := hide (HB6.out.trans (hcl.out.mono HB6.out.size))
  clear hcl hx1 hx3 hx5 c3 c5 c l1 HSC he1 he2 hmx
  go_wp2_with fail
  go_ret
  exact ⟨rfl, HB7.out⟩
open Go.RowKit Go.KP Go.KI Go.Shelf
attribute [local go_sem] Oper.semAt_some

instance (a : S3) : Decidable (tiny3 a) := by unfold tiny3; infer_instance
theorem r28GreatSpot_any (a : S3) (w : World) : Calls Tryz.prog 26 #[s3V a] w (Ret w (.bool (decide (¬ tiny3 a)))) := by
  have X0 := hide (heap1 w (s3O a))
  by_cases h1 : a.x.size ≤ 30
  · by_cases h2 : a.y.size ≤ 30
    · by_cases h3 : a.z.size ≤ 30
      · rw [decide_eq_false (fun e => e ⟨h1, h2, h3⟩)]
        have g1 : ((30 : Int) < (a.x.size : Int)) = False := eq_false (by omega)
        have g2 : ((30 : Int) < (a.y.size : Int)) = False := eq_false (by omega)
        have g3 : ((30 : Int) < (a.z.size : Int)) = False := eq_false (by omega)
        clear h1 h2 h3
        go_enter Tryz.func26, Tryz.ntmps26
        go_wp2_with fail
        go_ret
        exact ⟨rfl, X0.out.2.2⟩
      · rw [decide_eq_true (show ¬ tiny3 a from fun e => h3 e.2.2)]
        have g1 : ((30 : Int) < (a.x.size : Int)) = False := eq_false (by omega)
        have g2 : ((30 : Int) < (a.y.size : Int)) = False := eq_false (by omega)
        have g3 : (30 : Int) < (a.z.size : Int) := by omega
        clear h1 h2 h3
        go_enter Tryz.func26, Tryz.ntmps26
        go_wp2_with fail
        go_ret
        exact ⟨rfl, X0.out.2.2⟩
    · rw [decide_eq_true (show ¬ tiny3 a from fun e => h2 e.2.1)]
      have g1 : ((30 : Int) < (a.x.size : Int)) = False := eq_false (by omega)
      have g2 : (30 : Int) < (a.y.size : Int) := by omega
      clear h1 h2
      go_enter Tryz.func26, Tryz.ntmps26
      go_wp2_with fail
      go_ret
      exact ⟨rfl, X0.out.2.2⟩
  · rw [decide_eq_true (show ¬ tiny3 a from fun e => h1 e.1)]
    have g1 : (30 : Int) < (a.x.size : Int) := by omega
    clear h1
    go_enter Tryz.func26, Tryz.ntmps26
    go_wp2_with fail
    go_ret
    exact ⟨rfl, X0.out.2.2⟩
open Go.RowKit Go.KP Go.KI Go.Shelf
attribute [local go_sem] Oper.semAt_some

theorem eqSpotF (m : Nat) (a b c d e f : ByteArray) (w : World) : (Op.equalIn (m + 2) 28 (.agg #[.string a, .string b, .string c]) (.agg #[.string d, .string e, .string f])).run Tryz.prog w = .ok (a.toList == d.toList && b.toList == e.toList && c.toList == f.toList) w := by
  have hS : Tryz.prog.underlying 28 = some (.struct (Tryz.prog.fieldsOf 28)) := by kernel_rfl
  have hp : Tryz.prog.stoodInHeld 28 = false := by kernel_rfl
  rw [show m + 2 = (m + 1) + 1 from rfl, run_equalIn_agg w (m + 1) 28 _ _ hS hp]
  simp only [Program.fieldsOf, Tryz.underlying28]
  go_simp
  by_cases h1 : a.toList = d.toList <;> by_cases h2 : b.toList = e.toList <;> by_cases h3 : c.toList = f.toList <;> simp [*]
theorem eqMem_same (k f o wd dp : Int) (a b c d e g : ByteArray) (w : World) : (Op.equalIn 10000 32 (.agg #[.int .i64 k, .int .i64 f, .int .i64 o, .string a, .string b, .string c, .string d, .string e, .string g, .int .i64 wd, .int .i64 dp]) (.agg #[.int .i64 k, .int .i64 f, .int .i64 o, .string a, .string b, .string c, .string d, .string e, .string g, .int .i64 wd, .int .i64 dp])).run Tryz.prog w = .ok true w := by
  have hS : Tryz.prog.underlying 32 = some (.struct (Tryz.prog.fieldsOf 32)) := by kernel_rfl
  have hp : Tryz.prog.stoodInHeld 32 = false := by kernel_rfl
  have he := fun w => eqSpotF 9997 a b c a b c w
  have he2 := fun w => eqSpotF 9997 d e g d e g w
  rw [show (10000 : Nat) = 9999 + 1 from rfl, run_equalIn_agg w 9999 32 _ _ hS hp]
  simp only [Program.fieldsOf, Tryz.underlying32]
  go_simp
open Go.RowKit Go.KP Go.KI Go.Shelf
attribute [local go_sem] Oper.semAt_some

theorem flat_at {α : Type} (f : α → List Value) (n : Nat) (hf : ∀ a, (f a).length = n) (d : α) : ∀ (l : List α) (k j : Nat), k < l.length → j < n → (l.flatMap f)[k * n + j]? = (f (l.getD k d))[j]? := by
  intro l
  induction l with
  | nil => intro k j h; exact absurd h (by simp)
  | cons x r ih =>
    intro k j h hj
    rw [List.flatMap_cons]
    cases k with
    | zero =>
      rw [Nat.zero_mul, Nat.zero_add, List.getElem?_append_left (by rw [hf]; exact hj)]
      rfl
    | succ m =>
      rw [List.getElem?_append_right (by rw [hf, Nat.succ_mul]; omega), hf, show (m + 1) * n + j - n = m * n + j by rw [Nat.succ_mul]; omega, ih m j (by simpa using h) hj]
      rfl
abbrev s30 : S3 := ⟨⟨#[]⟩, ⟨#[]⟩, ⟨#[]⟩⟩
abbrev ln0 : Ln := ⟨0, s30, s30, 0, 0⟩
abbrev lnAt (L : List Ln) (k : Nat) : Ln := L.getD k ln0
def LinesAt (w : World) (A : Option Addr) (L : List Ln) : Prop := ∀ k, k < L.length → ∃ b o, A = some ⟨b, o, none⟩ ∧ b < w.heap.size ∧ ∀ j u, (lnCs (lnAt L k))[j]? = some u → w.cell? ⟨b, o + k * 9 + j, none⟩ = some u
theorem LinesAt.on {w w2 : World} {A : Option Addr} {L : List Ln} (h : LinesAt w A L) (hb : Below w.heap.size w w2) : LinesAt w2 A L := by
  intro k hk
  obtain ⟨b, o, h1, h2, h3⟩ := h k hk
  exact ⟨b, o, h1, Nat.lt_of_lt_of_le h2 hb.size, fun j u hu => (hb.cell (p := ⟨b, o + k * 9 + j, none⟩) h2).trans (h3 j u hu)⟩
def fewL (L : List Ln) : Prop := L.length ≤ 60 ∧ ∀ k, k < L.length → tinyL (lnAt L k)
noncomputable instance (L : List Ln) : Decidable (fewL L) := Classical.propDecidable _
theorem greatLines_any (A : Option Addr) (n c : Nat) (L : List Ln) (w : World) (hn : L.length = n) (hmax : n ≤ 9223372036854775807) (hc : LinesAt w A L) :
    Calls Tryz.prog 6 #[.slice A n c] w (Ret w (.bool (decide (¬ fewL L)))) := by
  by_cases h60 : n ≤ 60
  · have hle : (n : Int) ≤ 60 := by omega
    have hgt : ((60 : Int) < (n : Int)) = False := eq_false (by omega)
    have HC := hide hc; have HN := hide hn
    clear hc hn hmax
    go_enter Tryz.func6, Tryz.ntmps6
    go_wp2_with fail
    go_loopw [3] (fun i wr => ∃ k : Nat, k ≤ n ∧ i = .int .i64 k ∧ Below w.heap.size w wr ∧ Hid (∀ j, j < k → tinyL (lnAt L j))) (fun i _ => n - (intOf i).toNat)
    case atStart => exact ⟨0, Nat.zero_le _, rfl, Below.refl _ _, hide fun j hj => absurd hj (by omega)⟩
    case round =>
      obtain ⟨k, hk, rfl, hb, hinv⟩ := hrel
      by_cases hlt : k < n
      · have hki : (k : Int) < (n : Int) := by omega
        obtain ⟨b, o, rfl, hbl, hcell⟩ := HC.out k (by rw [HN.out]; exact hlt)
        obtain ⟨z, hz⟩ : ∃ z, z = lnAt L k := ⟨_, rfl⟩
        rw [← hz] at hcell
        have r1 : wr.cell? ⟨b, o + k * 9 + 1, none⟩ = some (.string z.a.x) := (hb.cell (p := ⟨b, o + k * 9 + 1, none⟩) hbl).trans (hcell 1 _ rfl)
        have r2 : wr.cell? ⟨b, o + k * 9 + 2, none⟩ = some (.string z.a.y) := (hb.cell (p := ⟨b, o + k * 9 + 2, none⟩) hbl).trans (hcell 2 _ rfl)
        have r3 : wr.cell? ⟨b, o + k * 9 + 3, none⟩ = some (.string z.a.z) := (hb.cell (p := ⟨b, o + k * 9 + 3, none⟩) hbl).trans (hcell 3 _ rfl)
        have r4 : wr.cell? ⟨b, o + k * 9 + 4, none⟩ = some (.string z.b.x) := (hb.cell (p := ⟨b, o + k * 9 + 4, none⟩) hbl).trans (hcell 4 _ rfl)
        have r5 : wr.cell? ⟨b, o + k * 9 + 5, none⟩ = some (.string z.b.y) := (hb.cell (p := ⟨b, o + k * 9 + 5, none⟩) hbl).trans (hcell 5 _ rfl)
        have r6 : wr.cell? ⟨b, o + k * 9 + 6, none⟩ = some (.string z.b.z) := (hb.cell (p := ⟨b, o + k * 9 + 6, none⟩) hbl).trans (hcell 6 _ rfl)
        have HG1 := hide (fun w => r28GreatSpot_any z.a w)
        have HG2 := hide (fun w => r28GreatSpot_any z.b w)
        have hlw : b < wr.heap.size := Nat.lt_of_lt_of_le hbl hb.size
        have HZ := hide hz
        have HB := hide hb
        clear hcell hz hbl hb
        by_cases h1 : tiny3 z.a
        · rw [decide_eq_false (fun e => e h1)] at HG1
          by_cases h2 : tiny3 z.b
          · rw [decide_eq_false (fun e => e h2)] at HG2
            have HT := hide (show tinyL z from ⟨h1, h2⟩)
            clear h1 h2
            go_wp2_with fail
            refine (HG1.out _).mono ?_
            rintro e w1 ⟨rfl, hb1⟩
            have HB1 := hide (HB.out.trans (hb1.mono HB.out.size))
            have s4 := (hb1.cell (p := ⟨b, o + k * 9 + 4, none⟩) hlw).trans r4
            have s5 := (hb1.cell (p := ⟨b, o + k * 9 + 5, none⟩) hlw).trans r5
            have s6 := (hb1.cell (p := ⟨b, o + k * 9 + 6, none⟩) hlw).trans r6
            clear hb1 r1 r2 r3 r4 r5 r6
            go_wp2_with fail
            refine (HG2.out _).mono ?_
            rintro e w2 ⟨rfl, hb2⟩
            have HB2 := hide (HB1.out.trans (hb2.mono HB1.out.size))
            clear hb2 s4 s5 s6
            go_wp2_with fail
            go_roundw
            case rel => exact ⟨k + 1, by omega, by go_num, HB2.out, hide fun j hj => by
              rcases Nat.lt_or_ge j k with h | h
              · exact hinv.out j h
              · rw [show j = k by omega, ← HZ.out]; exact HT.out⟩
            case measure => simp [intOf]; omega
          · rw [decide_eq_true h2] at HG2
            have HF := hide (show decide (¬ fewL L) = true from decide_eq_true fun f => h2 (by have := (f.2 k (by rw [HN.out]; exact hlt)).2; rw [← HZ.out] at this; exact this))
            clear h1 h2
            go_wp2_with fail
            refine (HG1.out _).mono ?_
            rintro e w1 ⟨rfl, hb1⟩
            have HB1 := hide (HB.out.trans (hb1.mono HB.out.size))
            have s4 := (hb1.cell (p := ⟨b, o + k * 9 + 4, none⟩) hlw).trans r4
            have s5 := (hb1.cell (p := ⟨b, o + k * 9 + 5, none⟩) hlw).trans r5
            have s6 := (hb1.cell (p := ⟨b, o + k * 9 + 6, none⟩) hlw).trans r6
            clear hb1 r1 r2 r3 r4 r5 r6
            go_wp2_with fail
            refine (HG2.out _).mono ?_
            rintro e w2 ⟨rfl, hb2⟩
            have HB2 := hide (HB1.out.trans (hb2.mono HB1.out.size))
            clear hb2 s4 s5 s6
            go_wp2_with fail
            go_ret
            exact ⟨by rw [HF.out]; rfl, HB2.out⟩
        · rw [decide_eq_true h1] at HG1
          have HF := hide (show decide (¬ fewL L) = true from decide_eq_true fun f => h1 (by have := (f.2 k (by rw [HN.out]; exact hlt)).1; rw [← HZ.out] at this; exact this))
          clear h1
          go_wp2_with fail
          refine (HG1.out _).mono ?_
          rintro e w1 ⟨rfl, hb1⟩
          have HB1 := hide (HB.out.trans (hb1.mono HB.out.size))
          clear hb1 r1 r2 r3 r4 r5 r6
          go_wp2_with fail
          go_ret
          exact ⟨by rw [HF.out]; rfl, HB1.out⟩
      · have hki : ((k : Int) < (n : Int)) = False := eq_false (by omega)
        have HF := hide (show decide (¬ fewL L) = false from decide_eq_false fun e => e ⟨by rw [HN.out]; exact h60, fun j hj => hinv.out j (by have := HN.out; omega)⟩)
        clear hlt
        go_wp2_with fail
        go_ret
        exact ⟨by rw [HF.out]; rfl, hb⟩
  · have hle : ((n : Int) ≤ 60) = False := eq_false (by omega)
    have hgt : (60 : Int) < (n : Int) := by omega
    have h0 : (0 : Int) < (n : Int) := by omega
    have HF := hide (show decide (¬ fewL L) = true from decide_eq_true fun f => h60 (by have := f.1; omega))
    clear hc hn hmax h60
    go_enter Tryz.func6, Tryz.ntmps6
    go_wp2_with fail
    go_loopw [3] (fun i wr => i = .int .i64 0 ∧ wr = w) (fun _ _ => 0)
    case atStart => exact ⟨rfl, by first | rfl | trivial⟩
    case round =>
      obtain ⟨rfl, rfl⟩ := hrel
      go_wp2_with fail
      go_ret
      exact ⟨by rw [HF.out]; rfl, Below.refl _ _⟩
abbrev Mb := Ln × Int × Int
abbrev mbCs (m : Mb) : List Value := [.int .i64 (kindP m.1.k), .int .i64 m.1.l, .int .i64 m.1.r, .string m.1.a.x, .string m.1.a.y, .string m.1.a.z, .string m.1.b.x, .string m.1.b.y, .string m.1.b.z, .int .i64 m.2.1, .int .i64 m.2.2]
abbrev mb0 : Mb := (ln0, 0, 0)
def mcells (l : List Mb) : List Value := l.flatMap mbCs
theorem mcells_at {l : List Mb} {k j : Nat} (h : k < l.length) (hj : j < 11) : (mcells l)[k * 11 + j]? = (mbCs (l.getD k mb0))[j]? := flat_at mbCs 11 (fun _ => rfl) mb0 l k j h hj
theorem mcells_snoc (l : List Mb) (m : Mb) : mcells (l ++ [m]) = mcells l ++ mbCs m := by
  unfold mcells
  rw [List.flatMap_append]
  simp
theorem SlAt.mems {B : Nat} {w : World} {v : Value} {l : List Mb} (h : SlAt B w 11 v l.length (mcells l)) :
    ∃ A c, v = .slice A l.length c ∧ ∀ k, k < l.length → ∃ b o, A = some ⟨b, o, none⟩ ∧ b < B ∧ ∀ j u, (mbCs (l.getD k mb0))[j]? = some u → w.cell? ⟨b, o + k * 11 + j, none⟩ = some u := by
  rcases h.2 with ⟨a, c, h1, h2⟩ | ⟨b, o, cap, hv, hb, hc⟩
  · exact ⟨a, c, by rw [h1, h2], fun k hk => by omega⟩
  · refine ⟨_, cap, hv, fun k hk => ⟨b, o, rfl, hb, fun j u hu => ?_⟩⟩
    have hj : j < 11 := (List.getElem?_eq_some_iff.1 hu).1
    rw [Nat.add_assoc]
    exact hc _ _ ((mcells_at hk hj).trans hu)
theorem sameMems_any (l : List Mb) (hl : l.length ≤ 1000000) (u v : Value) (B : Nat) (w : World) (hB : B ≤ w.heap.size) (hu : SlAt B w 11 u l.length (mcells l)) (hv : SlAt B w 11 v l.length (mcells l)) :
    Calls Tryz.prog 12 #[u, v] w (Ret w (.bool true)) := by
  obtain ⟨A, c, rfl, hA⟩ := SlAt.mems hu
  obtain ⟨A2, c2, rfl, hA2⟩ := SlAt.mems hv
  have HA := hide hA
  have HA2 := hide hA2
  have hnn : (((l.length : Nat) : Int) == ((l.length : Nat) : Int)) = true := beq_self_eq_true _
  have hnn2 : (((l.length : Nat) : Int) != ((l.length : Nat) : Int)) = false := by simp only [bne, hnn]; rfl
  obtain ⟨n, hn⟩ : ∃ n, n = l.length := ⟨_, rfl⟩
  rw [← hn] at hl hnn hnn2 HA HA2 ⊢
  clear hA hA2 hu hv hn
  go_enter Tryz.func12, Tryz.ntmps12
  go_wp2_with fail
  clear hnn hnn2
  go_loopw [5] (fun i wr => ∃ k : Nat, k ≤ n ∧ i = .int .i64 k ∧ Hid (Below w.heap.size w wr)) (fun i _ => n - (intOf i).toNat)
  case atStart => exact ⟨0, by omega, rfl, Below.refl _ _⟩
  case round =>
    obtain ⟨k, hk, rfl, hb⟩ := hrel
    have hk0 : (0 : Int) ≤ (k : Int) := by omega
    by_cases hlt : k < n
    · obtain ⟨b, o, rfl, hb1, hr1⟩ := HA.out k hlt
      obtain ⟨b2, o2, rfl, hb2, hr2⟩ := HA2.out k hlt
      obtain ⟨⟨L, wd, dp⟩, hx⟩ : ∃ x, x = l.getD k mb0 := ⟨_, rfl⟩
      rw [← hx] at hr1 hr2
      obtain ⟨kd, hkd⟩ : ∃ x, x = kindP L.k := ⟨_, rfl⟩
      have g1 : ∀ j u, ([.int .i64 kd, .int .i64 L.l, .int .i64 L.r, .string L.a.x, .string L.a.y, .string L.a.z, .string L.b.x, .string L.b.y, .string L.b.z, .int .i64 wd, .int .i64 dp] : List Value)[j]? = some u → wr.cell? ⟨b, o + k * 11 + j, none⟩ = some u := fun j u h => (hb.out.cell (p := ⟨b, o + k * 11 + j, none⟩) (Nat.lt_of_lt_of_le hb1 hB)).trans (hr1 j u (by rw [hkd] at h; exact h))
      have g2 : ∀ j u, ([.int .i64 kd, .int .i64 L.l, .int .i64 L.r, .string L.a.x, .string L.a.y, .string L.a.z, .string L.b.x, .string L.b.y, .string L.b.z, .int .i64 wd, .int .i64 dp] : List Value)[j]? = some u → wr.cell? ⟨b2, o2 + k * 11 + j, none⟩ = some u := fun j u h => (hb.out.cell (p := ⟨b2, o2 + k * 11 + j, none⟩) (Nat.lt_of_lt_of_le hb2 hB)).trans (hr2 j u (by rw [hkd] at h; exact h))
      have p0 : wr.cell? ⟨b, o + k * 11, none⟩ = some (.int .i64 kd) := g1 0 _ rfl
      have p1 : wr.cell? ⟨b, o + k * 11 + 1, none⟩ = some (.int .i64 L.l) := g1 1 _ rfl
      have p2 : wr.cell? ⟨b, o + k * 11 + 2, none⟩ = some (.int .i64 L.r) := g1 2 _ rfl
      have p3 : wr.cell? ⟨b, o + k * 11 + 3, none⟩ = some (.string L.a.x) := g1 3 _ rfl
      have p4 : wr.cell? ⟨b, o + k * 11 + 4, none⟩ = some (.string L.a.y) := g1 4 _ rfl
      have p5 : wr.cell? ⟨b, o + k * 11 + 5, none⟩ = some (.string L.a.z) := g1 5 _ rfl
      have p6 : wr.cell? ⟨b, o + k * 11 + 6, none⟩ = some (.string L.b.x) := g1 6 _ rfl
      have p7 : wr.cell? ⟨b, o + k * 11 + 7, none⟩ = some (.string L.b.y) := g1 7 _ rfl
      have p8 : wr.cell? ⟨b, o + k * 11 + 8, none⟩ = some (.string L.b.z) := g1 8 _ rfl
      have p9 : wr.cell? ⟨b, o + k * 11 + 9, none⟩ = some (.int .i64 wd) := g1 9 _ rfl
      have p10 : wr.cell? ⟨b, o + k * 11 + 10, none⟩ = some (.int .i64 dp) := g1 10 _ rfl
      have q0 : wr.cell? ⟨b2, o2 + k * 11, none⟩ = some (.int .i64 kd) := g2 0 _ rfl
      have q1 : wr.cell? ⟨b2, o2 + k * 11 + 1, none⟩ = some (.int .i64 L.l) := g2 1 _ rfl
      have q2 : wr.cell? ⟨b2, o2 + k * 11 + 2, none⟩ = some (.int .i64 L.r) := g2 2 _ rfl
      have q3 : wr.cell? ⟨b2, o2 + k * 11 + 3, none⟩ = some (.string L.a.x) := g2 3 _ rfl
      have q4 : wr.cell? ⟨b2, o2 + k * 11 + 4, none⟩ = some (.string L.a.y) := g2 4 _ rfl
      have q5 : wr.cell? ⟨b2, o2 + k * 11 + 5, none⟩ = some (.string L.a.z) := g2 5 _ rfl
      have q6 : wr.cell? ⟨b2, o2 + k * 11 + 6, none⟩ = some (.string L.b.x) := g2 6 _ rfl
      have q7 : wr.cell? ⟨b2, o2 + k * 11 + 7, none⟩ = some (.string L.b.y) := g2 7 _ rfl
      have q8 : wr.cell? ⟨b2, o2 + k * 11 + 8, none⟩ = some (.string L.b.z) := g2 8 _ rfl
      have q9 : wr.cell? ⟨b2, o2 + k * 11 + 9, none⟩ = some (.int .i64 wd) := g2 9 _ rfl
      have q10 : wr.cell? ⟨b2, o2 + k * 11 + 10, none⟩ = some (.int .i64 dp) := g2 10 _ rfl
      have he := fun w => eqMem_same kd L.l L.r wd dp L.a.x L.a.y L.a.z L.b.x L.b.y L.b.z w
      have hki : (k : Int) < (n : Int) := by omega
      clear hx hb1 hb2 hr1 hr2 g1 g2 hkd
      go_wp2_with fail
      go_quiet (fail)
      have HB2 := hide (below_drewN hb.out nq)
      clear hb he p0 p1 p2 p3 p4 p5 p6 p7 p8 p9 p10 q0 q1 q2 q3 q4 q5 q6 q7 q8 q9 q10
      go_wp2_with fail
      go_roundw
      case rel => exact ⟨k + 1, by omega, by go_num, HB2⟩
      case measure => simp [intOf]; omega
    · have hki : ((k : Int) < (n : Int)) = False := eq_false (by omega)
      clear hlt
      go_wp2_with fail
      go_ret
      exact ⟨rfl, hb.out⟩
open Go.RowKit Go.KP Go.KI Go.Shelf

abbrev pkL (S : List Sz3) (l : Ln) : Option (Int × Int) := pickS S (kindP l.k)
abbrev erL (l : Ln) (s : Int × Int) : Int := ofE l s.1 s.2
abbrev mkL (l : Ln) (s : Int × Int) : Mb := (l, s)
def errL (S : List Sz3) (L : List Ln) : Int := errA (pkL S) erL L
def outL (S : List Sz3) (L : List Ln) : List Mb := outA (pkL S) mkL L
def allE (S : List Sz3) (L : List Ln) : Int := if validS S = true then errL S L else 1
def allX (S : List Sz3) (L : List Ln) : List Mb := if allE S L = 0 then outL S L else []
theorem zAt_mem {S : List Sz3} {k : Nat} (h : k < S.length) : zAt S k ∈ S := by
  simp only [zAt, List.getD_eq_getElem?_getD, List.getElem?_eq_getElem h, Option.getD_some]
  exact List.getElem_mem h
theorem pick_of {S : List Sz3} (ho : once S) {k : Nat} (h : k < S.length) {m : Int} (hm : m ≠ 0) (hk : (zAt S k).1 = m) : pickS S m = some (zAt S k).2 := by
  have hf := filter_once ho m
  have hmem : zAt S k ∈ S.filter (fun s => s.1 = m) := List.mem_filter.2 ⟨zAt_mem h, by simpa using hk⟩
  rw [hf] at hmem
  unfold pickS
  rw [if_neg hm]
  cases hx : S.find? (fun s => s.1 = m) with
  | none => rw [hx] at hmem; simp at hmem
  | some x =>
    rw [hx] at hmem
    have e : zAt S k = x := by simpa using hmem
    rw [e]
    rfl
def inX (S : List Sz3) (l : Ln) (k : Nat) : List Mb := if kindP l.k = 0 then [] else ((S.take k).filter (fun s => s.1 = kindP l.k)).map (fun s => (l, s.2))
theorem inX_zero (S : List Sz3) (l : Ln) : inX S l 0 = [] := by unfold inX; split <;> rfl
theorem take_snoc {S : List Sz3} {k : Nat} (h : k < S.length) : S.take (k + 1) = S.take k ++ [zAt S k] := by
  rw [List.take_add_one]
  simp [zAt, h]
theorem inX_no {S : List Sz3} {l : Ln} {k : Nat} (h : k < S.length) (hn : kindP l.k = 0 ∨ (zAt S k).1 ≠ kindP l.k) : inX S l (k + 1) = inX S l k := by
  unfold inX
  by_cases h0 : kindP l.k = 0
  · rw [if_pos h0, if_pos h0]
  · rw [if_neg h0, if_neg h0, take_snoc h, List.filter_append]
    have h1 : (zAt S k).1 ≠ kindP l.k := hn.resolve_left h0
    rw [List.filter_cons_of_neg (by simpa using h1)]
    simp
theorem inX_yes {S : List Sz3} {l : Ln} {k : Nat} (h : k < S.length) (h0 : kindP l.k ≠ 0) (h1 : (zAt S k).1 = kindP l.k) : inX S l (k + 1) = inX S l k ++ [(l, (zAt S k).2)] := by
  unfold inX
  rw [if_neg h0, if_neg h0, take_snoc h, List.filter_append, List.filter_cons_of_pos (by simpa using h1)]
  simp
theorem inX_end {S : List Sz3} (ho : once S) (l : Ln) : inX S l S.length = outL S [l] := by
  unfold inX outL
  rw [List.take_length]
  by_cases h0 : kindP l.k = 0
  · rw [if_pos h0, outA_none]
    exact if_pos h0
  · rw [if_neg h0, filter_once ho]
    cases hx : S.find? (fun s => s.1 = kindP l.k) with
    | none =>
      rw [outA_none]
      · rfl
      · show pickS S _ = none
        unfold pickS
        rw [if_neg h0, hx]
        rfl
    | some s =>
      rw [outA_some (s := s.2)]
      · rfl
      · show pickS S _ = some s.2
        unfold pickS
        rw [if_neg h0, hx]
        rfl
theorem inX_le {S : List Sz3} (ho : once S) (l : Ln) (k : Nat) : (inX S l k).length ≤ 1 := by
  have h : (inX S l k).length ≤ (inX S l S.length).length := by
    unfold inX
    split
    · exact Nat.le_refl _
    · rw [List.length_map, List.length_map, List.take_length]
      exact (List.Sublist.filter _ (List.take_sublist k S)).length_le
  rw [inX_end ho] at h
  have := outA_le (pkL S) mkL [l]
  unfold outL at h
  simp only [List.length_cons, List.length_nil] at this
  omega
theorem lnAt_drop {L : List Ln} {i : Nat} (h : i < L.length) : L.drop i = lnAt L i :: L.drop (i + 1) := by
  rw [List.drop_eq_getElem_cons h]
  simp [lnAt, h]
theorem ln_snoc {L : List Ln} {i : Nat} (h : i < L.length) : L.take (i + 1) = L.take i ++ [lnAt L i] := by
  rw [List.take_add_one]
  simp [lnAt, h]
theorem outL_snoc {S : List Sz3} {L : List Ln} {i : Nat} (h : i < L.length) : outL S (L.take (i + 1)) = outL S (L.take i) ++ outL S [lnAt L i] := by
  rw [ln_snoc h]
  exact outA_append _ _ _ _
theorem outL_le (S : List Sz3) (L : List Ln) : (outL S L).length ≤ L.length := outA_le _ _ L
theorem outL_take_le (S : List Sz3) (L : List Ln) (i : Nat) : (outL S (L.take i)).length ≤ i := Nat.le_trans (outL_le S _) (by rw [List.length_take]; omega)
theorem errL_at {S : List Sz3} {L : List Ln} {i : Nat} (h : i < L.length) (h0 : errL S (L.take i) = 0) {s : Int × Int} (hp : pkL S (lnAt L i) = some s) (he : erL (lnAt L i) s ≠ 0) : errL S L = erL (lnAt L i) s := by
  have e : L = L.take i ++ (lnAt L i :: L.drop (i + 1)) := by rw [← lnAt_drop h, List.take_append_drop]
  conv => lhs; rw [e]
  unfold errL at h0 ⊢
  rw [errA_append _ _ h0]
  exact errA_bad _ _ hp he
theorem errL_snoc {S : List Sz3} {L : List Ln} {i : Nat} (h : i < L.length) (h0 : errL S (L.take i) = 0) (hp : ∀ s, pkL S (lnAt L i) = some s → erL (lnAt L i) s = 0) : errL S (L.take (i + 1)) = 0 := by
  rw [ln_snoc h]
  unfold errL at h0 ⊢
  rw [errA_append _ _ h0]
  cases hx : pkL S (lnAt L i) with
  | none => exact errA_none _ _ hx
  | some s => exact errA_good _ _ hx (hp s hx)
theorem pick_all {S : List Sz3} {l : Ln} (h : ∀ k, k < S.length → kindP l.k ≠ 0 → (zAt S k).1 = kindP l.k → ofE l (zAt S k).2.1 (zAt S k).2.2 = 0) (s : Int × Int) (hs : pkL S l = some s) : erL l s = 0 := by
  have hs' : pickS S (kindP l.k) = some s := hs
  unfold pickS at hs'
  by_cases h0 : kindP l.k = 0
  · rw [if_pos h0] at hs'; cases hs'
  · rw [if_neg h0] at hs'
    cases hx : S.find? (fun s => s.1 = kindP l.k) with
    | none => rw [hx] at hs'; cases hs'
    | some x =>
      rw [hx] at hs'
      have e : x.2 = s := by simpa using hs'
      have h1 := List.mem_of_find?_eq_some hx
      have h2 := List.find?_some hx
      obtain ⟨k, hk, e2⟩ := List.getElem_of_mem h1
      have hz : zAt S k = x := by simp [zAt, hk, e2]
      have := h k hk h0 (by rw [hz]; simpa using h2)
      rw [hz] at this
      rw [← e]
      exact this
theorem valid_once0 {S : List Sz3} (h : validS S = true) : once S := by
  have := valid_once (P := []) (S := S) List.Pairwise.nil h
  simpa using this
end Go.Proofs.YtklgpilgalfckaaGreatDoor
