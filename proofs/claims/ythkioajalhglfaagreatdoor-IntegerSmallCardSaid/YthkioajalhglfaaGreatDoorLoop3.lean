/-
  A law of this work for 'for .. := range f': an iterator that leaves the world as it is between its rounds; what a loop's body owes, by numbered rounds. Condition: the fence is the wide one.
-/
import Derived.Test.YthkioajalhglfaaGreatDoorLoop2
namespace Go.KP
open Go Go.RowKit

/-- From W to W2 no block of cells has come or turned, and no block below n. -/
structure Still (n : Nat) (W W2 : World) : Prop where
  os : W2.os = W.os
  tape : W2.tape = W.tape
  output : W2.output = W.output
  size : W.heap.size ≤ W2.heap.size
  old : ∀ (b : Nat) cs t fz, W.heap[b]? = some (Obj.cells cs t fz) → W2.heap[b]? = some (Obj.cells cs t fz)
  new : ∀ (b : Nat) cs t fz, W2.heap[b]? = some (Obj.cells cs t fz) → W.heap[b]? = some (Obj.cells cs t fz)
  kept : ∀ (b : Nat), b < n → b < W.heap.size → W2.heap[b]? = W.heap[b]?
theorem Still.refl (n : Nat) (W : World) : Still n W W := ⟨rfl, rfl, rfl, Nat.le_refl _, fun _ _ _ _ h => h, fun _ _ _ _ h => h, fun _ _ _ => rfl⟩
theorem Still.alloc {n : Nat} {a w : World} (h : Still n a w) {o : Obj} (ho : o.isCells = false) : Still n a (w.alloc o) := by
  refine ⟨h.os, h.tape, h.output, Nat.le_trans h.size (by simp), fun b cs t fz hb => ?_, fun b cs t fz hb => ?_, fun b hb hr => (Below.heap_alloc _ _ _ (by have := h.size; omega)).trans (h.kept b hb hr)⟩
  · have h1 := h.old b cs t fz hb
    exact (Below.heap_alloc _ _ _ (lt_blk h1)).trans h1
  · refine h.new b cs t fz ?_
    have hlt := lt_blk hb
    rw [World.size_alloc] at hlt
    rcases Nat.lt_or_ge b w.heap.size with h1 | h1
    · exact (Below.heap_alloc _ _ _ h1).symm.trans hb
    · exfalso
      obtain rfl : b = w.heap.size := by omega
      rw [World.alloc_heap_new] at hb
      injection hb with hb
      rw [hb] at ho
      cases ho
theorem Still.put {n : Nat} {W : World} {l : Nat} {r : Loop} (hn : n ≤ l) (h : W.heap[l]? = some (.loop r)) (r2 : Loop) : Still n W (W.putObj l (.loop r2)) := by
  refine ⟨rfl, rfl, rfl, by simp, fun b cs t fz hb => ?_, fun b cs t fz hb => ?_, fun b hb _ => World.putObj_heap_other (by omega)⟩
  · refine (World.putObj_heap_other (fun e => ?_)).trans hb
    subst e
    rw [h] at hb
    cases hb
  · by_cases e : b = l
    · subst e
      rw [World.putObj_heap_same (lt_blk h)] at hb
      cases hb
    · exact (World.putObj_heap_other e).symm.trans hb
/-- **An iterator's contract, by numbered rounds**: round k is handed 'encs k', k < N; it asks 'Ke k' of the world behind k rounds, and leaves the world as it is. -/
def IterPure (P : Program) (gf : Nat) (lb : Array Value) (encs : Nat → Array Value) (N : Nat) (Ke : Nat → World → Prop) : Prop :=
  ∀ (l : Nat) (J : Nat → (Nat → Prop) → World → Prop) (Jx : (Nat → Prop) → World → Prop) (S0 : Nat → Prop) (W : World),
    (∀ k S W1, k ≤ N → J k S W1 → Ke k W1) →
    (∀ k S W1, k < N → J k S W1 → W.heap.size ≤ W1.heap.size →
      YieldAt Fence.wide 0 P l (encs k) W1 fun e W2 => ∃ S', Upd W.heap.size S S' W1 W2 ∧
        ((e = .returned (.bool true) ∧ J (k + 1) S' W2) ∨ (e = .returned (.bool false) ∧ Jx S' W2))) →
    J 0 S0 W →
    CallsIn Fence.wide 0 P gf (#[.func (.yield l) #[] #[]] ++ lb) W fun e W2 => (∃ v, e = .returned v) ∧ ∃ S, J N S W2 ∨ Jx S W2
variable {P : Program}
/-- **The loop.** I k: what holds between two rounds, k of them over; Ix c: a round has left by the jump c. -/
theorem wp_iter_pure {g : Operand} {ps : Array Tmp} {assign body : Code} {Q : Exit → Act → World → Prop} {a : Act} {w : World}
    {gf : Nat} {lb : Array Value} (hg : a.eval g = .func (.func gf) #[] lb) (eg : ∀ args w, (callFunc gf args).run P w = .ok (.enter gf args) w)
    {encs : Nat → Array Value} {N : Nat} {Ke : Nat → World → Prop} {S0 : Nat → Prop} (hseq : IterPure P gf lb encs N Ke) (hps : ∀ k, (encs k).size = ps.size)
    (I : Nat → (Nat → Prop) → World → Prop) (Ix : Code → (Nat → Prop) → World → Prop) (hI : ∀ k S W W2, I k S W → Still w.heap.size W W2 → I k S W2) (hIx : ∀ c S W W2, Ix c S W → Still w.heap.size W W2 → Ix c S W2) (h0 : I 0 S0 w) (hke : ∀ k S W, k ≤ N → I k S W → Ke k W)
    (Ax : Nat → (Nat → Prop) → Act → World → Prop)
    (hAx : ∀ k S a1 W l r r2, Ax k S a1 W → W.heap[l]? = some (.loop r) → Ax k S a1 (W.putObj l (.loop r2)))
    (hassign : ∀ (l k : Nat) (S : Nat → Prop) (W : World) (K : Act → World → Prop), w.heap.size ≤ W.heap.size → (∀ b, S b → b < W.heap.size) → (∀ a1, Ax k S a1 W → K a1 W) →
      assign.wpIn (Fence.wide.inRound l) 0 P (Exit.then K (fun _ _ _ => False)) { tmps := (ps.zip (encs k)).foldl (fun t (p, v) => t.setIfInBounds p v) a.tmps, defers := [] } W)
    (hS : ∀ k S W, I k S W → ∀ b, S b → b < W.heap.size)
    (hbody : ∀ (l k : Nat) (S : Nat → Prop) (a1 : Act) (W : World), k < N → I k S W → Ax k S a1 W → w.heap.size ≤ W.heap.size →
      body.wpIn (Fence.wide.inRound l) 0 P (bodyEndOn w.heap.size (I (k + 1)) Ix S W) a1 W)
    (hdone : ∀ (D : Nat) (S : Nat → Prop) (W : World), w.heap.size ≤ D → I N S W → W.heap[D]? = some (.deferred (some [])) → Q .normal { a with defers := { target := .collected D, args := #[] } :: a.defers } W)
    (hstop : ∀ (D : Nat) (c : Code) (S : Nat → Prop) (W : World), w.heap.size ≤ D → Ix c S W → W.heap[D]? = some (.deferred (some [])) → c.wpIn Fence.wide 0 P Q { a with defers := { target := .collected D, args := #[] } :: a.defers } W) :
    (Code.rangeFunc g ps assign body).wpIn Fence.wide 0 P Q a w := by
  refine wpIn_rangeFunc ?_
  intro fn _
  obtain ⟨rec, hrec⟩ : ∃ rec : LoopState → Option Code → Loop, rec = fun st pe => { state := st, pending := pe, fn, tmps := a.tmps, params := ps, assign, body, defers := w.heap.size } := ⟨_, rfl⟩
  obtain ⟨W1, hW1⟩ : ∃ W1, (w.alloc (.deferred (some []))).alloc (.loop (rec .ready none)) = W1 := ⟨_, rfl⟩
  have hL1 : W1.heap[w.heap.size + 1]? = some (.loop (rec .ready none)) := by
    rw [← hW1]; have h := World.alloc_heap_new (w.alloc (.deferred (some []))) (.loop (rec .ready none)); rwa [World.size_alloc] at h
  have hK1 : W1.heap[w.heap.size]? = some (.deferred (some [])) := by
    rw [← hW1]; exact (Below.heap_alloc _ _ _ (by simp)).trans (World.alloc_heap_new w _)
  have hq1 : Still w.heap.size w W1 := by rw [← hW1]; exact ((Still.refl _ w).alloc rfl).alloc rfl
  have hs1 : W1.heap.size = w.heap.size + 2 := by rw [← hW1]; simp
  have inner : ∀ (i : Nat) (S S' : Nat → Prop) (W W2 : World), w.heap.size ≤ i → i < w.heap.size + 2 → i < W.heap.size → ¬ S i → Upd w.heap.size S S' W W2 → W2.heap[i]? = W.heap[i]? ∧ ¬ S' i := fun i S S' W W2 h1 _ h3 h4 hu => hu.block i h1 h3 h4
  refine ⟨w.heap.size + 1, [{ target := .collected w.heap.size, args := #[] }], W1, { target := .fn (.func gf) lb, args := #[.func (.yield (w.heap.size + 1)) #[] #[]] }, W1, gf,
    #[.func (.yield (w.heap.size + 1)) #[] #[]] ++ lb, W1, ?_, ?_, ?_, ?_, fun h => by simp [Fence.wide] at h, ?_⟩
  · rw [← hW1, hrec]; exact run_enterLoop_outer _ _ _ _ _
  · simp only [resolve, hg]
    simp [go_sem]
  · exact fun _ _ => trivial
  · simp [invoke, go_sem, eg]
  · refine (hseq (w.heap.size + 1)
      (fun k S W => I k S W ∧ ¬ S w.heap.size ∧ ¬ S (w.heap.size + 1) ∧ W1.heap.size ≤ W.heap.size ∧ W.heap[w.heap.size + 1]? = some (.loop (rec .ready none)) ∧ W.heap[w.heap.size]? = some (.deferred (some [])))
      (fun S W => ∃ c, Ix c S W ∧ ¬ S w.heap.size ∧ ¬ S (w.heap.size + 1) ∧ W1.heap.size ≤ W.heap.size ∧ W.heap[w.heap.size + 1]? = some (.loop (rec .done (some c))) ∧ W.heap[w.heap.size]? = some (.deferred (some [])))
      S0 W1 (fun k S W1 hk h => hke k S W1 hk h.1) ?_ ⟨hI 0 _ _ _ h0 hq1, (fun h => by have := hS 0 S0 w h0 _ h; omega), (fun h => by have := hS 0 S0 w h0 _ h; omega), Nat.le_refl _, hL1, hK1⟩).mono ?_
    · rintro k S W hkN ⟨hi, n1, n2, hsz, hl, hk⟩ _
      have hlt : w.heap.size + 1 < W.heap.size := (Array.getElem?_eq_some_iff.1 hl).1
      have hy := run_yield (P := P) (args := encs k) hl (by rw [hrec]; exact hps k)
      rw [hrec] at hy
      refine ⟨fn, _, assign, body, hy, roundIn_of_wpIn trivial (hassign _ k S W _ (by omega) (hS k S W hi) ?_)⟩
      intro a1 hax
      have hla := hl
      have hka := hk
      refine ⟨_, run_beginRound hla (by rw [hrec]), ?_⟩
      obtain ⟨W2, hW2⟩ : ∃ W2, W.putObj (w.heap.size + 1) (.loop { rec .ready none with state := .busy }) = W2 := ⟨_, rfl⟩
      have hq2 : Still w.heap.size W W2 := by rw [← hW2]; exact Still.put (by omega) hla _
      have hax2 : Ax k S a1 W2 := by rw [← hW2]; exact hAx _ _ _ _ _ _ _ hax hla
      have hl2 : W2.heap[w.heap.size + 1]? = some (.loop { rec .ready none with state := .busy }) := by rw [← hW2]; exact World.putObj_heap_same hlt
      have hk2 : W2.heap[w.heap.size]? = some (.deferred (some [])) := by rw [← hW2]; exact (World.putObj_heap_other (by omega)).trans hka
      have hs2 : W2.heap.size = W.heap.size := by rw [← hW2]; simp
      rw [hW2]
      refine wpIn_mono (hbody _ k S a1 W2 hkN (hI k _ _ _ hi hq2) hax2 (by omega)) ?_
      have fin : ∀ (jump : Option Code) (S' : Nat → Prop) (W3 : World), Upd w.heap.size S S' W2 W3 →
          ∃ W4, (Instr.endRound (w.heap.size + 1) jump).run P W3 = .ok (.bool jump.isNone) W4 ∧ Upd W1.heap.size S S' W W4 ∧ Still w.heap.size W3 W4 ∧
            ¬ S' w.heap.size ∧ ¬ S' (w.heap.size + 1) ∧ W1.heap.size ≤ W4.heap.size ∧
            W4.heap[w.heap.size + 1]? = some (.loop (rec (if jump.isNone then .ready else .done) jump)) ∧ W4.heap[w.heap.size]? = some (.deferred (some [])) := fun jump S' W3 hu => by
        have hl3 := (inner (w.heap.size + 1) _ _ _ _ (by omega) (by omega) (by omega) n2 hu)
        have hk3 := (inner w.heap.size _ _ _ _ (by omega) (by omega) (by omega) n1 hu)
        have hl4 := hl3.1.trans hl2
        have hs3 := hu.size
        have hr := run_endRound (P := P) jump hl4
        have e : ({ rec .ready none with state := if jump.isNone then LoopState.ready else LoopState.done, pending := jump } : Loop) = rec (if jump.isNone then .ready else .done) jump := by rw [hrec]
        simp only at hr
        rw [e] at hr
        have hq4 : Still w.heap.size W3 (W3.putObj (w.heap.size + 1) (.loop (rec (if jump.isNone then .ready else .done) jump))) := Still.put (by omega) hl4 _
        refine ⟨_, hr, ⟨by simp; omega, fun b hB hlt' hs' => ?_⟩, hq4, hk3.2, hl3.2, by simp; omega, World.putObj_heap_same (by omega), (World.putObj_heap_other (by omega)).trans (hk3.1.trans hk2)⟩
        · obtain ⟨g3, g4⟩ := hu.block b (by omega) (by omega) hs'
          refine ⟨(World.putObj_heap_other (by omega)).trans (g3.trans ?_), g4⟩
          rw [← hW2, World.putObj_heap_other (by omega)]
      rintro e a3 W3 hp
      cases e with
      | normal =>
        obtain ⟨S', hu, hi3⟩ := hp
        obtain ⟨W4, hr, hu4, hq4, m1, m2, m3, hl4, hk4⟩ := fin none S' W3 hu
        exact ⟨_, _, hr, S', hu4, .inl ⟨rfl, hI _ _ _ _ hi3 hq4, m1, m2, m3, hl4, hk4⟩⟩
      | ret =>
        obtain ⟨S', hu, hi3⟩ := hp
        obtain ⟨W4, hr, hu4, hq4, m1, m2, m3, hl4, hk4⟩ := fin (some .ret) S' W3 hu
        exact ⟨_, _, hr, S', hu4, .inr ⟨rfl, .ret, hIx _ _ _ _ hi3 hq4, m1, m2, m3, hl4, hk4⟩⟩
      | exit id =>
        obtain ⟨S', hu, hi3⟩ := hp
        obtain ⟨W4, hr, hu4, hq4, m1, m2, m3, hl4, hk4⟩ := fin (some (.exit id)) S' W3 hu
        exact ⟨_, _, hr, S', hu4, .inr ⟨rfl, .exit id, hIx _ _ _ _ hi3 hq4, m1, m2, m3, hl4, hk4⟩⟩
      | goto t =>
        obtain ⟨S', hu, hi3⟩ := hp
        obtain ⟨W4, hr, hu4, hq4, m1, m2, m3, hl4, hk4⟩ := fin (some (.goto t)) S' W3 hu
        exact ⟨_, _, hr, S', hu4, .inr ⟨rfl, .goto t, hIx _ _ _ _ hi3 hq4, m1, m2, m3, hl4, hk4⟩⟩
      | panic ch => exact hp.elim
      | outgrown => exact hp.elim
    · rintro e W2 ⟨⟨v, rfl⟩, S, (⟨hi, n1, n2, hsz, hl, hk⟩ | ⟨c, hi, n1, n2, hsz, hl, hk⟩)⟩
      · refine ⟨none, _, by have h := run_endLoop (P := P) hl (by rw [hrec]; simp); rw [hrec] at h; exact h, ?_⟩
        exact hdone _ S _ (Nat.le_refl _) (hI _ _ _ _ hi (Still.put (by omega) hl _)) ((World.putObj_heap_other (by omega)).trans hk)
      · refine ⟨some c, _, by have h := run_endLoop (P := P) hl (by rw [hrec]; simp); rw [hrec] at h; exact h, ?_⟩
        exact hstop _ c S _ (Nat.le_refl _) (hIx _ _ _ _ hi (Still.put (by omega) hl _)) ((World.putObj_heap_other (by omega)).trans hk)

end Go.KP
