/-
  A law of this work for 'for .. := range f': what an iterator promises and what a loop's body owes, by numbered rounds. Condition: the fence is the wide one.
-/
import Derived.Test.YthkioajalhglfaaGreatDoorGen
import Derived.RangeFuncNested
import Derived.RangeFuncBound
import Derived.RangeFuncCalls
import Derived.RangeFuncLeaves
import Derived.WalkKit
import Derived.Deep.Draws
import Derived.OwnWalkIn
import Derived.TacticsInMore
import Derived.LoopNIn
import Derived.LoopIn
import Derived.Deep.AppendLies
namespace Go.KP
open Go Go.RowKit

/-- From W to W2 nothing of S, and nothing below B, has turned. -/
structure Quiet (B : Nat) (S : Nat → Prop) (W W2 : World) : Prop where
  os : W2.os = W.os
  tape : W2.tape = W.tape
  output : W2.output = W.output
  size : W.heap.size ≤ W2.heap.size
  block : ∀ b, (b < B ∨ S b) → b < W.heap.size → W2.heap[b]? = W.heap[b]?

theorem Quiet.refl (B : Nat) (S : Nat → Prop) (W : World) : Quiet B S W W := ⟨rfl, rfl, rfl, Nat.le_refl _, fun _ _ _ => rfl⟩
theorem Quiet.trans {B : Nat} {S : Nat → Prop} {a b c : World} (h : Quiet B S a b) (k : Quiet B S b c) : Quiet B S a c :=
  ⟨k.os.trans h.os, k.tape.trans h.tape, k.output.trans h.output, Nat.le_trans h.size k.size, fun i hi hl => (k.block i hi (Nat.lt_of_lt_of_le hl h.size)).trans (h.block i hi hl)⟩
theorem Quiet.alloc {B : Nat} {S : Nat → Prop} {a w : World} (h : Quiet B S a w) (o : Obj) : Quiet B S a (w.alloc o) :=
  h.trans ⟨rfl, rfl, rfl, by simp, fun b _ hl => Below.heap_alloc _ _ _ hl⟩
theorem Quiet.drew {B : Nat} {S : Nat → Prop} {a w : World} (h : Quiet B S a w) : Quiet B S a w.drew := ⟨h.os, h.tape, h.output, h.size, h.block⟩
theorem Quiet.drewN {B : Nat} {S : Nat → Prop} {a w : World} (h : Quiet B S a w) (n : Nat) : Quiet B S a (w.drewN n) := ⟨h.os, h.tape, h.output, h.size, h.block⟩
theorem Quiet.of_below {B n : Nat} {S : Nat → Prop} {a w w2 : World} (h : Quiet B S a w) (hb : Below n w w2) (hn : w.heap.size ≤ n) : Quiet B S a w2 :=
  h.trans ⟨hb.os, hb.tape, hb.output, hb.size, fun b _ hl => hb.block b (by omega)⟩

theorem Quiet.below {B n : Nat} {S : Nat → Prop} {a w w2 : World} (h : Below n a w) (hq : Quiet B S w w2) (hB : n ≤ B) (hn : n ≤ w.heap.size) : Below n a w2 :=
  h.trans ⟨hq.os, hq.tape, hq.output, hq.size, fun b hb => hq.block b (.inl (by omega)) (by omega)⟩
theorem Quiet.at_ {B : Nat} {S : Nat → Prop} {w w2 : World} (hq : Quiet B S w w2) {b : Nat} {o : Obj} (h : w.heap[b]? = some o) (hb : b < B ∨ S b) : w2.heap[b]? = some o :=
  (hq.block b hb (Array.getElem?_eq_some_iff.1 h).1).trans h
/-- A caller's invariant that an iterator's own steps leave standing. -/
def Stays (B : Nat) (J : (Nat → Prop) → World → Prop) : Prop := ∀ S W W2, J S W → Quiet B S W W2 → J S W2

/-- What one round does to blocks from B on: those that are not the body's own lie as they lay. -/
structure Upd (B : Nat) (S S' : Nat → Prop) (W W2 : World) : Prop where
  size : W.heap.size ≤ W2.heap.size
  block : ∀ b, B ≤ b → b < W.heap.size → ¬ S b → W2.heap[b]? = W.heap[b]? ∧ ¬ S' b

theorem Upd.refl (B : Nat) (S : Nat → Prop) (W : World) : Upd B S S W W := ⟨Nat.le_refl _, fun _ _ _ hs => ⟨rfl, hs⟩⟩
theorem Upd.trans {B : Nat} {S S' S'' : Nat → Prop} {a b c : World} (h : Upd B S S' a b) (k : Upd B S' S'' b c) : Upd B S S'' a c :=
  ⟨Nat.le_trans h.size k.size, fun i hB hl hs => by
    obtain ⟨h1, h2⟩ := h.block i hB hl hs
    obtain ⟨k1, k2⟩ := k.block i hB (Nat.lt_of_lt_of_le hl h.size) h2
    exact ⟨k1.trans h1, k2⟩⟩
theorem Upd.alloc {B : Nat} {S S' : Nat → Prop} {a w : World} (h : Upd B S S' a w) (o : Obj) : Upd B S S' a (w.alloc o) :=
  h.trans ⟨by simp, fun b _ hl hs => ⟨Below.heap_alloc _ _ _ hl, hs⟩⟩
theorem Upd.drew {B : Nat} {S S' : Nat → Prop} {a w : World} (h : Upd B S S' a w) : Upd B S S' a w.drew := ⟨h.size, h.block⟩
theorem Upd.drewN {B : Nat} {S S' : Nat → Prop} {a w : World} (h : Upd B S S' a w) (n : Nat) : Upd B S S' a (w.drewN n) := ⟨h.size, h.block⟩
theorem Upd.setBox {B : Nat} {S S' : Nat → Prop} {a w : World} (h : Upd B S S' a w) {p : Addr} (hp : p.block < B) (u : Value) : Upd B S S' a (w.setCell p u) :=
  h.trans ⟨by simp [World.setCell], fun b hB _ hs => ⟨Below.heap_setCell _ _ _ _ (by omega), hs⟩⟩
theorem Upd.setOwn {B : Nat} {S S' : Nat → Prop} {a w : World} (h : Upd B S S' a w) {p : Addr} (hp : S' p.block) (u : Value) : Upd B S S' a (w.setCell p u) :=
  h.trans ⟨by simp [World.setCell], fun b _ _ hs => ⟨Below.heap_setCell _ _ _ _ (fun e => hs (by rw [e]; exact hp)), hs⟩⟩
theorem Upd.setNew {B : Nat} {S S' : Nat → Prop} {a w : World} (h : Upd B S S' a w) {p : Addr} (hp : a.heap.size ≤ p.block) (u : Value) : Upd B S S' a (w.setCell p u) :=
  ⟨by simpa [World.setCell] using h.size, fun b hB hl hs => by
    obtain ⟨h1, h2⟩ := h.block b hB hl hs
    exact ⟨(Below.heap_setCell _ _ _ _ (by omega)).trans h1, h2⟩⟩
theorem Upd.of_below {B n : Nat} {S S' : Nat → Prop} {a w w2 : World} (h : Upd B S S' a w) (hb : Below n w w2) (hn : w.heap.size ≤ n) : Upd B S S' a w2 :=
  h.trans ⟨hb.size, fun b _ hl hs => ⟨hb.block b (by omega), hs⟩⟩
theorem Upd.grown {B : Nat} {S S' : Nat → Prop} {a w w2 : World} {row : Option Nat} (h : Upd B S S' a w) (hg : w.grownBy w2 row) (hr : ∀ r, row = some r → S' r) : Upd B S S' a w2 :=
  h.trans ⟨hg.size, fun b _ hl hs => ⟨hg.block b hl (fun e => hs (hr b e.symm)), hs⟩⟩

variable {P : Program}

/-- **An iterator's contract, by numbered rounds**: round k is handed 'encs k', k < N; it has its say after N rounds, or when a round has answered false. 'Prot': blocks that the rounds must leave as they lay in w. -/
def IterAt (P : Program) (gf : Nat) (lb : Array Value) (encs : Nat → Array Value) (N : Nat) (Prot : Nat → Prop) (w : World) : Prop :=
  ∀ (l : Nat) (J : Nat → (Nat → Prop) → World → Prop) (Jx : (Nat → Prop) → World → Prop) (W : World),
    (∀ b, Prot b → b < W.heap.size ∧ W.heap[b]? = w.heap[b]?) → (∀ k, Stays W.heap.size (J k)) → Stays W.heap.size Jx → (∀ k S W1, J k S W1 → ∀ b, S b → b < W1.heap.size) →
    (∀ k S W1, k < N → J k S W1 → W.heap.size ≤ W1.heap.size → (∀ b, Prot b → W1.heap[b]? = w.heap[b]?) →
      YieldAt Fence.wide 0 P l (encs k) W1 fun e W2 => ∃ S', Upd W.heap.size S S' W1 W2 ∧ (∀ b, Prot b → W2.heap[b]? = w.heap[b]?) ∧
        ((e = .returned (.bool true) ∧ J (k + 1) S' W2) ∨ (e = .returned (.bool false) ∧ Jx S' W2))) →
    J 0 (fun _ => False) W →
    CallsIn Fence.wide 0 P gf (#[.func (.yield l) #[] #[]] ++ lb) W fun e W2 => (∃ v, e = .returned v) ∧ ∃ S, J N S W2 ∨ Jx S W2

/-- How the body of a round may be left. -/
def bodyEnd (B : Nat) (Prot : Nat → Prop) (w0 : World) (I : (Nat → Prop) → World → Prop) (Ix : Code → (Nat → Prop) → World → Prop) (S : Nat → Prop) (W : World) : Exit → Act → World → Prop
  | .normal, _, W2 => ∃ S', Upd B S S' W W2 ∧ (∀ b, Prot b → W2.heap[b]? = w0.heap[b]?) ∧ I S' W2
  | .ret, _, W2 => ∃ S', Upd B S S' W W2 ∧ (∀ b, Prot b → W2.heap[b]? = w0.heap[b]?) ∧ Ix .ret S' W2
  | .exit id, _, W2 => ∃ S', Upd B S S' W W2 ∧ (∀ b, Prot b → W2.heap[b]? = w0.heap[b]?) ∧ Ix (.exit id) S' W2
  | .goto t, _, W2 => ∃ S', Upd B S S' W W2 ∧ (∀ b, Prot b → W2.heap[b]? = w0.heap[b]?) ∧ Ix (.goto t) S' W2
  | .panic _, _, _ => False
  | .outgrown, _, _ => False

theorem putObj_quiet {B : Nat} {S : Nat → Prop} (W : World) (l : Nat) (o : Obj) (hB : B ≤ l) (hS : ¬ S l) : Quiet B S W (W.putObj l o) :=
  ⟨rfl, rfl, rfl, by simp, fun b hb _ => World.putObj_heap_other (fun e => by subst e; rcases hb with hb | hb; omega; exact hS hb)⟩
theorem putObj_upd {B : Nat} {S : Nat → Prop} (W : World) (l : Nat) (o : Obj) : ∀ b, B ≤ b → b < W.heap.size → b ≠ l → ¬ S b → (W.putObj l o).heap[b]? = W.heap[b]? ∧ ¬ S b :=
  fun _ _ _ hne hs => ⟨World.putObj_heap_other hne, hs⟩

/-- **The loop.** I k: what holds between two rounds, k of them over; Ix c: a round has left by the jump c. -/
theorem wp_iter {g : Operand} {ps : Array Tmp} {assign body : Code} {Q : Exit → Act → World → Prop} {a : Act} {w : World}
    {gf : Nat} {lb : Array Value} (hg : a.eval g = .func (.func gf) #[] lb) (eg : ∀ args w, (callFunc gf args).run P w = .ok (.enter gf args) w)
    {encs : Nat → Array Value} {N : Nat} {Prot : Nat → Prop} {w0 : World} (hseq : IterAt P gf lb encs N Prot w0)
    (hprot : ∀ b, Prot b → b < w.heap.size ∧ w.heap[b]? = w0.heap[b]?) (hps : ∀ k, (encs k).size = ps.size)
    (I : Nat → (Nat → Prop) → World → Prop) (Ix : Code → (Nat → Prop) → World → Prop) (hI : ∀ k, Stays w.heap.size (I k)) (hIx : ∀ c, Stays w.heap.size (Ix c)) (h0 : I 0 (fun _ => False) w)
    (Ax : Nat → (Nat → Prop) → Act → World → Prop)
    (hAx : ∀ k S a1 W l r r2, Ax k S a1 W → W.heap[l]? = some (.loop r) → Ax k S a1 (W.putObj l (.loop r2)))
    (hassign : ∀ (l k : Nat) (S : Nat → Prop) (W : World) (K : Act → World → Prop), w.heap.size ≤ W.heap.size → (∀ b, S b → b < W.heap.size) → (∀ a1 W1, Quiet w.heap.size S W W1 → Upd w.heap.size S S W W1 → Ax k S a1 W1 → K a1 W1) →
      assign.wpIn (Fence.wide.inRound l) 0 P (Exit.then K (fun _ _ _ => False)) { tmps := (ps.zip (encs k)).foldl (fun t (p, v) => t.setIfInBounds p v) a.tmps, defers := [] } W)
    (hS : ∀ k S W, I k S W → ∀ b, S b → b < W.heap.size)
    (hbody : ∀ (l k : Nat) (S : Nat → Prop) (a1 : Act) (W : World), k < N → I k S W → (∀ b, Prot b → W.heap[b]? = w0.heap[b]?) → Ax k S a1 W → w.heap.size ≤ W.heap.size →
      body.wpIn (Fence.wide.inRound l) 0 P (bodyEnd w.heap.size Prot w0 (I (k + 1)) Ix S W) a1 W)
    (hdone : ∀ (D : Nat) (S : Nat → Prop) (W : World), w.heap.size ≤ D → I N S W → W.heap[D]? = some (.deferred (some [])) → Q .normal { a with defers := { target := .collected D, args := #[] } :: a.defers } W)
    (hstop : ∀ (D : Nat) (c : Code) (S : Nat → Prop) (W : World), w.heap.size ≤ D → Ix c S W → W.heap[D]? = some (.deferred (some [])) → c.wpIn Fence.wide 0 P Q { a with defers := { target := .collected D, args := #[] } :: a.defers } W) :
    (Code.rangeFunc g ps assign body).wpIn Fence.wide 0 P Q a w := by
  refine wpIn_rangeFunc ?_
  intro fn _
  obtain ⟨rec, hrec⟩ : ∃ rec : LoopState → Option Code → Loop, rec = fun st pe => { state := st, pending := pe, fn, tmps := a.tmps, params := ps, assign, body, defers := w.heap.size } := ⟨_, rfl⟩
  obtain ⟨W1, hW1⟩ : ∃ W1, (w.alloc (.deferred (some []))).alloc (.loop (rec .ready none)) = W1 := ⟨_, rfl⟩
  have hL1 : W1.heap[w.heap.size + 1]? = some (.loop (rec .ready none)) := by
    rw [← hW1]; have h := World.alloc_heap_new (w.alloc (.deferred (some []))) (.loop (rec .ready none)); rwa [World.size_alloc] at h
  have hK1 : W1.heap[w.heap.size]? = some (.deferred (some [])) := by
    rw [← hW1]; exact (Below.heap_alloc _ _ _ (by simp)).trans (World.alloc_heap_new w _)
  have hq1 : Quiet w.heap.size (fun _ => False) w W1 := by rw [← hW1]; exact ((Quiet.refl _ _ w).alloc _).alloc _
  have hs1 : W1.heap.size = w.heap.size + 2 := by rw [← hW1]; simp
  have hp1 : ∀ b, Prot b → b < W1.heap.size ∧ W1.heap[b]? = w0.heap[b]? := fun b hb => by
    obtain ⟨h1, h2⟩ := hprot b hb
    exact ⟨by omega, (hq1.block b (.inl h1) h1).trans h2⟩
  have inner : ∀ (i : Nat) (S S' : Nat → Prop) (W W2 : World), w.heap.size ≤ i → i < w.heap.size + 2 → i < W.heap.size → ¬ S i → Upd w.heap.size S S' W W2 → W2.heap[i]? = W.heap[i]? ∧ ¬ S' i := fun i S S' W W2 h1 _ h3 h4 hu => hu.block i h1 h3 h4
  refine ⟨w.heap.size + 1, [{ target := .collected w.heap.size, args := #[] }], W1, { target := .fn (.func gf) lb, args := #[.func (.yield (w.heap.size + 1)) #[] #[]] }, W1, gf,
    #[.func (.yield (w.heap.size + 1)) #[] #[]] ++ lb, W1, ?_, ?_, ?_, ?_, fun h => by simp [Fence.wide] at h, ?_⟩
  · rw [← hW1, hrec]; exact run_enterLoop_outer _ _ _ _ _
  · simp only [resolve, hg]
    simp [go_sem]
  · exact fun _ _ => trivial
  · simp [invoke, go_sem, eg]
  · refine (hseq (w.heap.size + 1)
      (fun k S W => I k S W ∧ ¬ S w.heap.size ∧ ¬ S (w.heap.size + 1) ∧ W1.heap.size ≤ W.heap.size ∧ W.heap[w.heap.size + 1]? = some (.loop (rec .ready none)) ∧ W.heap[w.heap.size]? = some (.deferred (some [])))
      (fun S W => ∃ c, Ix c S W ∧ ¬ S w.heap.size ∧ ¬ S (w.heap.size + 1) ∧ W1.heap.size ≤ W.heap.size ∧ W.heap[w.heap.size + 1]? = some (.loop (rec .done (some c))) ∧ W.heap[w.heap.size]? = some (.deferred (some [])))
      W1 hp1 ?_ ?_ (fun k S W1 h => hS k S W1 h.1) ?_ ⟨hI 0 _ _ _ h0 hq1, fun h => h, fun h => h, Nat.le_refl _, hL1, hK1⟩).mono ?_
    · rintro k S W W2 ⟨hi, n1, n2, hsz, hl, hk⟩ hq
      have hw : w.heap.size + 1 < W.heap.size := (Array.getElem?_eq_some_iff.1 hl).1
      exact ⟨hI k _ _ _ hi ⟨hq.os, hq.tape, hq.output, hq.size, fun b hb hlt => hq.block b (hb.imp (fun h => by omega) id) hlt⟩, n1, n2, Nat.le_trans hsz hq.size,
        (hq.block _ (.inl (by omega)) hw).trans hl, (hq.block _ (.inl (by omega)) (by omega)).trans hk⟩
    · rintro S W W2 ⟨c, hi, n1, n2, hsz, hl, hk⟩ hq
      have hw : w.heap.size + 1 < W.heap.size := (Array.getElem?_eq_some_iff.1 hl).1
      exact ⟨c, hIx c _ _ _ hi ⟨hq.os, hq.tape, hq.output, hq.size, fun b hb hlt => hq.block b (hb.imp (fun h => by omega) id) hlt⟩, n1, n2, Nat.le_trans hsz hq.size,
        (hq.block _ (.inl (by omega)) hw).trans hl, (hq.block _ (.inl (by omega)) (by omega)).trans hk⟩
    · rintro k S W hkN ⟨hi, n1, n2, hsz, hl, hk⟩ _ hpr
      have hlt : w.heap.size + 1 < W.heap.size := (Array.getElem?_eq_some_iff.1 hl).1
      have hy := run_yield (P := P) (args := encs k) hl (by rw [hrec]; exact hps k)
      rw [hrec] at hy
      refine ⟨fn, _, assign, body, hy, roundIn_of_wpIn trivial (hassign _ k S W _ (by omega) (hS k S W hi) ?_)⟩
      intro a1 Wa hqa hua hax
      have hla := (inner (w.heap.size + 1) _ _ _ _ (by omega) (by omega) hlt n2 hua).1.trans hl
      have hka := (inner w.heap.size _ _ _ _ (by omega) (by omega) (by omega) n1 hua).1.trans hk
      have hsa := hua.size
      refine ⟨_, run_beginRound hla (by rw [hrec]), ?_⟩
      have hlt2 : w.heap.size + 1 < Wa.heap.size := by omega
      have hia := hI k _ _ _ hi hqa
      obtain ⟨W2, hW2⟩ : ∃ W2, Wa.putObj (w.heap.size + 1) (.loop { rec .ready none with state := .busy }) = W2 := ⟨_, rfl⟩
      have hq2 : Quiet w.heap.size S Wa W2 := by rw [← hW2]; exact putObj_quiet _ _ _ (by omega) n2
      have hax2 : Ax k S a1 W2 := by rw [← hW2]; exact hAx _ _ _ _ _ _ _ hax hla
      have hl2 : W2.heap[w.heap.size + 1]? = some (.loop { rec .ready none with state := .busy }) := by rw [← hW2]; exact World.putObj_heap_same hlt2
      have hk2 : W2.heap[w.heap.size]? = some (.deferred (some [])) := by rw [← hW2]; exact (World.putObj_heap_other (by omega)).trans hka
      have hs2 : W2.heap.size = Wa.heap.size := by rw [← hW2]; simp
      have hpa : ∀ b, Prot b → W2.heap[b]? = w0.heap[b]? := fun b hb => by
        obtain ⟨h1, h2⟩ := hprot b hb
        rw [← hpr b hb, ← hqa.block b (.inl h1) (by omega)]
        exact hq2.block b (.inl h1) (by omega)
      rw [hW2]
      refine wpIn_mono (hbody _ k S a1 W2 hkN (hI k _ _ _ hia hq2) hpa hax2 (by omega)) ?_
      have fin : ∀ (jump : Option Code) (S' : Nat → Prop) (W3 : World), Upd w.heap.size S S' W2 W3 → (∀ b, Prot b → W3.heap[b]? = w0.heap[b]?) →
          ∃ W4, (Instr.endRound (w.heap.size + 1) jump).run P W3 = .ok (.bool jump.isNone) W4 ∧ Upd W1.heap.size S S' W W4 ∧ (∀ b, Prot b → W4.heap[b]? = w0.heap[b]?) ∧ Quiet w.heap.size S' W3 W4 ∧
            ¬ S' w.heap.size ∧ ¬ S' (w.heap.size + 1) ∧ W1.heap.size ≤ W4.heap.size ∧
            W4.heap[w.heap.size + 1]? = some (.loop (rec (if jump.isNone then .ready else .done) jump)) ∧ W4.heap[w.heap.size]? = some (.deferred (some [])) := fun jump S' W3 hu hp3 => by
        have hl3 := (inner (w.heap.size + 1) _ _ _ _ (by omega) (by omega) (by omega) n2 hu)
        have hk3 := (inner w.heap.size _ _ _ _ (by omega) (by omega) (by omega) n1 hu)
        have hl4 := hl3.1.trans hl2
        have hs3 := hu.size
        have hr := run_endRound (P := P) jump hl4
        have e : ({ rec .ready none with state := if jump.isNone then LoopState.ready else LoopState.done, pending := jump } : Loop) = rec (if jump.isNone then .ready else .done) jump := by rw [hrec]
        simp only at hr
        rw [e] at hr
        have hq4 : Quiet w.heap.size S' W3 (W3.putObj (w.heap.size + 1) (.loop (rec (if jump.isNone then .ready else .done) jump))) := putObj_quiet _ _ _ (by omega) hl3.2
        refine ⟨_, hr, ⟨by simp; omega, fun b hB hlt' hs' => ?_⟩, fun b hb => ?_, hq4, hk3.2, hl3.2, by simp; omega, World.putObj_heap_same (by omega), (World.putObj_heap_other (by omega)).trans (hk3.1.trans hk2)⟩
        · obtain ⟨g1, g2⟩ := hua.block b (by omega) hlt' hs'
          obtain ⟨g3, g4⟩ := hu.block b (by omega) (by omega) g2
          refine ⟨(World.putObj_heap_other (by omega)).trans (g3.trans ?_), g4⟩
          rw [← hW2, World.putObj_heap_other (by omega)]
          exact g1
        · obtain ⟨h1, h2⟩ := hprot b hb
          exact (hq4.block b (.inl h1) (by omega)).trans (hp3 b hb)
      rintro e a3 W3 hp
      cases e with
      | normal =>
        obtain ⟨S', hu, hp3, hi3⟩ := hp
        obtain ⟨W4, hr, hu4, hp4, hq4, m1, m2, m3, hl4, hk4⟩ := fin none S' W3 hu hp3
        exact ⟨_, _, hr, S', hu4, hp4, .inl ⟨rfl, hI _ _ _ _ hi3 hq4, m1, m2, m3, hl4, hk4⟩⟩
      | ret =>
        obtain ⟨S', hu, hp3, hi3⟩ := hp
        obtain ⟨W4, hr, hu4, hp4, hq4, m1, m2, m3, hl4, hk4⟩ := fin (some .ret) S' W3 hu hp3
        exact ⟨_, _, hr, S', hu4, hp4, .inr ⟨rfl, .ret, hIx _ _ _ _ hi3 hq4, m1, m2, m3, hl4, hk4⟩⟩
      | exit id =>
        obtain ⟨S', hu, hp3, hi3⟩ := hp
        obtain ⟨W4, hr, hu4, hp4, hq4, m1, m2, m3, hl4, hk4⟩ := fin (some (.exit id)) S' W3 hu hp3
        exact ⟨_, _, hr, S', hu4, hp4, .inr ⟨rfl, .exit id, hIx _ _ _ _ hi3 hq4, m1, m2, m3, hl4, hk4⟩⟩
      | goto t =>
        obtain ⟨S', hu, hp3, hi3⟩ := hp
        obtain ⟨W4, hr, hu4, hp4, hq4, m1, m2, m3, hl4, hk4⟩ := fin (some (.goto t)) S' W3 hu hp3
        exact ⟨_, _, hr, S', hu4, hp4, .inr ⟨rfl, .goto t, hIx _ _ _ _ hi3 hq4, m1, m2, m3, hl4, hk4⟩⟩
      | panic ch => exact hp.elim
      | outgrown => exact hp.elim
    · rintro e W2 ⟨⟨v, rfl⟩, S, (⟨hi, n1, n2, hsz, hl, hk⟩ | ⟨c, hi, n1, n2, hsz, hl, hk⟩)⟩
      · refine ⟨none, _, by have h := run_endLoop (P := P) hl (by rw [hrec]; simp); rw [hrec] at h; exact h, ?_⟩
        exact hdone _ S _ (Nat.le_refl _) (hI _ _ _ _ hi (putObj_quiet _ _ _ (by omega) n2)) ((World.putObj_heap_other (by omega)).trans hk)
      · refine ⟨some c, _, by have h := run_endLoop (P := P) hl (by rw [hrec]; simp); rw [hrec] at h; exact h, ?_⟩
        exact hstop _ c S _ (Nat.le_refl _) (hIx _ _ _ _ hi (putObj_quiet _ _ _ (by omega) n2)) ((World.putObj_heap_other (by omega)).trans hk)

/-- append in a fence, the new value written out: the old row, or the block that is made now. -/
theorem in_append {F : Fence} {n : Nat} (w : World) {ops : Array Oper} {rest : List Oper} {o : Oper} {a : Act} {Q : Exit → Act → World → Prop}
    (hg : o.guard = none) (s x : Operand) (t : TypeId) (hop : o.op = Op.call { callee := Callee.builtin Builtin.append, args := #[s, x], argTypes := #[t, t] })
    (base : Nat) (e : TypeId) (i : TypeInfo) (z : Value) (size bytes : Nat) (h1 : P.underlying t = some (.slice e)) (h2 : P.info? e = some i) (h3 : i.zero = some z) (h4 : i.size = size) (h5 : i.bytes = bytes) (h6 : z.cells.size = size) (h7 : 0 < size)
    (v : Value) (k : Nat) (xs : List Value) (hs : a.eval s = v) (hown : w.ownsRow base e size v k xs) (ad : Addr) (m c : Nat) (news : List Value) (hx : a.eval x = .slice (some ad) m c) (hn : news.length = m * size)
    (hc : ∀ j u, news[j]? = some u → w.cell? (ad.add j) = some u) (h1c : ∀ u ∈ news, u.oneCell' = true) (hm : 0 < m) (b1 : k + m ≤ maxLen) (b2 : (k + m) * bytes ≤ 140737488355328) (b3 : base ≤ w.heap.size)
    (hK : ∀ g cap w', w'.ownsRow base e size (.slice (some ⟨g, 0, none⟩) (k + m) cap) (k + m) (xs ++ news) → w.grownBy w' v.ownBlock → (v.ownBlock = some g ∨ w.heap.size ≤ g) → g < w'.heap.size → wpListIn F n P ops Q rest (a.put o.dst (.slice (some ⟨g, 0, none⟩) (k + m) cap)) w') :
    wpListIn F n P ops Q (o :: rest) a w := by
  refine wpListIn_plain hg fun K hK' => ?_
  obtain ⟨g, cap, w', hrun, r1, r2, r3, r4⟩ := run_append_lies (P := P) w t o.type base e i z size bytes h1 h2 h3 h4 h5 h6 h7 v k xs hown ad m c news hn hc h1c hm b1 b2 b3 w.heap.size rfl
  unfold Oper.wpIn
  refine ⟨?_, ?_⟩
  · simp [Oper.about, hop, resolve, Target.leads, Sem.run_pure]
  · rw [Oper.semAt_plain F _ _ (by rw [hop]; intro c hc'; cases hc')]
    simp [execOp, hop, resolve, invoke, builtin, hs, hx, hrun, Result.andThen]
    exact hK' _ _ (hK g cap w' r1 r2 (r3.imp id (fun h => by omega)) r4)

/-- A round that appends to its own slice value, kept in the box b: the blocks' account. -/
theorem upd_append {B : Nat} {v : Value} {g k cap : Nat} {W w1 w2 : World} {b : Nat} {u : Value} (hb : b < B) (h1 : Upd B (OwnOf v) (OwnOf v) W w1) (hg : w1.grownBy w2 v.ownBlock) (hat : v.ownBlock = some g ∨ w1.heap.size ≤ g) :
    Upd B (OwnOf v) (OwnOf (.slice (some ⟨g, 0, none⟩) k cap)) W (w2.setCell ⟨b, 0, none⟩ u) := by
  have h2 : Upd B (OwnOf v) (OwnOf (.slice (some ⟨g, 0, none⟩) k cap)) W w2 := by
    refine ⟨Nat.le_trans h1.size hg.size, fun i hB hl hs => ?_⟩
    obtain ⟨g1, g2⟩ := h1.block i hB hl hs
    refine ⟨(hg.block i (Nat.lt_of_lt_of_le hl h1.size) (fun e => hs e.symm)).trans g1, fun e => ?_⟩
    have e' : g = i := by simpa [OwnOf, Value.ownBlock] using e
    subst e'
    rcases hat with h | h
    · exact hs h
    · have := h1.size
      omega
  exact h2.setBox hb u
end Go.KP
