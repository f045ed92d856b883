/-
  Texts laid together.
-/
import Derived.Test.YtfcjaljaomknjaaGreatDoorMH10
import Derived.Test.YtfcjaljaomknjaaGreatDoorMH4
import Derived.Test.YtfcjaljaomknjaaGreatDoorMH5
import Derived.Test.YtfcjaljaomknjaaGreatDoorMH9
import Derived.Test.YtfcjaljaomknjaaGreatDoorMH2
import Derived.Test.YtfcjaljaomknjaaGreatDoorMH3
import Derived.Test.YtfcjaljaomknjaaGreatDoorMH1
import Derived.BigQuiet
import Derived.Lib.MinMax
import Derived.Lib.Join
import Derived.Lib.TrimUEq
set_option maxRecDepth 100000
set_option maxHeartbeats 8000000
namespace Go.Proofs.YtfcjaljaomknjaaGreatDoor
open Go.RowKit Go.KP Go.KI Go.Shelf

theorem ratS_len {x : Rat} (h : fitsQ x) : (ratS x).length ≤ 1000 := by
  have h1 := itoa_len x.num
  have h2 := fits_len.1 h.1
  have h3 := fits_nat.1 h.2
  unfold ratS
  split
  · omega
  · rw [List.length_append, List.length_cons]
    omega
theorem good_len {s : ByteArray} {x : Rat} (h : s.data.toList = ratS x) (f : fitsQ x) : s.size ≤ 1000000 := by
  have := ratS_len f
  rw [← bytes_len, h]
  omega
theorem good_val {s : ByteArray} {x : Rat} (h : s.data.toList = ratS x) (f : fitsQ x) : chkQ s.data.toList = 0 ∧ valQ s.data.toList = x := by
  rw [h, ratS_num]
  exact ⟨chkQ_fits f, rfl⟩
theorem qsub_to {s t : ByteArray} {x y : Rat} (h1 : s.data.toList = ratS x) (h2 : t.data.toList = ratS y) (f1 : fitsQ x) (f2 : fitsQ y) (hc : subC x y) (B : Nat) (w : World) (hB : B ≤ w.heap.size) (hT : PQ B w) :
    Calls Tryz.prog 96 #[.string s, .string t] w (Ret w (.tuple #[.string (strB (ratS (x - y))), .int .i64 0])) := by
  obtain ⟨a1, a2⟩ := good_val h1 f1
  obtain ⟨b1, b2⟩ := good_val h2 f2
  have h := qSub_any s t (good_len h1 f1) (good_len h2 f2) B w hB hT
  unfold qopS qopE at h
  rw [if_pos (zero_bothQ a1 b1), if_pos (zero_bothQ a1 b1), a2, b2, if_pos hc, if_pos hc] at h
  exact h
theorem qdiv_to {s t : ByteArray} {x y : Rat} (h1 : s.data.toList = ratS x) (h2 : t.data.toList = ratS y) (f1 : fitsQ x) (f2 : fitsQ y) (hy : y ≠ 0) (hc : cmpC x y) (B : Nat) (w : World) (hB : B ≤ w.heap.size) (hT : PQ B w) :
    Calls Tryz.prog 95 #[.string s, .string t] w (Ret w (.tuple #[.string (strB (ratS (x / y))), .int .i64 0])) := by
  obtain ⟨a1, a2⟩ := good_val h1 f1
  obtain ⟨b1, b2⟩ := good_val h2 f2
  have h := qDiv_any s t (good_len h1 f1) (good_len h2 f2) B w hB hT
  unfold divS divE at h
  rw [if_pos (zero_bothQ a1 b1), if_pos (zero_bothQ a1 b1), a2, b2, if_neg hy, if_neg hy, if_pos hc, if_pos hc] at h
  exact h
end Go.Proofs.YtfcjaljaomknjaaGreatDoor
namespace Go.KI
open Go

structure V3 where
  x : Rat
  y : Rat
  z : Rat
theorem V3.ext {a b : V3} (h1 : a.x = b.x) (h2 : a.y = b.y) (h3 : a.z = b.z) : a = b := by
  cases a
  cases b
  cases h1
  cases h2
  cases h3
  rfl
theorem V3.eq_iff {a b : V3} : a = b ↔ (a.x = b.x ∧ a.y = b.y ∧ a.z = b.z) := ⟨fun h => by rw [h]; exact ⟨rfl, rfl, rfl⟩, fun h => V3.ext h.1 h.2.1 h.2.2⟩
instance : DecidableEq V3 := fun _ _ => decidable_of_iff _ V3.eq_iff.symm
end Go.KI
namespace Go.Proofs.YtfcjaljaomknjaaGreatDoor
open Go.RowKit Go.KP Go.KI Go.Shelf
attribute [local go_sem] Oper.semAt_some

def T (q : Rat) : ByteArray := strB (ratS q)
def ResO (w : World) (o : Option Rat) (e : Ending) (w' : World) : Prop := (∃ v, o = some v ∧ Ret w (.tuple #[.string (T v), .int .i64 0]) e w') ∨ (o = none ∧ Ret w (.tuple #[.string ⟨#[]⟩, .int .i64 4]) e w')
theorem ResO.of {w : World} {o : Option Rat} {x : Rat} (h : o = some x) {e : Ending} {w' : World} (hr : ResO w o e w') : Ret w (.tuple #[.string (T x), .int .i64 0]) e w' := by
  rcases hr with ⟨v, h1, h2⟩ | ⟨h1, _⟩
  · rw [h] at h1
    cases h1
    exact h2
  · rw [h] at h1
    cases h1
structure BinFn (g : Nat) (F : Rat → Rat → Option Rat) : Prop where
  enters : ∀ args w, (callFunc g args).run Tryz.prog w = .ok (.enter g args) w
  calls : ∀ (x y : Rat) (B : Nat) (w : World), fitsQ x → fitsQ y → B ≤ w.heap.size → PQ B w → Calls Tryz.prog g #[.string (T x), .string (T y)] w (ResO w (F x y))
end Go.Proofs.YtfcjaljaomknjaaGreatDoor
namespace Go.KI
open Go
def shortQ (q : Rat) : Prop := (Lib.decDigits q.num.natAbs).length ≤ 9 ∧ (Lib.decDigits q.den).length ≤ 9
instance (q : Rat) : Decidable (shortQ q) := inferInstanceAs (Decidable (_ ∧ _))
end Go.KI
namespace Go.Proofs.YtfcjaljaomknjaaGreatDoor
open Go.RowKit Go.KP Go.KI Go.Shelf
attribute [local go_sem] Oper.semAt_some

open Go.RowKit Go.KP Go.KI Go.Shelf
attribute [local go_sem] Oper.semAt_some

structure MakeOk (n d : Int) : Prop where
  pos : 0 < d
  fn : fits n
  fd : fits d
end Go.Proofs.YtfcjaljaomknjaaGreatDoor
namespace Go.KP
open Go Go.RowKit

structure QuietO (O : Nat → Prop) (B : Nat) (S : Nat → Prop) (W W2 : World) : Prop where
  os : W2.os = W.os
  tape : W2.tape = W.tape
  output : W2.output = W.output
  size : W.heap.size ≤ W2.heap.size
  block : ∀ b, ¬ O b → (b < B ∨ S b) → b < W.heap.size → W2.heap[b]? = W.heap[b]?
theorem Quiet.toO {B : Nat} {S : Nat → Prop} {W W2 : World} (h : Quiet B S W W2) (O : Nat → Prop) : QuietO O B S W W2 :=
  ⟨h.os, h.tape, h.output, h.size, fun b _ hb hl => h.block b hb hl⟩
theorem QuietO.refl (O : Nat → Prop) (B : Nat) (S : Nat → Prop) (W : World) : QuietO O B S W W := ⟨rfl, rfl, rfl, Nat.le_refl _, fun _ _ _ _ => rfl⟩
theorem QuietO.trans {O : Nat → Prop} {B : Nat} {S : Nat → Prop} {a b c : World} (h : QuietO O B S a b) (k : QuietO O B S b c) : QuietO O B S a c :=
  ⟨k.os.trans h.os, k.tape.trans h.tape, k.output.trans h.output, Nat.le_trans h.size k.size, fun i hn hi hl => (k.block i hn hi (Nat.lt_of_lt_of_le hl h.size)).trans (h.block i hn hi hl)⟩
theorem QuietO.of_below {O : Nat → Prop} {B n : Nat} {S : Nat → Prop} {a w w2 : World} (h : QuietO O B S a w) (hb : Below n w w2) (hn : w.heap.size ≤ n) : QuietO O B S a w2 :=
  h.trans ⟨hb.os, hb.tape, hb.output, hb.size, fun b _ _ hl => hb.block b (by omega)⟩
theorem QuietO.set {O : Nat → Prop} {B : Nat} {S : Nat → Prop} {a w : World} (h : QuietO O B S a w) {p : Addr} (hp : O p.block) (u : Value) : QuietO O B S a (w.setCell p u) :=
  h.trans ⟨rfl, rfl, rfl, by simp [World.setCell], fun b hn _ _ => Below.heap_setCell _ _ _ _ (fun e => hn (by rw [e]; exact hp))⟩
def StaysO (O : Nat → Prop) (B : Nat) (J : (Nat → Prop) → World → Prop) : Prop := ∀ S W W2, J S W → QuietO O B S W W2 → J S W2
variable {P : Program}

def IterOwn (P : Program) (gf : Nat) (lb : Array Value) (encs : Nat → Array Value) (N : Nat) (Ke : Nat → World → Prop) (O : Nat → Prop) (w : World) : Prop :=
  ∀ (l : Nat) (J : Nat → (Nat → Prop) → World → Prop) (Jx : (Nat → Prop) → World → Prop) (W : World),
    (∀ b, O b → b < W.heap.size ∧ W.heap[b]? = w.heap[b]?) → (∀ k, StaysO O W.heap.size (J k)) → StaysO O W.heap.size Jx → (∀ k S W1, J k S W1 → ∀ b, S b → b < W1.heap.size) → (∀ k S W1, k ≤ N → J k S W1 → Ke k W1) →
    (∀ k S W1, k < N → J k S W1 → W.heap.size ≤ W1.heap.size →
      YieldAt Fence.wide 0 P l (encs k) W1 fun e W2 => ∃ S', Upd W.heap.size S S' W1 W2 ∧ (∀ b, O b → W2.heap[b]? = W1.heap[b]?) ∧
        ((e = .returned (.bool true) ∧ J (k + 1) S' W2) ∨ (e = .returned (.bool false) ∧ Jx S' W2))) →
    J 0 (fun _ => False) W →
    CallsIn Fence.wide 0 P gf (#[.func (.yield l) #[] #[]] ++ lb) W fun e W2 => (∃ v, e = .returned v) ∧ ∃ S, J N S W2 ∨ Jx S W2

def bodyEndO (B : Nat) (O : Nat → Prop) (I : (Nat → Prop) → World → Prop) (Ix : Code → (Nat → Prop) → World → Prop) (S : Nat → Prop) (W : World) : Exit → Act → World → Prop
  | .normal, _, W2 => ∃ S', Upd B S S' W W2 ∧ (∀ b, O b → W2.heap[b]? = W.heap[b]?) ∧ I S' W2
  | .ret, _, W2 => ∃ S', Upd B S S' W W2 ∧ (∀ b, O b → W2.heap[b]? = W.heap[b]?) ∧ Ix .ret S' W2
  | .exit id, _, W2 => ∃ S', Upd B S S' W W2 ∧ (∀ b, O b → W2.heap[b]? = W.heap[b]?) ∧ Ix (.exit id) S' W2
  | .goto t, _, W2 => ∃ S', Upd B S S' W W2 ∧ (∀ b, O b → W2.heap[b]? = W.heap[b]?) ∧ Ix (.goto t) S' W2
  | .panic _, _, _ => False
  | .outgrown, _, _ => False

theorem wp_iter_own {g : Operand} {ps : Array Tmp} {assign body : Code} {Q : Exit → Act → World → Prop} {a : Act} {w : World}
    {gf : Nat} {lb : Array Value} (hg : a.eval g = .func (.func gf) #[] lb) (eg : ∀ args w, (callFunc gf args).run P w = .ok (.enter gf args) w)
    {encs : Nat → Array Value} {N : Nat} {Ke : Nat → World → Prop} {O : Nat → Prop} {w0 : World} (hseq : IterOwn P gf lb encs N Ke O w0) (hO : ∀ b, O b → b < w.heap.size ∧ w.heap[b]? = w0.heap[b]?) (hps : ∀ k, (encs k).size = ps.size)
    (I : Nat → (Nat → Prop) → World → Prop) (Ix : Code → (Nat → Prop) → World → Prop) (hI : ∀ k, StaysO O w.heap.size (I k)) (hIx : ∀ c, StaysO O w.heap.size (Ix c)) (h0 : I 0 (fun _ => False) w) (hke : ∀ k S W, k ≤ N → I k S W → Ke k W)
    (Ax : Nat → (Nat → Prop) → Act → World → Prop)
    (hAx : ∀ k S a1 W l r r2, Ax k S a1 W → W.heap[l]? = some (.loop r) → Ax k S a1 (W.putObj l (.loop r2)))
    (hassign : ∀ (l k : Nat) (S : Nat → Prop) (W : World) (K : Act → World → Prop), w.heap.size ≤ W.heap.size → (∀ b, S b → b < W.heap.size) → (∀ a1 W1, Quiet w.heap.size S W W1 → Upd w.heap.size S S W W1 → Ax k S a1 W1 → K a1 W1) →
      assign.wpIn (Fence.wide.inRound l) 0 P (Exit.then K (fun _ _ _ => False)) { tmps := (ps.zip (encs k)).foldl (fun t (p, v) => t.setIfInBounds p v) a.tmps, defers := [] } W)
    (hS : ∀ k S W, I k S W → ∀ b, S b → b < W.heap.size)
    (hbody : ∀ (l k : Nat) (S : Nat → Prop) (a1 : Act) (W : World), k < N → I k S W → Ax k S a1 W → w.heap.size ≤ W.heap.size →
      body.wpIn (Fence.wide.inRound l) 0 P (bodyEndO w.heap.size O (I (k + 1)) Ix S W) a1 W)
    (hdone : ∀ (D : Nat) (S : Nat → Prop) (W : World), w.heap.size ≤ D → I N S W → W.heap[D]? = some (.deferred (some [])) → Q .normal { a with defers := { target := .collected D, args := #[] } :: a.defers } W)
    (hstop : ∀ (D : Nat) (c : Code) (S : Nat → Prop) (W : World), w.heap.size ≤ D → Ix c S W → W.heap[D]? = some (.deferred (some [])) → c.wpIn Fence.wide 0 P Q { a with defers := { target := .collected D, args := #[] } :: a.defers } W) :
    (Code.rangeFunc g ps assign body).wpIn Fence.wide 0 P Q a w := by
  refine wpIn_rangeFunc ?_
  intro fn _
  obtain ⟨rec, hrec⟩ : ∃ rec : LoopState → Option Code → Loop, rec = fun st pe => { state := st, pending := pe, fn, tmps := a.tmps, params := ps, assign, body, defers := w.heap.size } := ⟨_, rfl⟩
  obtain ⟨W1, hW1⟩ : ∃ W1, (w.alloc (.deferred (some []))).alloc (.loop (rec .ready none)) = W1 := ⟨_, rfl⟩
  have hL1 : W1.heap[w.heap.size + 1]? = some (.loop (rec .ready none)) := by
    rw [← hW1]; have h := World.alloc_heap_new (w.alloc (.deferred (some []))) (.loop (rec .ready none)); rwa [World.size_alloc] at h
  have hK1 : W1.heap[w.heap.size]? = some (.deferred (some [])) := by
    rw [← hW1]; exact (Below.heap_alloc _ _ _ (by simp)).trans (World.alloc_heap_new w _)
  have hq1 : Quiet w.heap.size (fun _ => False) w W1 := by rw [← hW1]; exact ((Quiet.refl _ _ w).alloc _).alloc _
  have hs1 : W1.heap.size = w.heap.size + 2 := by rw [← hW1]; simp
  have hn0 : ¬ O w.heap.size := fun h => by have := (hO _ h).1; omega
  have hn1 : ¬ O (w.heap.size + 1) := fun h => by have := (hO _ h).1; omega
  have hO1 : ∀ b, O b → b < W1.heap.size ∧ W1.heap[b]? = w0.heap[b]? := fun b hb => by
    obtain ⟨h1, h2⟩ := hO b hb
    exact ⟨by omega, (hq1.block b (.inl h1) h1).trans h2⟩
  have inner : ∀ (i : Nat) (S S' : Nat → Prop) (W W2 : World), w.heap.size ≤ i → i < w.heap.size + 2 → i < W.heap.size → ¬ S i → Upd w.heap.size S S' W W2 → W2.heap[i]? = W.heap[i]? ∧ ¬ S' i := fun i S S' W W2 h1 _ h3 h4 hu => hu.block i h1 h3 h4
  refine ⟨w.heap.size + 1, [{ target := .collected w.heap.size, args := #[] }], W1, { target := .fn (.func gf) lb, args := #[.func (.yield (w.heap.size + 1)) #[] #[]] }, W1, gf,
    #[.func (.yield (w.heap.size + 1)) #[] #[]] ++ lb, W1, ?_, ?_, ?_, ?_, fun h => by simp [Fence.wide] at h, ?_⟩
  · rw [← hW1, hrec]; exact run_enterLoop_outer _ _ _ _ _
  · simp only [resolve, hg]
    simp [go_sem]
  · exact fun _ _ => trivial
  · simp [invoke, go_sem, eg]
  · refine (hseq (w.heap.size + 1)
      (fun k S W => I k S W ∧ ¬ S w.heap.size ∧ ¬ S (w.heap.size + 1) ∧ W1.heap.size ≤ W.heap.size ∧ W.heap[w.heap.size + 1]? = some (.loop (rec .ready none)) ∧ W.heap[w.heap.size]? = some (.deferred (some [])))
      (fun S W => ∃ c, Ix c S W ∧ ¬ S w.heap.size ∧ ¬ S (w.heap.size + 1) ∧ W1.heap.size ≤ W.heap.size ∧ W.heap[w.heap.size + 1]? = some (.loop (rec .done (some c))) ∧ W.heap[w.heap.size]? = some (.deferred (some [])))
      W1 hO1 ?_ ?_ (fun k S W1 h => hS k S W1 h.1) (fun k S W1 hk h => hke k S W1 hk h.1) ?_ ⟨hI 0 _ _ _ h0 (hq1.toO O), fun h => h, fun h => h, Nat.le_refl _, hL1, hK1⟩).mono ?_
    · rintro k S W W2 ⟨hi, n1, n2, hsz, hl, hk⟩ hq
      have hw : w.heap.size + 1 < W.heap.size := (Array.getElem?_eq_some_iff.1 hl).1
      exact ⟨hI k _ _ _ hi ⟨hq.os, hq.tape, hq.output, hq.size, fun b hn hb hlt => hq.block b hn (hb.imp (fun h => by omega) id) hlt⟩, n1, n2, Nat.le_trans hsz hq.size,
        (hq.block _ hn1 (.inl (by omega)) hw).trans hl, (hq.block _ hn0 (.inl (by omega)) (by omega)).trans hk⟩
    · rintro S W W2 ⟨c, hi, n1, n2, hsz, hl, hk⟩ hq
      have hw : w.heap.size + 1 < W.heap.size := (Array.getElem?_eq_some_iff.1 hl).1
      exact ⟨c, hIx c _ _ _ hi ⟨hq.os, hq.tape, hq.output, hq.size, fun b hn hb hlt => hq.block b hn (hb.imp (fun h => by omega) id) hlt⟩, n1, n2, Nat.le_trans hsz hq.size,
        (hq.block _ hn1 (.inl (by omega)) hw).trans hl, (hq.block _ hn0 (.inl (by omega)) (by omega)).trans hk⟩
    · rintro k S W hkN ⟨hi, n1, n2, hsz, hl, hk⟩ _
      have hlt : w.heap.size + 1 < W.heap.size := (Array.getElem?_eq_some_iff.1 hl).1
      have hy := run_yield (P := P) (args := encs k) hl (by rw [hrec]; exact hps k)
      rw [hrec] at hy
      refine ⟨fn, _, assign, body, hy, roundIn_of_wpIn trivial (hassign _ k S W _ (by omega) (hS k S W hi) ?_)⟩
      intro a1 Wa hqa hua hax
      have hla := (inner (w.heap.size + 1) _ _ _ _ (by omega) (by omega) hlt n2 hua).1.trans hl
      have hka := (inner w.heap.size _ _ _ _ (by omega) (by omega) (by omega) n1 hua).1.trans hk
      have hsa := hua.size
      refine ⟨_, run_beginRound hla (by rw [hrec]), ?_⟩
      have hlt2 : w.heap.size + 1 < Wa.heap.size := by omega
      have hia := hI k _ _ _ hi (hqa.toO O)
      obtain ⟨W2, hW2⟩ : ∃ W2, Wa.putObj (w.heap.size + 1) (.loop { rec .ready none with state := .busy }) = W2 := ⟨_, rfl⟩
      have hq2 : Quiet w.heap.size S Wa W2 := by rw [← hW2]; exact putObj_quiet _ _ _ (by omega) n2
      have hax2 : Ax k S a1 W2 := by rw [← hW2]; exact hAx _ _ _ _ _ _ _ hax hla
      have hl2 : W2.heap[w.heap.size + 1]? = some (.loop { rec .ready none with state := .busy }) := by rw [← hW2]; exact World.putObj_heap_same hlt2
      have hk2 : W2.heap[w.heap.size]? = some (.deferred (some [])) := by rw [← hW2]; exact (World.putObj_heap_other (by omega)).trans hka
      have hs2 : W2.heap.size = Wa.heap.size := by rw [← hW2]; simp
      rw [hW2]
      refine wpIn_mono (hbody _ k S a1 W2 hkN (hI k _ _ _ hia (hq2.toO O)) hax2 (by omega)) ?_
      have fin : ∀ (jump : Option Code) (S' : Nat → Prop) (W3 : World), Upd w.heap.size S S' W2 W3 → (∀ b, O b → W3.heap[b]? = W2.heap[b]?) →
          ∃ W4, (Instr.endRound (w.heap.size + 1) jump).run P W3 = .ok (.bool jump.isNone) W4 ∧ Upd W1.heap.size S S' W W4 ∧ (∀ b, O b → W4.heap[b]? = W.heap[b]?) ∧ Quiet w.heap.size S' W3 W4 ∧
            ¬ S' w.heap.size ∧ ¬ S' (w.heap.size + 1) ∧ W1.heap.size ≤ W4.heap.size ∧
            W4.heap[w.heap.size + 1]? = some (.loop (rec (if jump.isNone then .ready else .done) jump)) ∧ W4.heap[w.heap.size]? = some (.deferred (some [])) := fun jump S' W3 hu ho3 => by
        have hl3 := (inner (w.heap.size + 1) _ _ _ _ (by omega) (by omega) (by omega) n2 hu)
        have hk3 := (inner w.heap.size _ _ _ _ (by omega) (by omega) (by omega) n1 hu)
        have hl4 := hl3.1.trans hl2
        have hs3 := hu.size
        have hr := run_endRound (P := P) jump hl4
        have e : ({ rec .ready none with state := if jump.isNone then LoopState.ready else LoopState.done, pending := jump } : Loop) = rec (if jump.isNone then .ready else .done) jump := by rw [hrec]
        simp only at hr
        rw [e] at hr
        have hq4 : Quiet w.heap.size S' W3 (W3.putObj (w.heap.size + 1) (.loop (rec (if jump.isNone then .ready else .done) jump))) := putObj_quiet _ _ _ (by omega) hl3.2
        refine ⟨_, hr, ⟨by simp; omega, fun b hB hlt' hs' => ?_⟩, fun b hb => ?_, hq4, hk3.2, hl3.2, by simp; omega, World.putObj_heap_same (by omega), (World.putObj_heap_other (by omega)).trans (hk3.1.trans hk2)⟩
        · obtain ⟨g1, g2⟩ := hua.block b (by omega) hlt' hs'
          obtain ⟨g3, g4⟩ := hu.block b (by omega) (by omega) g2
          refine ⟨(World.putObj_heap_other (by omega)).trans (g3.trans ?_), g4⟩
          rw [← hW2, World.putObj_heap_other (by omega)]
          exact g1
        · obtain ⟨h1, _⟩ := hO b hb
          refine (hq4.block b (.inl h1) (by omega)).trans ((ho3 b hb).trans ?_)
          exact (hq2.block b (.inl h1) (by omega)).trans (hqa.block b (.inl h1) (by omega))
      rintro e a3 W3 hp
      cases e with
      | normal =>
        obtain ⟨S', hu, ho3, hi3⟩ := hp
        obtain ⟨W4, hr, hu4, ho4, hq4, m1, m2, m3, hl4, hk4⟩ := fin none S' W3 hu ho3
        exact ⟨_, _, hr, S', hu4, ho4, .inl ⟨rfl, hI _ _ _ _ hi3 (hq4.toO O), m1, m2, m3, hl4, hk4⟩⟩
      | ret =>
        obtain ⟨S', hu, ho3, hi3⟩ := hp
        obtain ⟨W4, hr, hu4, ho4, hq4, m1, m2, m3, hl4, hk4⟩ := fin (some .ret) S' W3 hu ho3
        exact ⟨_, _, hr, S', hu4, ho4, .inr ⟨rfl, .ret, hIx _ _ _ _ hi3 (hq4.toO O), m1, m2, m3, hl4, hk4⟩⟩
      | exit id =>
        obtain ⟨S', hu, ho3, hi3⟩ := hp
        obtain ⟨W4, hr, hu4, ho4, hq4, m1, m2, m3, hl4, hk4⟩ := fin (some (.exit id)) S' W3 hu ho3
        exact ⟨_, _, hr, S', hu4, ho4, .inr ⟨rfl, .exit id, hIx _ _ _ _ hi3 (hq4.toO O), m1, m2, m3, hl4, hk4⟩⟩
      | goto t =>
        obtain ⟨S', hu, ho3, hi3⟩ := hp
        obtain ⟨W4, hr, hu4, ho4, hq4, m1, m2, m3, hl4, hk4⟩ := fin (some (.goto t)) S' W3 hu ho3
        exact ⟨_, _, hr, S', hu4, ho4, .inr ⟨rfl, .goto t, hIx _ _ _ _ hi3 (hq4.toO O), m1, m2, m3, hl4, hk4⟩⟩
      | panic ch => exact hp.elim
      | outgrown => exact hp.elim
    · rintro e W2 ⟨⟨v, rfl⟩, S, (⟨hi, n1, n2, hsz, hl, hk⟩ | ⟨c, hi, n1, n2, hsz, hl, hk⟩)⟩
      · refine ⟨none, _, by have h := run_endLoop (P := P) hl (by rw [hrec]; simp); rw [hrec] at h; exact h, ?_⟩
        exact hdone _ S _ (Nat.le_refl _) (hI _ _ _ _ hi ((putObj_quiet _ _ _ (by omega) n2).toO O)) ((World.putObj_heap_other (by omega)).trans hk)
      · refine ⟨some c, _, by have h := run_endLoop (P := P) hl (by rw [hrec]; simp); rw [hrec] at h; exact h, ?_⟩
        exact hstop _ c S _ (Nat.le_refl _) (hIx _ _ _ _ hi ((putObj_quiet _ _ _ (by omega) n2).toO O)) ((World.putObj_heap_other (by omega)).trans hk)
end Go.KP
namespace Go.KI
open Go
end Go.KI
namespace Go.Proofs.YtfcjaljaomknjaaGreatDoor
open Go.RowKit Go.KP Go.KI Go.Shelf
attribute [local go_sem] Oper.semAt_some

instance ofBelow (n : Nat) (w : World) : Nonempty (Of (Below n w)) := ⟨⟨w, Below.refl n w⟩⟩
end Go.Proofs.YtfcjaljaomknjaaGreatDoor
namespace Go.KI
open Go
def okS (s : ByteArray) : Prop := s.size ≤ 20 ∧ chkQ s.data.toList = 0
instance (s : ByteArray) : Decidable (okS s) := inferInstanceAs (Decidable (_ ∧ _))
end Go.KI
namespace Go.Proofs.YtfcjaljaomknjaaGreatDoor
open Go.RowKit Go.KP Go.KI Go.Shelf
attribute [local go_sem] Oper.semAt_some

end Go.Proofs.YtfcjaljaomknjaaGreatDoor
namespace Go.KI
open Go

def near2 (n : Int) (d : Int) : Int := (2 * n + d).fdiv (2 * d)
theorem near2_spec {n d : Int} (hd : 0 < d) : 2 * d * near2 n d ≤ 2 * n + d ∧ 2 * n + d < 2 * d * near2 n d + 2 * d := by
  unfold near2
  rw [Int.fdiv_eq_ediv_of_nonneg _ (by omega)]
  have h1 := Int.mul_ediv_add_emod (2 * n + d) (2 * d)
  have h2 := Int.emod_nonneg (2 * n + d) (show 2 * d ≠ 0 by omega)
  have h3 := Int.emod_lt_of_pos (2 * n + d) (show 0 < 2 * d by omega)
  omega
open Go

def feetT (m : Int) : List UInt8 :=
  (if decide (m < 0) then [45] else []) ++ (Lib.decDigits (m.natAbs / 144) ++ 39 :: (Lib.decDigits (m.natAbs % 144 / 12) ++ 34 :: Lib.decDigits (m.natAbs % 144 % 12)))
def smallT (l : List UInt8) : Prop := (l.length = 1 ∧ allDg l) ∨ l = [49, 48] ∨ l = [49, 49]
instance (l : List UInt8) : Decidable (smallT l) := inferInstanceAs (Decidable (_ ∨ _ ∨ _))
theorem ten_dec : Lib.decDigits 10 = [49, 48] := by rw [Lib.decDigits, dif_neg (by omega), show 10 / 10 = 1 from rfl, one_dec]; rfl
theorem eleven_dec : Lib.decDigits 11 = [49, 49] := by rw [Lib.decDigits, dif_neg (by omega), show 11 / 10 = 1 from rfl, one_dec]; rfl
theorem smallT_dec {l : List UInt8} (h : smallT l) : l = Lib.decDigits (dv l) ∧ dv l ≤ 11 := by
  rcases h with ⟨h1, h2⟩ | h | h
  · refine ⟨dec_of h2.1 h2.2 (fun hl => by omega), ?_⟩
    have := dv_lt l h2.2
    rw [h1] at this
    omega
  · rw [h]
    exact ⟨by rw [show dv [49, 48] = 10 from rfl, ten_dec], by decide⟩
  · rw [h]
    exact ⟨by rw [show dv [49, 49] = 11 from rfl, eleven_dec], by decide⟩
def feetOK (l : List UInt8) : Prop :=
  39 ∈ digs l ∧ 34 ∈ behind 39 (digs l) ∧ numeral (ahead 39 (digs l)) ∧ smallT (ahead 34 (behind 39 (digs l))) ∧ smallT (behind 34 (behind 39 (digs l))) ∧ l ≠ [45, 48, 39, 48, 34, 48]
instance (l : List UInt8) : Decidable (feetOK l) := inferInstanceAs (Decidable (_ ∧ _ ∧ _ ∧ _ ∧ _ ∧ _))
open Go
theorem dec_pow (p : Nat) : Lib.decDigits (10 ^ p) = 49 :: List.replicate p 48 := by
  induction p with
  | zero => rw [Nat.pow_zero, one_dec]; rfl
  | succ p ih =>
    have h : 10 ≤ 10 ^ (p + 1) := by
      have := Nat.pow_le_pow_right (n := 10) (by omega) (show 1 ≤ p + 1 by omega)
      simpa using this
    rw [Lib.decDigits, dif_neg (by omega), show 10 ^ (p + 1) / 10 = 10 ^ p by rw [Nat.pow_succ]; omega, show 10 ^ (p + 1) % 10 = 0 by rw [Nat.pow_succ]; omega, ih, List.replicate_succ']
    rfl
def chkM (l : List UInt8) : Int := if chkQ l ≠ 0 then chkQ l else if 90 < max (Lib.decDigits (valQ l).num.natAbs).length (Lib.decDigits (valQ l).den).length then 4 else 0
end Go.KI
namespace Go.Proofs.YtfcjaljaomknjaaGreatDoor
open Go.RowKit Go.KP Go.KI Go.Shelf
attribute [local go_sem] Oper.semAt_some

theorem mmul_to {s t : ByteArray} {x y : Int} (h1 : s.data.toList = Lib.itoa x) (h2 : t.data.toList = Lib.itoa y) (f1 : fits x) (f2 : fits y) (f3 : fits (x * y)) (B : Nat) (w : World) (hB : B ≤ w.heap.size) (hT : P10 B w) :
    Calls Tryz.prog 38 #[.string s, .string t] w (Ret w (.string (strB (Lib.itoa (x * y))))) := by
  have HM := hide (mul_yes h1 h2 f1 f2 f3 B w hB hT)
  obtain ⟨X, hX⟩ : ∃ X, X = strB (Lib.itoa (x * y)) := ⟨_, rfl⟩
  rw [← hX] at HM ⊢
  clear h1 h2 f1 f2 f3 hX hT
  go_enter Tryz.func38, Tryz.ntmps38
  go_wp2_with fail
  refine HM.out.mono ?_
  rintro e w1 ⟨rfl, hb1⟩
  have HB1 := hide hb1
  clear hb1
  go_wp2_with fail
  go_ret
  exact ⟨rfl, HB1.out⟩
theorem mdivide_to {s t : ByteArray} {x y : Int} (h1 : s.data.toList = Lib.itoa x) (h2 : t.data.toList = Lib.itoa y) (f1 : fits x) (f2 : fits y) (hy : y ≠ 0) (B : Nat) (w : World) (hB : B ≤ w.heap.size) (hT : P10 B w) :
    Calls Tryz.prog 44 #[.string s, .string t] w (Ret w (.tuple #[.string (strB (Lib.itoa (x.fdiv y))), .string (strB (Lib.itoa (x.fmod y)))])) := by
  have HM := hide (Divide_to (q := strB (Lib.itoa (x.fdiv y))) (r := strB (Lib.itoa (x.fmod y))) h1 h2 (strB_list _) (strB_list _) f1 f2 hy B w hB hT)
  obtain ⟨X, hX⟩ : ∃ X, X = strB (Lib.itoa (x.fdiv y)) := ⟨_, rfl⟩
  obtain ⟨Y, hY⟩ : ∃ X, X = strB (Lib.itoa (x.fmod y)) := ⟨_, rfl⟩
  rw [← hX, ← hY] at HM ⊢
  clear h1 h2 f1 f2 hX hY hT hy
  go_enter Tryz.func44, Tryz.ntmps44
  go_wp2_with fail
  refine HM.out.mono ?_
  rintro e w1 ⟨rfl, hb1⟩
  have HB1 := hide hb1
  clear hb1
  go_wp2_with fail
  refine bodyPost_ret (results_tmp2 rfl _ _ _) rfl ?_
  exact ⟨rfl, HB1.out⟩
theorem itoa_two : (⟨#[50]⟩ : ByteArray).data.toList = Lib.itoa 2 := by
  rw [show (2 : Int) = ((2 : Nat) : Int) from rfl, Lib.itoa_nonneg, Lib.decDigits_one (by omega)]
  rfl
theorem fits_two : fits 2 := fits_small (n := 1) (by rw [most_eq]; omega) (by decide)
theorem mnearest_to {s t : ByteArray} {n d : Int} (h1 : s.data.toList = Lib.itoa n) (h2 : t.data.toList = Lib.itoa d) (f1 : fits n) (f2 : fits d) (f3 : fits (n * 2)) (f4 : fits (n * 2 + d)) (f5 : fits (d * 2)) (hd : 0 < d) (B : Nat) (w : World) (hB : B ≤ w.heap.size) (hT : P10 B w) :
    Calls Tryz.prog 37 #[.string s, .string t] w (Ret w (.string (strB (Lib.itoa (near2 n d))))) := by
  have HT := hide hT
  have H1 := hide (fun w hB hT => mmul_to h1 itoa_two f1 fits_two f3 B w hB hT)
  have H2 := hide (fun w hB hT => Add_good (s := strB (Lib.itoa (n * 2))) (t := t) (strB_list _) h2 f3 f2 f4 B w hB hT)
  have H3 := hide (fun w hB hT => mmul_to h2 itoa_two f2 fits_two f5 B w hB hT)
  have H4 := hide (fun w hB hT => mdivide_to (s := strB (Lib.itoa (n * 2 + d))) (t := strB (Lib.itoa (d * 2))) (strB_list _) (strB_list _) f4 f5 (by omega) B w hB hT)
  have e : (n * 2 + d).fdiv (d * 2) = near2 n d := by unfold near2; rw [Int.mul_comm n, Int.mul_comm d]
  rw [e] at H4
  obtain ⟨A, hA⟩ : ∃ X, X = strB (Lib.itoa (n * 2)) := ⟨_, rfl⟩
  obtain ⟨C, hC⟩ : ∃ X, X = strB (Lib.itoa (n * 2 + d)) := ⟨_, rfl⟩
  obtain ⟨D, hD⟩ : ∃ X, X = strB (Lib.itoa (d * 2)) := ⟨_, rfl⟩
  obtain ⟨Q, hQ⟩ : ∃ X, X = strB (Lib.itoa (near2 n d)) := ⟨_, rfl⟩
  obtain ⟨R, hR⟩ : ∃ X, X = strB (Lib.itoa ((n * 2 + d).fmod (d * 2))) := ⟨_, rfl⟩
  have H2 : Hid (∀ w, B ≤ w.heap.size → P10 B w → Calls Tryz.prog 59 #[.string A, .string t] w (Ret w (.tuple #[.string C, .int .i64 0]))) := hide (by rw [hA, hC]; exact H2.out)
  rw [← hA] at H1
  rw [← hD] at H3
  rw [← hC, ← hD, ← hQ, ← hR] at H4
  rw [← hQ]
  clear h1 h2 f1 f2 f3 f4 f5 hA hC hD hQ hR e hd hT
  go_enter Tryz.func37, Tryz.ntmps37
  go_wp2_with fail
  refine (H1.out _ hB HT.out).mono ?_
  rintro e w1 ⟨rfl, hb1⟩
  have HB1 := hide hb1
  clear hb1
  go_wp2_with fail
  refine (H2.out _ (Nat.le_trans hB HB1.out.size) (HT.out.on HB1.out hB)).mono ?_
  rintro e w2 ⟨rfl, hb2⟩
  have HB2 := hide (HB1.out.trans (hb2.mono HB1.out.size))
  clear hb2
  go_wp2_with fail
  refine (H3.out _ (Nat.le_trans hB HB2.out.size) (HT.out.on HB2.out hB)).mono ?_
  rintro e w3 ⟨rfl, hb3⟩
  have HB3 := hide (HB2.out.trans (hb3.mono HB2.out.size))
  clear hb3
  go_wp2_with fail
  refine (H4.out _ (Nat.le_trans hB HB3.out.size) (HT.out.on HB3.out hB)).mono ?_
  rintro e w4 ⟨rfl, hb4⟩
  have HB4 := hide (HB3.out.trans (hb4.mono HB3.out.size))
  clear hb4
  go_wp2_with fail
  go_ret
  exact ⟨rfl, HB4.out⟩
abbrev powT (p : Nat) : List UInt8 := Lib.itoa ((10 ^ p : Nat) : Int)
theorem mpower_to (p : Nat) (hp : p ≤ 100000) (w : World) :
    Calls Tryz.prog 39 #[.int .i64 p] w (Ret w (.string (strB (powT p)))) := by
  have HR := hide (repeat_any ⟨#[48]⟩ p w (by omega) (by decide))
  have hl : Lib.repeatL (⟨#[48]⟩ : ByteArray).data.toList p = List.replicate p 48 := by
    exact repeat48 p
  rw [hl] at HR
  have HX := hide (show strB (powT p) = ⟨#[49]⟩ ++ strB (List.replicate p 48) by
    apply bytes_eq
    rw [strB_list]
    show Lib.itoa ((10 ^ p : Nat) : Int) = _
    rw [Lib.itoa_nonneg, dec_pow, ByteArray.data_append, Array.toList_append, strB_list]
    rfl)
  have hs : (strB (List.replicate p 48)).size ≤ 100000 := by rw [strB_size, List.length_replicate]; exact hp
  obtain ⟨Z, hZ⟩ : ∃ Z, Z = strB (List.replicate p 48) := ⟨_, rfl⟩
  obtain ⟨X, hX⟩ : ∃ Z, Z = strB (powT p) := ⟨_, rfl⟩
  rw [← hZ] at HR HX hs
  rw [← hX] at HX ⊢
  have v : (9223372036854775807 < 1 + Z.size) = False := eq_false (by omega)
  clear hl hZ hX hp
  go_enter Tryz.func39, Tryz.ntmps39
  go_wp2_with fail
  refine HR.out.mono ?_
  rintro e w1 ⟨rfl, hb1⟩
  have HB1 := hide hb1
  clear hb1
  go_wp2_with fail
  go_ret
  rw [HX.out]
  exact ⟨rfl, HB1.out⟩
def sgnT (neg : Bool) : List UInt8 := if neg then [45] else []
theorem msigned_any (s : ByteArray) (w : World) :
    Calls Tryz.prog 36 #[.string s] w (Ret w (.tuple #[.string (strB (sgnT (isNeg s.data.toList))), .string (strB (digs s.data.toList))])) := by
  have HP := hide (cutPrefix_any s w)
  rw [show decide (s.data.toList.head? = some 45) = isNeg s.data.toList from rfl] at HP
  have hway : (isNeg s.data.toList = true ∧ strB (sgnT (isNeg s.data.toList)) = ⟨#[45]⟩) ∨ (isNeg s.data.toList = false ∧ strB (sgnT (isNeg s.data.toList)) = ⟨#[]⟩ ∧ strB (digs s.data.toList) = s) := by
    cases h : isNeg s.data.toList with
    | true => exact .inl ⟨rfl, rfl⟩
    | false =>
      refine .inr ⟨rfl, rfl, ?_⟩
      have h1 : s.data.toList.head? ≠ some 45 := by simpa [isNeg] using h
      apply bytes_eq
      rw [strB_list]
      cases hl : s.data.toList with
      | nil => rfl
      | cons c r =>
        rw [hl] at h1
        have : c ≠ 45 := by simpa using h1
        simp [digs, this]
  obtain ⟨D, hD⟩ : ∃ Z, Z = strB (digs s.data.toList) := ⟨_, rfl⟩
  rw [← hD] at HP hway ⊢
  clear hD
  rcases hway with ⟨h1, h2⟩ | ⟨h1, h2, h3⟩
  · rw [h1] at HP h2
    rw [h1, h2]
    clear h1 h2
    go_enter Tryz.func36, Tryz.ntmps36
    go_wp2_with fail
    refine HP.out.mono ?_
    rintro e w1 ⟨rfl, rfl⟩
    go_wp2_with fail
    refine bodyPost_ret (results_tmp2 rfl _ _ _) rfl ?_
    exact ⟨rfl, Below.refl _ _⟩
  · rw [h1] at HP h2
    rw [h1, h2]
    have HE := hide h3
    clear h1 h2 h3
    go_enter Tryz.func36, Tryz.ntmps36
    go_wp2_with fail
    refine HP.out.mono ?_
    rintro e w1 ⟨rfl, rfl⟩
    go_wp2_with fail
    refine bodyPost_ret (results_tmp2 rfl _ _ _) rfl ?_
    rw [HE.out]
    exact ⟨rfl, Below.refl _ _⟩
def partsM (l : List UInt8) : Value := if chkM l = 0 then tripV (Lib.itoa (valQ l).num) (Lib.itoa ((valQ l).den : Int)) 0 else tripV [] [] (chkM l)
theorem tripV_err (z : Int) : tripV [] [] z = .tuple #[.string ⟨#[]⟩, .string ⟨#[]⟩, .int .i64 z] := rfl
theorem mparts_any (s : ByteArray) (hs : s.size ≤ 1000000) (B : Nat) (w : World) (hB : B ≤ w.heap.size) (hT : PQ B w) :
    Calls Tryz.prog 54 #[.string s] w (Ret w (partsM s.data.toList)) := by
  have HT := hide hT
  have HC := hide (qCheck_any s hs B w hB hT)
  by_cases hc : chkQ s.data.toList = 0
  · have HP := hide (fun w hB hT => qParts_any s hs B w hB hT)
    rw [hc] at HC
    rw [show partsR s.data.toList = tripV (Lib.itoa (valQ s.data.toList).num) (Lib.itoa ((valQ s.data.toList).den : Int)) 0 from if_pos hc] at HP
    have hM : chkM s.data.toList = if 90 < max (Lib.decDigits (valQ s.data.toList).num.natAbs).length (Lib.decDigits (valQ s.data.toList).den).length then 4 else 0 := by unfold chkM; rw [if_neg (by simp [hc])]
    obtain ⟨N, hN⟩ : ∃ Z, Z = strB (Lib.itoa (valQ s.data.toList).num) := ⟨_, rfl⟩
    obtain ⟨D, hD⟩ : ∃ Z, Z = strB (Lib.itoa ((valQ s.data.toList).den : Int)) := ⟨_, rfl⟩
    have HTP := hide (fun w => trimPrefix_any N w)
    rw [show N.data.toList = Lib.itoa (valQ s.data.toList).num by rw [hN, strB_list], digs_itoa] at HTP
    have hDs : D.size = (Lib.decDigits (valQ s.data.toList).den).length := by rw [hD, strB_size, Lib.itoa_nonneg]
    obtain ⟨O, hO⟩ : ∃ Z, Z = strB (Lib.decDigits (valQ s.data.toList).num.natAbs) := ⟨_, rfl⟩
    have hOs : O.size = (Lib.decDigits (valQ s.data.toList).num.natAbs).length := by rw [hO, strB_size]
    rw [← hDs, ← hOs] at hM
    rw [← hO] at HTP
    rw [show tripV (Lib.itoa (valQ s.data.toList).num) (Lib.itoa ((valQ s.data.toList).den : Int)) 0 = .tuple #[.string N, .string D, .int .i64 0] by rw [hN, hD]] at HP
    by_cases h90 : 90 < max O.size D.size
    · have hm : (90 : Int) < max (O.size : Int) (D.size : Int) := by omega
      rw [if_pos h90] at hM
      rw [show partsM s.data.toList = tripV [] [] 4 by unfold partsM; rw [hM, if_neg (by decide)], tripV_err]
      clear hc hM hN hD hDs hO hOs h90 hT
      go_enter Tryz.func54, Tryz.ntmps54
      go_wp2_with fail
      refine HC.out.mono ?_
      rintro e w1 ⟨rfl, hb1⟩
      have HB1 := hide hb1
      clear hb1
      go_wp2_with fail
      refine (HP.out _ (Nat.le_trans hB HB1.out.size) (HT.out.on HB1.out hB)).mono ?_
      rintro e w2 ⟨rfl, hb2⟩
      have HB2 := hide (HB1.out.trans (hb2.mono HB1.out.size))
      clear hb2
      go_wp2_with fail
      refine (HTP.out _).mono ?_
      rintro e w3 ⟨rfl, rfl⟩
      go_wp2_with fail
      go_ret3
      exact ⟨rfl, HB2.out⟩
    · have hm : ((90 : Int) < max (O.size : Int) (D.size : Int)) = False := eq_false (by omega)
      rw [if_neg h90] at hM
      rw [show partsM s.data.toList = .tuple #[.string N, .string D, .int .i64 0] by unfold partsM; rw [if_pos hM, hN, hD]]
      clear hc hM hN hD hDs hO hOs h90 hT
      go_enter Tryz.func54, Tryz.ntmps54
      go_wp2_with fail
      refine HC.out.mono ?_
      rintro e w1 ⟨rfl, hb1⟩
      have HB1 := hide hb1
      clear hb1
      go_wp2_with fail
      refine (HP.out _ (Nat.le_trans hB HB1.out.size) (HT.out.on HB1.out hB)).mono ?_
      rintro e w2 ⟨rfl, hb2⟩
      have HB2 := hide (HB1.out.trans (hb2.mono HB1.out.size))
      clear hb2
      go_wp2_with fail
      refine (HTP.out _).mono ?_
      rintro e w3 ⟨rfl, rfl⟩
      go_wp2_with fail
      go_ret3
      exact ⟨rfl, HB2.out⟩
  · have hM : chkM s.data.toList = chkQ s.data.toList := if_pos hc
    rw [show partsM s.data.toList = tripV [] [] (chkQ s.data.toList) by unfold partsM; rw [hM, if_neg hc], tripV_err]
    have hne : (chkQ s.data.toList != 0) = true := by simpa using hc
    obtain ⟨E, hE⟩ : ∃ E, E = chkQ s.data.toList := ⟨_, rfl⟩
    rw [← hE] at HC hne ⊢
    clear hE hc hM hT
    go_enter Tryz.func54, Tryz.ntmps54
    go_wp2_with fail
    refine HC.out.mono ?_
    rintro e w1 ⟨rfl, hb1⟩
    have HB1 := hide hb1
    clear hb1
    go_wp2_with fail
    go_ret3
    exact ⟨rfl, HB1.out⟩
def chkP (l : List UInt8) (p : Int) : Int := if chkM l ≠ 0 then chkM l else if p < 0 ∨ 100 < p then 2 else 0
def checkM (l : List UInt8) (p : Int) : Value := if chkP l p = 0 then tripV (Lib.itoa (valQ l).num) (Lib.itoa ((valQ l).den : Int)) 0 else tripV [] [] (chkP l p)
theorem mcheck_any (s : ByteArray) (hs : s.size ≤ 1000000) (p : Int) (B : Nat) (w : World) (hB : B ≤ w.heap.size) (hT : PQ B w) :
    Calls Tryz.prog 35 #[.string s, .int .i64 p] w (Ret w (checkM s.data.toList p)) := by
  have HM := hide (mparts_any s hs B w hB hT)
  by_cases hc : chkM s.data.toList = 0
  · rw [show partsM s.data.toList = tripV (Lib.itoa (valQ s.data.toList).num) (Lib.itoa ((valQ s.data.toList).den : Int)) 0 from if_pos hc] at HM
    have hP : chkP s.data.toList p = if p < 0 ∨ 100 < p then 2 else 0 := by unfold chkP; rw [if_neg (by simp [hc])]
    obtain ⟨N, hN⟩ : ∃ Z, Z = strB (Lib.itoa (valQ s.data.toList).num) := ⟨_, rfl⟩
    obtain ⟨D, hD⟩ : ∃ Z, Z = strB (Lib.itoa ((valQ s.data.toList).den : Int)) := ⟨_, rfl⟩
    rw [show tripV (Lib.itoa (valQ s.data.toList).num) (Lib.itoa ((valQ s.data.toList).den : Int)) 0 = .tuple #[.string N, .string D, .int .i64 0] by rw [hN, hD]] at HM
    have hway : (p < 0 ∧ checkM s.data.toList p = .tuple #[.string ⟨#[]⟩, .string ⟨#[]⟩, .int .i64 2]) ∨ ((p < 0) = False ∧ 100 < p ∧ checkM s.data.toList p = .tuple #[.string ⟨#[]⟩, .string ⟨#[]⟩, .int .i64 2]) ∨
        ((p < 0) = False ∧ (100 < p) = False ∧ checkM s.data.toList p = .tuple #[.string N, .string D, .int .i64 0]) := by
      by_cases h1 : p < 0
      · have e : chkP s.data.toList p = 2 := by rw [hP, if_pos (.inl h1)]
        exact .inl ⟨h1, by unfold checkM; rw [e, if_neg (by decide)]; rfl⟩
      · by_cases h2 : 100 < p
        · have e : chkP s.data.toList p = 2 := by rw [hP, if_pos (.inr h2)]
          exact .inr (.inl ⟨eq_false h1, h2, by unfold checkM; rw [e, if_neg (by decide)]; rfl⟩)
        · have e : chkP s.data.toList p = 0 := by rw [hP, if_neg (fun h => by rcases h with h | h <;> contradiction)]
          exact .inr (.inr ⟨eq_false h1, eq_false h2, by unfold checkM; rw [if_pos e, hN, hD]⟩)
    clear hc hP hN hD hT
    rcases hway with ⟨h1, h2⟩ | ⟨h1, h3, h2⟩ | ⟨h1, h3, h2⟩
    all_goals
      rw [h2]
      clear h2
      go_enter Tryz.func35, Tryz.ntmps35
      go_wp2_with fail
      refine HM.out.mono ?_
      rintro e w1 ⟨rfl, hb1⟩
      have HB1 := hide hb1
      clear hb1
      go_wp2_with fail
      go_ret3
      exact ⟨rfl, HB1.out⟩
  · have hP : chkP s.data.toList p = chkM s.data.toList := if_pos hc
    rw [show partsM s.data.toList = tripV [] [] (chkM s.data.toList) from if_neg hc] at HM
    rw [show checkM s.data.toList p = tripV [] [] (chkM s.data.toList) by unfold checkM; rw [hP, if_neg hc]]
    rw [tripV_err] at HM ⊢
    have hne : (chkM s.data.toList == 0) = false := by simpa using hc
    obtain ⟨E, hE⟩ : ∃ E, E = chkM s.data.toList := ⟨_, rfl⟩
    rw [← hE] at HM hne ⊢
    clear hE hc hP hT
    go_enter Tryz.func35, Tryz.ntmps35
    go_wp2_with fail
    refine HM.out.mono ?_
    rintro e w1 ⟨rfl, hb1⟩
    have HB1 := hide hb1
    clear hb1
    go_wp2_with fail
    go_ret3
    exact ⟨rfl, HB1.out⟩
open Go.RowKit Go.KP Go.KI Go.Shelf
attribute [local go_sem] Oper.semAt_some

def unitsP (q : Rat) (p : Nat) : Int := near2 (q.num * ((10 ^ p : Nat) : Int)) (q.den : Int)
theorem chkM_ok {l : List UInt8} (h : chkM l = 0) : chkQ l = 0 ∧ (valQ l).num.natAbs < 10 ^ 90 ∧ (valQ l).den < 10 ^ 90 := by
  unfold chkM at h
  by_cases h1 : chkQ l = 0
  · rw [if_neg (by simp [h1])] at h
    by_cases h2 : 90 < max (Lib.decDigits (valQ l).num.natAbs).length (Lib.decDigits (valQ l).den).length
    · rw [if_pos h2] at h
      cases h
    · exact ⟨h1, (dec_len_le (by omega)).1 (by omega), (dec_len_le (by omega)).1 (by omega)⟩
  · rw [if_pos h1] at h
    exact absurd h h1
theorem chkP_ok {l : List UInt8} {p : Int} (h : chkP l p = 0) : chkM l = 0 ∧ 0 ≤ p ∧ p ≤ 100 := by
  unfold chkP at h
  by_cases h1 : chkM l = 0
  · rw [if_neg (by simp [h1])] at h
    by_cases h2 : p < 0 ∨ 100 < p
    · rw [if_pos h2] at h
      cases h
    · exact ⟨h1, by omega, by omega⟩
  · rw [if_pos h1] at h
    exact absurd h h1
theorem pow_le_i {p q : Nat} (h : p ≤ q) : (10 : Nat) ^ p ≤ 10 ^ q := Nat.pow_le_pow_right (by omega) h
theorem fits_le_pow {z : Int} {k : Nat} (hk : k ≤ 300) (h : z.natAbs < 10 ^ k) : fits z := fits_small (by rw [most_eq]; exact hk) h
theorem print_fits {n : Int} {d p : Nat} (hn : n.natAbs < 10 ^ 90) (hd : d < 10 ^ 90) (hp : p ≤ 100) :
    fits n ∧ fits (d : Int) ∧ fits ((10 ^ p : Nat) : Int) ∧ fits (n * ((10 ^ p : Nat) : Int)) ∧ fits (n * ((10 ^ p : Nat) : Int) * 2) ∧ fits (n * ((10 ^ p : Nat) : Int) * 2 + (d : Int)) ∧ fits ((d : Int) * 2) := by
  have hpp := pow_le_i hp
  have h1 : (n * ((10 ^ p : Nat) : Int)).natAbs < 10 ^ (90 + 101) := by
    rw [Int.natAbs_mul, Int.natAbs_natCast]
    exact mul_pow_lt hn (Nat.lt_of_le_of_lt hpp (Nat.pow_lt_pow_right (by omega) (by omega)))
  have h2 : (n * ((10 ^ p : Nat) : Int) * 2).natAbs < 10 ^ 192 := by
    have := add_pow_lt h1 h1
    rw [Int.natAbs_mul, show (2 : Int).natAbs = 2 from rfl]
    omega
  have h3 : d < 10 ^ 192 := Nat.lt_of_lt_of_le hd (pow_le_i (by omega))
  have h4 := add_pow_lt h2 h3
  have h5 := add_pow_lt hd hd
  refine ⟨fits_le_pow (k := 90) (by omega) hn, fits_le_pow (k := 90) (by omega) (by rw [Int.natAbs_natCast]; exact hd), fits_le_pow (k := 101) (by omega) (by rw [Int.natAbs_natCast]; exact Nat.lt_of_le_of_lt hpp (Nat.pow_lt_pow_right (by omega) (by omega))), fits_le_pow (k := 90 + 101) (by omega) h1, fits_le_pow (k := 192) (by omega) h2, fits_le_pow (k := 193) (by omega) (by omega), fits_le_pow (k := 91) (by omega) (by omega)⟩
open Go.RowKit Go.KP Go.KI Go.Shelf
attribute [local go_sem] Oper.semAt_some

theorem isNeg_itoa (m : Int) : isNeg (Lib.itoa m) = decide (m < 0) := by
  unfold isNeg
  exact decide_eq_decide.2 (itoa_head m)
def printS (l : List UInt8) (p : Int) : List UInt8 := if chkP l p = 0 then decT (unitsP (valQ l) p.toNat) p.toNat else []
theorem near2_abs {n d : Int} (hd : 0 < d) : (near2 n d).natAbs ≤ n.natAbs + 1 := by
  obtain ⟨h1, h2⟩ := near2_spec (n := n) hd
  obtain ⟨z, hz⟩ : ∃ z, z = near2 n d := ⟨_, rfl⟩
  rw [← hz] at h1 h2 ⊢
  rcases Int.lt_or_le z 0 with h | h
  · obtain ⟨k, hk⟩ : ∃ k : Nat, z = -(k : Int) := ⟨z.natAbs, by omega⟩
    subst hk
    have h3 : 2 * d * -(k : Int) = -(2 * (d * k)) := by rw [Int.mul_neg, Int.mul_assoc]
    rw [h3] at h1 h2
    have h4 : (k : Int) ≤ d * k := by
      have : 1 * (k : Int) ≤ d * k := Int.mul_le_mul_of_nonneg_right (by omega) (by omega)
      omega
    have h5 : d * (k : Int) - d ≥ (k : Int) - 1 := by
      have h6 : d * (k : Int) - d = d * ((k : Int) - 1) := by rw [Int.mul_sub, Int.mul_one]
      have h7 : 1 * ((k : Int) - 1) ≤ d * ((k : Int) - 1) := Int.mul_le_mul_of_nonneg_right (by omega) (by omega)
      omega
    omega
  · obtain ⟨k, hk⟩ : ∃ k : Nat, z = (k : Int) := ⟨z.natAbs, by omega⟩
    subst hk
    rw [Int.mul_assoc] at h1 h2
    rcases Nat.eq_zero_or_pos k with h0 | h0
    · omega
    · have h5 : d * (k : Int) - d ≥ (k : Int) - 1 := by
        have h6 : d * (k : Int) - d = d * ((k : Int) - 1) := by rw [Int.mul_sub, Int.mul_one]
        have h7 : 1 * ((k : Int) - 1) ≤ d * ((k : Int) - 1) := Int.mul_le_mul_of_nonneg_right (by omega) (by omega)
        omega
      omega
theorem units_len {q : Rat} {p : Nat} (hn : q.num.natAbs < 10 ^ 90) (hp : p ≤ 100) : (Lib.decDigits (unitsP q p).natAbs).length ≤ 192 := by
  refine (dec_len_le (by omega)).2 ?_
  have dp := q.den_pos
  have h1 := near2_abs (n := q.num * ((10 ^ p : Nat) : Int)) (d := (q.den : Int)) (by omega)
  have h2 : (q.num * ((10 ^ p : Nat) : Int)).natAbs < 10 ^ (90 + 101) := by
    rw [Int.natAbs_mul, Int.natAbs_natCast]
    exact mul_pow_lt hn (Nat.lt_of_le_of_lt (pow_le_i hp) (Nat.pow_lt_pow_right (by omega) (by omega)))
  unfold unitsP
  have h3 := add_pow_lt h2 (show 1 < 10 ^ (90 + 101) by omega)
  exact Nat.lt_of_le_of_lt h1 h3
theorem mPrint_any (s : ByteArray) (hs : s.size ≤ 1000000) (p : Int) (B : Nat) (w : World) (hB : B ≤ w.heap.size) (hT : PQ B w) :
    Calls Tryz.prog 9 #[.string s, .int .i64 p] w (Ret w (pairV (printS s.data.toList p) (chkP s.data.toList p))) := by
  have HT := hide hT
  have HC := hide (mcheck_any s hs p B w hB hT)
  by_cases hc : chkP s.data.toList p = 0
  · obtain ⟨hM, p0, p1⟩ := chkP_ok hc
    obtain ⟨_, n1, d1⟩ := chkM_ok hM
    obtain ⟨P, hP⟩ : ∃ P : Nat, (P : Int) = p := ⟨p.toNat, by omega⟩
    rw [show checkM s.data.toList p = tripV (Lib.itoa (valQ s.data.toList).num) (Lib.itoa ((valQ s.data.toList).den : Int)) 0 from if_pos hc] at HC
    rw [show printS s.data.toList p = decT (unitsP (valQ s.data.toList) p.toNat) p.toNat from if_pos hc]
    subst hP
    have dp := (valQ s.data.toList).den_pos
    obtain ⟨f1, f2, f3, f4, f5, f6, f7⟩ := print_fits n1 d1 (show P ≤ 100 by omega)
    rw [hc, Int.toNat_natCast]
    have hul := units_len n1 (show P ≤ 100 by omega)
    have HPW := hide (fun w => mpower_to P (by omega) w)
    have HMU := hide (fun w hB hT => mmul_to (s := strB (Lib.itoa (valQ s.data.toList).num)) (t := strB (powT P)) (strB_list _) (strB_list _) f1 f3 f4 B w hB hT)
    have HNE := hide (fun w hB hT => mnearest_to (s := strB (Lib.itoa ((valQ s.data.toList).num * ((10 ^ P : Nat) : Int)))) (t := strB (Lib.itoa ((valQ s.data.toList).den : Int))) (strB_list _) (strB_list _) f4 f2 f5 f6 f7 (by omega) B w hB hT)
    obtain ⟨m, hm⟩ : ∃ m, m = unitsP (valQ s.data.toList) P := ⟨_, rfl⟩
    rw [show near2 ((valQ s.data.toList).num * ((10 ^ P : Nat) : Int)) ((valQ s.data.toList).den : Int) = m from hm.symm] at HNE
    rw [← hm] at hul ⊢
    have HSI := hide (fun w => msigned_any (strB (Lib.itoa m)) w)
    rw [strB_list, isNeg_itoa, digs_itoa] at HSI
    obtain ⟨N, hN⟩ : ∃ X, X = strB (Lib.itoa (valQ s.data.toList).num) := ⟨_, rfl⟩
    obtain ⟨D, hD⟩ : ∃ X, X = strB (Lib.itoa ((valQ s.data.toList).den : Int)) := ⟨_, rfl⟩
    obtain ⟨W, hW⟩ : ∃ X, X = strB (powT P) := ⟨_, rfl⟩
    obtain ⟨M, hM2⟩ : ∃ X, X = strB (Lib.itoa ((valQ s.data.toList).num * ((10 ^ P : Nat) : Int))) := ⟨_, rfl⟩
    obtain ⟨Q, hQ⟩ : ∃ X, X = strB (Lib.itoa m) := ⟨_, rfl⟩
    obtain ⟨S, hS⟩ : ∃ X, X = strB (sgnT (decide (m < 0))) := ⟨_, rfl⟩
    obtain ⟨O, hO⟩ : ∃ X, X = strB (Lib.decDigits m.natAbs) := ⟨_, rfl⟩
    have HC : Hid (Calls Tryz.prog 35 #[.string s, .int .i64 P] w (Ret w (.tuple #[.string N, .string D, .int .i64 0]))) := hide (by rw [hN, hD]; exact HC.out)
    rw [← hW] at HPW
    rw [← hN, ← hW, ← hM2] at HMU
    rw [← hD, ← hM2, ← hQ] at HNE
    rw [← hQ, ← hS, ← hO] at HSI
    have hOs : O.size = (Lib.decDigits m.natAbs).length := by rw [hO, strB_size]
    have hSs : S.size ≤ 1 := by rw [hS, strB_size]; unfold sgnT; split <;> simp
    have hO1 : 1 ≤ O.size := by rw [hOs]; exact dec_len_pos _
    have hOl : O.size ≤ 192 := by omega
    obtain ⟨X, hX⟩ : ∃ X, X = strB (decT m P) := ⟨_, rfl⟩
    rw [show pairV (decT m P) 0 = .tuple #[.string X, .int .i64 0] by rw [hX]]
    have hdt : decT m P = sgnT (decide (m < 0)) ++ (if P = 0 then Lib.decDigits m.natAbs else (own m P).take ((own m P).length - P) ++ 46 :: (own m P).drop ((own m P).length - P)) := by
      unfold decT sgnT
      by_cases h : m < 0 <;> simp [h]
    by_cases hP0 : P = 0
    · have z : ((P : Int) == 0) = true := by rw [hP0]; rfl
      have v : (9223372036854775807 < S.size + O.size) = False := eq_false (by omega)
      have HX := hide (show X = S ++ O by
        rw [hX, hdt, if_pos hP0, hS, hO]
        apply bytes_eq
        simp [strB])
      clear hc hM p0 p1 n1 d1 dp f1 f2 f3 f4 f5 f6 f7 hm hN hD hW hM2 hQ hS hO hT hOs hX hdt hP0 hul hSs hO1 hOl
      go_enter Tryz.func9, Tryz.ntmps9
      go_wp2_with fail
      refine HC.out.mono ?_
      rintro e w1 ⟨rfl, hb1⟩
      have HB1 := hide hb1
      clear hb1
      go_wp2_with fail
      refine (HPW.out _).mono ?_
      rintro e w2 ⟨rfl, hb2⟩
      have HB2 := hide (HB1.out.trans (hb2.mono HB1.out.size))
      clear hb2
      go_wp2_with fail
      refine (HMU.out _ (Nat.le_trans hB HB2.out.size) (HT.out.p10.on HB2.out hB)).mono ?_
      rintro e w3 ⟨rfl, hb3⟩
      have HB3 := hide (HB2.out.trans (hb3.mono HB2.out.size))
      clear hb3
      go_wp2_with fail
      refine (HNE.out _ (Nat.le_trans hB HB3.out.size) (HT.out.p10.on HB3.out hB)).mono ?_
      rintro e w4 ⟨rfl, hb4⟩
      have HB4 := hide (HB3.out.trans (hb4.mono HB3.out.size))
      clear hb4
      go_wp2_with fail
      refine (HSI.out _).mono ?_
      rintro e w5 ⟨rfl, hb5⟩
      have HB5 := hide (HB4.out.trans (hb5.mono HB4.out.size))
      clear hb5
      go_wp2_with fail
      refine bodyPost_ret (results_tmp2 rfl _ _ _) rfl ?_
      rw [HX.out]
      exact ⟨rfl, HB5.out⟩
    · have z : ((P : Int) == 0) = false := by simpa using hP0
      obtain ⟨F, hF⟩ : ∃ F, F = strB (own m P) := ⟨_, rfl⟩
      obtain ⟨k, hk⟩ : ∃ k, k = F.size - P := ⟨_, rfl⟩
      have hFs : F.size = (own m P).length := by rw [hF, strB_size]
      have hol := own_len m P
      have hol2 : (own m P).length ≤ 300 := by
        unfold own
        rw [List.length_append, List.length_replicate]
        omega
      have hkP : F.size = k + P := by omega
      have HX := hide (show X = S ++ F.extract 0 k ++ ⟨#[46]⟩ ++ F.extract k F.size by
        rw [hX, hdt, if_neg hP0, hS, ← hFs, ← hk]
        have e1 : F.extract k F.size = strB ((own m P).drop k) := by rw [ext_drop, hF, strB_list]
        have e2 : F.extract 0 k = strB ((own m P).take k) := by
          apply bytes_eq
          rw [strB_list, hF]
          simp [strB]
        rw [e1, e2]
        apply bytes_eq
        simp [strB])
      have hway : (∃ u : Nat, 0 < u ∧ u ≤ 200 ∧ (P : Int) + 1 - (O.size : Int) = (u : Int) ∧ F = strB (List.replicate u 48) ++ O) ∨ (((0 : Int) < (P : Int) + 1 - (O.size : Int)) = False ∧ F = O) := by
        by_cases h : O.size < P + 1
        · refine .inl ⟨P + 1 - O.size, by omega, by omega, by omega, ?_⟩
          rw [hF, hOs, hO]
          apply bytes_eq
          simp [strB, own]
        · refine .inr ⟨eq_false (by omega), ?_⟩
          rw [hF, hO]
          unfold own
          rw [show P + 1 - (Lib.decDigits m.natAbs).length = 0 by omega]
          rfl
      have hkI : IntKind.i64.wrap ((F.size : Int) - (P : Int)) = (k : Int) := by
        rw [IntWalk.i64_in _ (by omega)]
        omega
      have hkl : (k : Int) ≤ (F.size : Int) := by omega
      have hk0 : (0 : Int) ≤ (k : Int) := by omega
      have hkn : k ≤ F.size := by omega
      have hFl : F.size ≤ 300 := by omega
      have hPi0 : (0 : Int) ≤ (P : Int) := by omega
      have hPi1 : (P : Int) ≤ 100 := by omega
      have HKS := hide hkP
      have HKI := hide hkI
      clear hc hM p0 p1 n1 d1 dp f1 f2 f3 f4 f5 f6 f7 hm hN hD hW hM2 hQ hS hO hT hX hdt hP0 hul hF hk hFs hol hol2 hkP hkI hOs
      rcases hway with ⟨u, u0, u1, u2, u3⟩ | ⟨u2, u3⟩
      · have HR := hide (fun w => repeat_any ⟨#[48]⟩ u w (by omega) (by decide))
        rw [show (⟨#[48]⟩ : ByteArray).data.toList = [48] from rfl, repeat48] at HR
        have hZs : (strB (List.replicate u 48)).size ≤ 200 := by rw [strB_size, List.length_replicate]; exact u1
        obtain ⟨Z, hZ⟩ : ∃ Z, Z = strB (List.replicate u 48) := ⟨_, rfl⟩
        rw [← hZ] at HR u3 hZs
        have HF := hide u3
        have v1 : (9223372036854775807 < Z.size + O.size) = False := eq_false (by omega)
        have u0i : (0 : Int) < (u : Int) := by omega
        clear hZ u3
        go_enter Tryz.func9, Tryz.ntmps9
        go_wp2_with fail
        refine HC.out.mono ?_
        rintro e w1 ⟨rfl, hb1⟩
        have HB1 := hide hb1
        clear hb1
        go_wp2_with fail
        refine (HPW.out _).mono ?_
        rintro e w2 ⟨rfl, hb2⟩
        have HB2 := hide (HB1.out.trans (hb2.mono HB1.out.size))
        clear hb2
        go_wp2_with fail
        refine (HMU.out _ (Nat.le_trans hB HB2.out.size) (HT.out.p10.on HB2.out hB)).mono ?_
        rintro e w3 ⟨rfl, hb3⟩
        have HB3 := hide (HB2.out.trans (hb3.mono HB2.out.size))
        clear hb3
        go_wp2_with fail
        refine (HNE.out _ (Nat.le_trans hB HB3.out.size) (HT.out.p10.on HB3.out hB)).mono ?_
        rintro e w4 ⟨rfl, hb4⟩
        have HB4 := hide (HB3.out.trans (hb4.mono HB3.out.size))
        clear hb4
        go_wp2_with fail
        refine (HSI.out _).mono ?_
        rintro e w5 ⟨rfl, hb5⟩
        have HB5 := hide (HB4.out.trans (hb5.mono HB4.out.size))
        clear hb5
        go_wp2_with fail
        refine (HR.out _).mono ?_
        rintro e w6 ⟨rfl, hb6⟩
        have HB6 := hide (HB5.out.trans (hb6.mono HB5.out.size))
        clear hb6
        go_wp2_with fail
        rw [← HF.out]
        have hkI := HKI.out
        go_quiet (fail)
        go_wp2_with fail
        refine bodyPost_ret (results_tmp2 rfl _ _ _) rfl ?_
        rw [HX.out]
        exact ⟨rfl, below_drewN HB6.out _⟩
      · have u4 : ((O.size : Int) < (P : Int) + 1) = False := eq_false (by
          intro h
          have h2 : ¬ (0 : Int) < (P : Int) + 1 - (O.size : Int) := of_eq_false u2
          omega)
        subst u3
        go_enter Tryz.func9, Tryz.ntmps9
        go_wp2_with fail
        refine HC.out.mono ?_
        rintro e w1 ⟨rfl, hb1⟩
        have HB1 := hide hb1
        clear hb1
        go_wp2_with fail
        refine (HPW.out _).mono ?_
        rintro e w2 ⟨rfl, hb2⟩
        have HB2 := hide (HB1.out.trans (hb2.mono HB1.out.size))
        clear hb2
        go_wp2_with fail
        refine (HMU.out _ (Nat.le_trans hB HB2.out.size) (HT.out.p10.on HB2.out hB)).mono ?_
        rintro e w3 ⟨rfl, hb3⟩
        have HB3 := hide (HB2.out.trans (hb3.mono HB2.out.size))
        clear hb3
        go_wp2_with fail
        refine (HNE.out _ (Nat.le_trans hB HB3.out.size) (HT.out.p10.on HB3.out hB)).mono ?_
        rintro e w4 ⟨rfl, hb4⟩
        have HB4 := hide (HB3.out.trans (hb4.mono HB3.out.size))
        clear hb4
        go_wp2_with fail
        refine (HSI.out _).mono ?_
        rintro e w5 ⟨rfl, hb5⟩
        have HB5 := hide (HB4.out.trans (hb5.mono HB4.out.size))
        clear hb5
        go_wp2_with fail
        have hkI := HKI.out
        go_quiet (fail)
        go_wp2_with fail
        refine bodyPost_ret (results_tmp2 rfl _ _ _) rfl ?_
        rw [HX.out]
        exact ⟨rfl, below_drewN HB5.out _⟩
  · rw [show checkM s.data.toList p = tripV [] [] (chkP s.data.toList p) from if_neg hc, tripV_err] at HC
    rw [show printS s.data.toList p = [] from if_neg hc, pairV_err]
    have hne : (chkP s.data.toList p != 0) = true := by simpa using hc
    obtain ⟨E, hE⟩ : ∃ E, E = chkP s.data.toList p := ⟨_, rfl⟩
    rw [← hE] at HC hne ⊢
    clear hE hc hT
    go_enter Tryz.func9, Tryz.ntmps9
    go_wp2_with fail
    refine HC.out.mono ?_
    rintro e w1 ⟨rfl, hb1⟩
    have HB1 := hide hb1
    clear hb1
    go_wp2_with fail
    refine bodyPost_ret (results_tmp2 rfl _ _ _) rfl ?_
    exact ⟨rfl, HB1.out⟩
end Go.Proofs.YtfcjaljaomknjaaGreatDoor
namespace Go.KI
open Go

def pieces : List UInt8 → List (List UInt8)
  | [] => [[]]
  | c :: r => if c = 32 then [] :: pieces r else match pieces r with
    | [] => [[c]]
    | p :: t => (c :: p) :: t
def wordsL (l : List UInt8) : List (List UInt8) := if l = [] then [] else pieces l
def prn (c : UInt8) : Bool := decide (33 ≤ c.toNat) && decide (c.toNat ≤ 126)
def okW (w : List UInt8) : Bool := !w.isEmpty && w.all prn
theorem pieces_ne (l : List UInt8) : pieces l ≠ [] := by
  cases l with
  | nil => simp [pieces]
  | cons c r =>
    unfold pieces
    split
    · simp
    · split <;> simp
theorem pieces_cons (c : UInt8) (r : List UInt8) : pieces (c :: r) = if c = 32 then [] :: pieces r else match pieces r with
    | [] => [[c]]
    | p :: t => (c :: p) :: t := rfl
theorem pieces_cut {l : List UInt8} : pieces l = if 32 ∈ l then l.takeWhile (fun c => c != 32) :: pieces ((l.dropWhile (fun c => c != 32)).drop 1) else [l] := by
  induction l with
  | nil => rfl
  | cons c r ih =>
    rw [pieces_cons]
    by_cases hc : c = 32
    · subst hc
      rw [if_pos rfl, if_pos (by simp)]
      rfl
    · rw [if_neg hc]
      have h1 : (c != 32) = true := by simpa using hc
      have h2 : (32 ∈ c :: r) ↔ 32 ∈ r := by simp [Ne.symm hc]
      have e1 : (c :: r).takeWhile (fun c => c != 32) = c :: r.takeWhile (fun c => c != 32) := by simp [h1]
      have e2 : (c :: r).dropWhile (fun c => c != 32) = r.dropWhile (fun c => c != 32) := by simp [h1]
      rw [e1, e2]
      by_cases hr : 32 ∈ r
      · rw [if_pos hr] at ih
        rw [if_pos (h2.2 hr), ih]
      · rw [if_neg hr] at ih
        rw [if_neg (fun h => hr (h2.1 h)), ih]
theorem pieces_one {l : List UInt8} (h : 32 ∉ l) : pieces l = [l] := by
  rw [pieces_cut, if_neg h]
def alnum (c : UInt8) : Bool := (decide (97 ≤ c.toNat) && decide (c.toNat ≤ 122)) || (decide (65 ≤ c.toNat) && decide (c.toNat ≤ 90)) || (decide (48 ≤ c.toNat) && decide (c.toNat ≤ 57))
def nameL (l : List UInt8) : Bool := l.all alnum && !l.isEmpty && decide (l.length ≤ 16)
theorem alnum_prn {c : UInt8} (h : alnum c = true) : prn c = true ∧ c ≠ 32 := by
  unfold alnum at h
  unfold prn
  simp only [Bool.or_eq_true, Bool.and_eq_true, decide_eq_true_eq] at h ⊢
  refine ⟨by omega, fun e => ?_⟩
  rw [e] at h
  simp at h
theorem words_name {l : List UInt8} (h : nameL l = true) : wordsL l = [l] ∧ (wordsL l).all okW = true := by
  unfold nameL at h
  simp only [Bool.and_eq_true, decide_eq_true_eq, List.all_eq_true] at h
  obtain ⟨⟨h1, h2⟩, _⟩ := h
  have hl : l ≠ [] := fun e => by rw [e] at h2; cases h2
  have hw : wordsL l = [l] := by
    unfold wordsL
    rw [if_neg hl]
    exact pieces_one fun h32 => (alnum_prn (h1 _ h32)).2 rfl
  refine ⟨hw, ?_⟩
  rw [hw]
  simp only [List.all_cons, List.all_nil, Bool.and_true]
  unfold okW
  rw [h2, Bool.true_and, List.all_eq_true]
  exact fun c hc => (alnum_prn (h1 c hc)).1
theorem name_append {a b : List UInt8} (ha : nameL a = true) (hb : nameL b = true) : nameL (a ++ b) = decide (a.length + b.length ≤ 16) := by
  unfold nameL at *
  simp only [Bool.and_eq_true, decide_eq_true_eq] at ha hb
  obtain ⟨⟨a1, a2⟩, _⟩ := ha
  obtain ⟨⟨b1, _⟩, _⟩ := hb
  rw [List.all_append, a1, b1, List.length_append]
  cases a with
  | nil => cases a2
  | cons x y => simp
end Go.KI
namespace Go.Proofs.YtfcjaljaomknjaaGreatDoor
open Go.RowKit Go.KP Go.KI Go.Shelf
attribute [local go_sem] Oper.semAt_some

theorem alnum_iff {c : UInt8} : alnum c = true ↔ (97 ≤ c.toNat ∧ c.toNat ≤ 122) ∨ (65 ≤ c.toNat ∧ c.toNat ≤ 90) ∨ (48 ≤ c.toNat ∧ c.toNat ≤ 57) := by
  unfold alnum
  simp only [Bool.or_eq_true, Bool.and_eq_true, decide_eq_true_eq, or_assoc]
theorem take_all {l : List UInt8} {k : Nat} {c : UInt8} (h : (l.take k).all alnum = true) (hc : l[k]? = some c) (ha : alnum c = true) : (l.take (k + 1)).all alnum = true := by
  rw [List.take_add_one, hc, List.all_append, h]
  simp [ha]
theorem name_bad {l : List UInt8} {k : Nat} {c : UInt8} (hc : l[k]? = some c) (ha : alnum c = false) : nameL l = false := by
  have : l.all alnum = false := by
    apply Bool.eq_false_iff.2
    intro h
    have := List.all_eq_true.1 h c (List.mem_of_getElem? hc)
    rw [ha] at this
    cases this
  unfold nameL
  rw [this]
  rfl
open Go.RowKit Go.KP Go.KI Go.Shelf
attribute [local go_sem] Oper.semAt_some

theorem mIsName_any (s : ByteArray) (hs : s.size ≤ 1000000) (w : World) :
    Calls Tryz.prog 22 #[.string s] w (Ret w (.bool (nameL s.data.toList))) := by
  obtain ⟨R, hR⟩ : ∃ R, R = nameL s.data.toList := ⟨_, rfl⟩
  rw [← hR]
  have HR := hide hR
  clear hR
  go_enter Tryz.func22, Tryz.ntmps22
  go_wp2_with fail
  go_loopw [7] (fun i wr => ∃ k : Nat, k ≤ s.size ∧ i = .int .i64 k ∧ Hid ((s.data.toList.take k).all alnum = true) ∧ wr = w) (fun i _ => s.size - (intOf i).toNat)
  case atStart => exact ⟨0, by omega, rfl, hide rfl, by first | rfl | trivial⟩
  case round =>
    obtain ⟨k, hkL, rfl, HA, rfl⟩ := hrel
    have hk0 : (0 : Int) ≤ (k : Int) := by omega
    by_cases hlt : k < s.size
    · have hki : (k : Int) < (s.size : Int) := by omega
      obtain ⟨c, hc⟩ : ∃ c, s[k]'hlt = c := ⟨_, rfl⟩
      have hat : s.data.toList[k]? = some c := by
        have h3 : s.data.toList[k]? = some s.data[k] := by simp
        rw [h3]
        exact congrArg some hc
      have HAT := hide hat
      obtain ⟨y, hyv⟩ : ∃ y : Nat, y = c.toNat := ⟨_, rfl⟩
      have hyv2 : (s[k]'hlt).toNat = y := by rw [hc, hyv]
      have HY := hide hyv
      clear hat hc hyv
      rcases (show y < 48 ∨ (48 ≤ y ∧ y ≤ 57) ∨ (58 ≤ y ∧ y ≤ 64) ∨ (65 ≤ y ∧ y ≤ 90) ∨ (91 ≤ y ∧ y ≤ 96) ∨ (97 ≤ y ∧ y ≤ 122) ∨ 123 ≤ y by omega) with v | v | v | v | v | v | v
      · have ha : alnum c = false := by
          rw [Bool.eq_false_iff, Ne, alnum_iff, ← HY.out]
          omega
        have q0 : ((y : Int) < 97) = True := by exact eq_true (by omega)
        have q1 : ((122 : Int) < (y : Int)) = False := by exact eq_false (by omega)
        have q2 : ((y : Int) < 65) = True := by exact eq_true (by omega)
        have q3 : ((90 : Int) < (y : Int)) = False := by exact eq_false (by omega)
        have q4 : ((y : Int) < 48) = True := by exact eq_true (by omega)
        have q5 : ((57 : Int) < (y : Int)) = False := by exact eq_false (by omega)
        have hf : R = false := by rw [HR.out]; exact name_bad HAT.out ha
        subst hf
        clear v ha
        go_wp2_with fail
        go_ret
        exact ⟨rfl, Below.refl _ _⟩
      · have ha : alnum c = true := by
          rw [alnum_iff, ← HY.out]
          omega
        have q0 : ((y : Int) < 97) = True := by exact eq_true (by omega)
        have q1 : ((122 : Int) < (y : Int)) = False := by exact eq_false (by omega)
        have q2 : ((y : Int) < 65) = True := by exact eq_true (by omega)
        have q3 : ((90 : Int) < (y : Int)) = False := by exact eq_false (by omega)
        have q4 : ((y : Int) < 48) = False := by exact eq_false (by omega)
        have q5 : ((57 : Int) < (y : Int)) = False := by exact eq_false (by omega)
        have HN := hide (take_all HA.out HAT.out ha)
        clear v ha
        go_wp2_with fail
        go_roundw
        case rel => exact ⟨k + 1, by omega, by go_num, HN, by first | rfl | trivial⟩
        case measure => simp [intOf]; omega
      · have ha : alnum c = false := by
          rw [Bool.eq_false_iff, Ne, alnum_iff, ← HY.out]
          omega
        have q0 : ((y : Int) < 97) = True := by exact eq_true (by omega)
        have q1 : ((122 : Int) < (y : Int)) = False := by exact eq_false (by omega)
        have q2 : ((y : Int) < 65) = True := by exact eq_true (by omega)
        have q3 : ((90 : Int) < (y : Int)) = False := by exact eq_false (by omega)
        have q4 : ((y : Int) < 48) = False := by exact eq_false (by omega)
        have q5 : ((57 : Int) < (y : Int)) = True := by exact eq_true (by omega)
        have hf : R = false := by rw [HR.out]; exact name_bad HAT.out ha
        subst hf
        clear v ha
        go_wp2_with fail
        go_ret
        exact ⟨rfl, Below.refl _ _⟩
      · have ha : alnum c = true := by
          rw [alnum_iff, ← HY.out]
          omega
        have q0 : ((y : Int) < 97) = True := by exact eq_true (by omega)
        have q1 : ((122 : Int) < (y : Int)) = False := by exact eq_false (by omega)
        have q2 : ((y : Int) < 65) = False := by exact eq_false (by omega)
        have q3 : ((90 : Int) < (y : Int)) = False := by exact eq_false (by omega)
        have q4 : ((y : Int) < 48) = False := by exact eq_false (by omega)
        have q5 : ((57 : Int) < (y : Int)) = True := by exact eq_true (by omega)
        have HN := hide (take_all HA.out HAT.out ha)
        clear v ha
        go_wp2_with fail
        go_roundw
        case rel => exact ⟨k + 1, by omega, by go_num, HN, by first | rfl | trivial⟩
        case measure => simp [intOf]; omega
      · have ha : alnum c = false := by
          rw [Bool.eq_false_iff, Ne, alnum_iff, ← HY.out]
          omega
        have q0 : ((y : Int) < 97) = True := by exact eq_true (by omega)
        have q1 : ((122 : Int) < (y : Int)) = False := by exact eq_false (by omega)
        have q2 : ((y : Int) < 65) = False := by exact eq_false (by omega)
        have q3 : ((90 : Int) < (y : Int)) = True := by exact eq_true (by omega)
        have q4 : ((y : Int) < 48) = False := by exact eq_false (by omega)
        have q5 : ((57 : Int) < (y : Int)) = True := by exact eq_true (by omega)
        have hf : R = false := by rw [HR.out]; exact name_bad HAT.out ha
        subst hf
        clear v ha
        go_wp2_with fail
        go_ret
        exact ⟨rfl, Below.refl _ _⟩
      · have ha : alnum c = true := by
          rw [alnum_iff, ← HY.out]
          omega
        have q0 : ((y : Int) < 97) = False := by exact eq_false (by omega)
        have q1 : ((122 : Int) < (y : Int)) = False := by exact eq_false (by omega)
        have q2 : ((y : Int) < 65) = False := by exact eq_false (by omega)
        have q3 : ((90 : Int) < (y : Int)) = True := by exact eq_true (by omega)
        have q4 : ((y : Int) < 48) = False := by exact eq_false (by omega)
        have q5 : ((57 : Int) < (y : Int)) = True := by exact eq_true (by omega)
        have HN := hide (take_all HA.out HAT.out ha)
        clear v ha
        go_wp2_with fail
        go_roundw
        case rel => exact ⟨k + 1, by omega, by go_num, HN, by first | rfl | trivial⟩
        case measure => simp [intOf]; omega
      · have ha : alnum c = false := by
          rw [Bool.eq_false_iff, Ne, alnum_iff, ← HY.out]
          omega
        have q0 : ((y : Int) < 97) = False := by exact eq_false (by omega)
        have q1 : ((122 : Int) < (y : Int)) = True := by exact eq_true (by omega)
        have q2 : ((y : Int) < 65) = False := by exact eq_false (by omega)
        have q3 : ((90 : Int) < (y : Int)) = True := by exact eq_true (by omega)
        have q4 : ((y : Int) < 48) = False := by exact eq_false (by omega)
        have q5 : ((57 : Int) < (y : Int)) = True := by exact eq_true (by omega)
        have hf : R = false := by rw [HR.out]; exact name_bad HAT.out ha
        subst hf
        clear v ha
        go_wp2_with fail
        go_ret
        exact ⟨rfl, Below.refl _ _⟩
    · have hki : ((k : Int) < (s.size : Int)) = False := eq_false (by omega)
      have hall : s.data.toList.all alnum = true := by
        have := HA.out
        rwa [List.take_of_length_le (by rw [bytes_len]; omega)] at this
      have hv : R = (!s.data.toList.isEmpty && decide (s.size ≤ 16)) := by
        rw [HR.out]
        unfold nameL
        rw [hall, bytes_len]
        rfl
      have hem : s.data.toList.isEmpty = decide (s.size = 0) := by
        rw [← bytes_len]
        cases s.data.toList <;> simp
      rw [hem] at hv
      clear hall hem
      by_cases z : s.size = 0
      · have hf : R = false := by rw [hv]; simp [z]
        subst hf
        have z0 : (0 < s.size) = False := eq_false (by omega)
        have z00 : decide (0 < s.size) = false := decide_eq_false (by omega)
        have e0 : s.toList = [] := by rw [ByteArray.toList_eq]; exact List.length_eq_zero_iff.1 (by rw [bytes_len]; exact z)
        have e1 : (s.toList == []) = true := by rw [e0]; rfl
        have e2 : (s.toList != []) = false := by rw [e0]; rfl
        clear e0
        clear hv z hlt
        go_wp2_with fail
        go_ret
        exact ⟨rfl, Below.refl _ _⟩
      · have z0 : (0 : Int) < (s.size : Int) := by omega
        have e1 : (s.toList == []) = false := by
          rw [ByteArray.toList_eq]
          exact beq_false_of_ne fun e => by
            have : s.data.toList.length = 0 := by rw [e]; rfl
            rw [bytes_len] at this
            exact z this
        have e2 : (s.toList != []) = true := by simp only [bne, e1]; rfl
        by_cases z16 : s.size ≤ 16
        · have hf : R = true := by rw [hv]; simp [z, z16]
          subst hf
          have z1 : (s.size : Int) ≤ 16 := by omega
          clear hv hlt
          go_wp2_with fail
          go_ret
          exact ⟨rfl, Below.refl _ _⟩
        · have hf : R = false := by rw [hv]; simp [z16]
          subst hf
          have z1 : decide ((s.size : Int) ≤ 16) = false := decide_eq_false (by omega)
          clear hv hlt
          go_wp2_with fail
          go_ret
          exact ⟨rfl, Below.refl _ _⟩
end Go.Proofs.YtfcjaljaomknjaaGreatDoor
namespace Go.KI
open Go

theorem ahead_none {c : UInt8} {l : List UInt8} (h : ¬ c ∈ l) : ahead c l = l := by
  show l.takeWhile (fun x => x != c) = l
  induction l with
  | nil => rfl
  | cons a r ih =>
    have ha : (a != c) = true := by
      have : a ≠ c := fun e => h (by rw [e]; simp)
      simpa using this
    rw [List.takeWhile_cons, if_pos ha, ih (fun e => h (by simp [e]))]
theorem pieces_split {a b : List UInt8} (h : 32 ∉ a) : pieces (a ++ 32 :: b) = a :: pieces b := by
  induction a with
  | nil => rw [List.nil_append, pieces_cons, if_pos rfl]
  | cons c r ih =>
    have hc : c ≠ 32 := fun e => h (by rw [e]; simp)
    have hr : 32 ∉ r := fun e => h (by simp [e])
    rw [List.cons_append, pieces_cons, if_neg hc, ih hr]
theorem all_prn_no {a : List UInt8} (h : a.all prn = true) : 32 ∉ a := fun e => by
  have := List.all_eq_true.1 h 32 e
  revert this
  decide
structure Pass (l : List UInt8) (P : List (List UInt8)) (k i : Nat) : Prop where
  le : k ≤ i
  len : i ≤ l.length
  cut : pieces l = P ++ pieces (l.drop k)
  ok : P.all okW = true
  run : ((l.drop k).take (i - k)).all prn = true
theorem Pass.start (l : List UInt8) : Pass l [] 0 0 := ⟨Nat.le_refl _, Nat.zero_le _, by simp, rfl, by simp⟩
theorem drop_take_succ {l : List UInt8} {k i : Nat} {c : UInt8} (hk : k ≤ i) (hc : l[i]? = some c) : (l.drop k).take (i + 1 - k) = (l.drop k).take (i - k) ++ [c] := by
  rw [show i + 1 - k = (i - k) + 1 by omega, List.take_add_one, List.getElem?_drop, show k + (i - k) = i by omega, hc]
  rfl
theorem Pass.step {l : List UInt8} {P : List (List UInt8)} {k i : Nat} {c : UInt8} (h : Pass l P k i) (hc : l[i]? = some c) (hp : prn c = true) : Pass l P k (i + 1) := by
  have hi : i < l.length := (List.getElem?_eq_some_iff.1 hc).1
  refine ⟨by have := h.le; omega, hi, h.cut, h.ok, ?_⟩
  rw [drop_take_succ h.le hc, List.all_append, h.run]
  simp [hp]
theorem drop_at_space {l : List UInt8} {k i : Nat} (hk : k ≤ i) (hc : l[i]? = some 32) : l.drop k = (l.drop k).take (i - k) ++ 32 :: l.drop (i + 1) := by
  have hi : i < l.length := (List.getElem?_eq_some_iff.1 hc).1
  have h1 := List.take_append_drop (i - k) (l.drop k)
  have h2 : (l.drop k).drop (i - k) = 32 :: l.drop (i + 1) := by
    rw [List.drop_drop, show k + (i - k) = i by omega, List.drop_eq_getElem_cons hi]
    congr 1
    rw [List.getElem?_eq_getElem hi] at hc
    exact Option.some.inj hc
  rw [h2] at h1
  exact h1.symm
theorem Pass.word {l : List UInt8} {P : List (List UInt8)} {k i : Nat} (h : Pass l P k i) (hc : l[i]? = some 32) (hk : k < i) : Pass l (P ++ [(l.drop k).take (i - k)]) (i + 1) (i + 1) := by
  have hi : i < l.length := (List.getElem?_eq_some_iff.1 hc).1
  refine ⟨Nat.le_refl _, hi, ?_, ?_, by simp⟩
  · rw [h.cut, drop_at_space h.le hc, pieces_split (all_prn_no h.run), List.append_assoc, List.take_left' (by rw [List.length_take, List.length_drop]; omega)]
    rfl
  · rw [List.all_append, h.ok]
    unfold okW
    simp only [List.all_cons, List.all_nil, Bool.and_true, Bool.true_and]
    rw [h.run, Bool.and_true]
    simp only [Bool.not_eq_true', List.isEmpty_eq_false_iff]
    intro e
    have := congrArg List.length e
    rw [List.length_take, List.length_drop] at this
    simp at this
    omega
theorem Pass.last {l : List UInt8} {P : List (List UInt8)} {k : Nat} (h : Pass l P k l.length) (hk : k < l.length) : wordsL l = P ++ [(l.drop k).take (l.length - k)] ∧ (wordsL l).all okW = true := by
  have hl : l ≠ [] := fun e => by rw [e] at hk; cases hk
  have ht : (l.drop k).take (l.length - k) = l.drop k := List.take_of_length_le (by rw [List.length_drop]; exact Nat.le_refl _)
  have hr := h.run
  rw [ht] at hr ⊢
  have hw : wordsL l = P ++ [l.drop k] := by
    unfold wordsL
    rw [if_neg hl, h.cut, pieces_one (all_prn_no hr)]
  refine ⟨hw, ?_⟩
  rw [hw, List.all_append, h.ok]
  unfold okW
  simp only [List.all_cons, List.all_nil, Bool.and_true, Bool.true_and]
  rw [hr, Bool.and_true]
  simp only [Bool.not_eq_true', List.isEmpty_eq_false_iff]
  intro e
  have := congrArg List.length e
  rw [List.length_drop] at this
  simp at this
  omega
theorem pieces_len (l : List UInt8) : (pieces l).length ≤ l.length + 1 := by
  induction l with
  | nil => simp [pieces]
  | cons c r ih =>
    rw [pieces_cons]
    by_cases hc : c = 32
    · rw [if_pos hc, List.length_cons, List.length_cons]
      omega
    · rw [if_neg hc]
      cases hp : pieces r with
      | nil => simp
      | cons p t =>
        rw [hp] at ih
        simp only [List.length_cons] at ih ⊢
        omega
theorem words_len (l : List UInt8) : (wordsL l).length ≤ l.length + 1 := by
  unfold wordsL
  split
  · simp
  · exact pieces_len l
theorem Pass.count {l : List UInt8} {P : List (List UInt8)} {k i : Nat} (h : Pass l P k i) : P.length ≤ l.length + 1 := by
  have h1 := congrArg List.length h.cut
  have h2 := pieces_len l
  rw [List.length_append] at h1
  omega
theorem piece_len (l : List UInt8) : ∀ w ∈ pieces l, w.length ≤ l.length := by
  induction l with
  | nil => simp [pieces]
  | cons c r ih =>
    rw [pieces_cons]
    by_cases hc : c = 32
    · rw [if_pos hc]
      intro w hw
      rcases List.mem_cons.1 hw with h | h
      · rw [h]; simp
      · have := ih w h
        rw [List.length_cons]
        omega
    · rw [if_neg hc]
      cases hp : pieces r with
      | nil => exact absurd hp (pieces_ne r)
      | cons p t =>
        rw [hp] at ih
        intro w hw
        rcases List.mem_cons.1 hw with h | h
        · have := ih p (by simp)
          rw [h, List.length_cons, List.length_cons]
          omega
        · have := ih w (by simp [h])
          rw [List.length_cons]
          omega
theorem word_len {l : List UInt8} {k : Nat} (h : k < (wordsL l).length) : ((wordsL l).getD k []).length ≤ l.length := by
  have hm : (wordsL l).getD k [] ∈ wordsL l := by simp [h]
  unfold wordsL at hm
  split at hm
  · simp at hm
  · exact piece_len l _ (by rename_i h0; unfold wordsL; rw [if_neg h0]; exact hm)
theorem words_cut {l : List UInt8} (hl : l ≠ []) : (32 ∉ l ∧ wordsL l = [l]) ∨ (32 ∈ l ∧ behind 32 l = [] ∧ wordsL l = [ahead 32 l, []]) ∨ (32 ∈ l ∧ behind 32 l ≠ [] ∧ wordsL l = ahead 32 l :: wordsL (behind 32 l)) := by
  have h := pieces_cut (l := l)
  have e1 : l.takeWhile (fun c => c != 32) = ahead 32 l := rfl
  have e2 : (l.dropWhile (fun c => c != 32)).drop 1 = behind 32 l := rfl
  rw [e1, e2] at h
  unfold wordsL
  rw [if_neg hl, h]
  by_cases h32 : 32 ∈ l
  · rw [if_pos h32]
    by_cases hb : behind 32 l = []
    · exact .inr (.inl ⟨h32, hb, by rw [hb]; rfl⟩)
    · exact .inr (.inr ⟨h32, hb, by rw [if_neg hb]⟩)
  · rw [if_neg h32]
    exact .inl ⟨h32, rfl⟩
end Go.KI
namespace Go.Proofs.YtfcjaljaomknjaaGreatDoor
open Go.RowKit Go.KP Go.KI Go.Shelf
attribute [local go_sem] Oper.semAt_some

def wcells (ws : List (List UInt8)) : List Value := ws.map fun w => .string (strB w)
theorem wcells_snoc (ws : List (List UInt8)) (v : List UInt8) : wcells (ws ++ [v]) = wcells ws ++ [.string (strB v)] := by simp [wcells]
def wordsE (l : List UInt8) : Int := if 65536 < l.length then 4 else if (wordsL l).all okW = true then 0 else 3
def WordsAt (w : World) (l : List UInt8) (e : Ending) (w2 : World) : Prop :=
  ∃ v, e = .returned (.tuple #[v, .int .i64 (wordsE l)]) ∧ (if wordsE l = 0 then (∃ base t, w2.ownsRow base t 1 v (wordsL l).length (wcells (wordsL l))) else v = .slice none 0 0) ∧ Below w.heap.size w w2
theorem words_fail3 {w w2 : World} {l : List UInt8} (h : wordsE l = 3) (hb : Below w.heap.size w w2) : WordsAt w l (.returned (.tuple #[.slice none 0 0, .int .i64 3])) w2 :=
  ⟨.slice none 0 0, by rw [h], by rw [if_neg (by rw [h]; decide)], hb⟩
theorem words_fail4 {w w2 : World} {l : List UInt8} (h : wordsE l = 4) (hb : Below w.heap.size w w2) : WordsAt w l (.returned (.tuple #[.slice none 0 0, .int .i64 4])) w2 :=
  ⟨.slice none 0 0, by rw [h], by rw [if_neg (by rw [h]; decide)], hb⟩
theorem words_ret {w w2 : World} {l : List UInt8} {v : Value} {base : Nat} {e : TypeId} (h : wordsE l = 0) (ho : w2.ownsRow base e 1 v (wordsL l).length (wcells (wordsL l))) (hb : Below w.heap.size w w2) : WordsAt w l (.returned (.tuple #[v, .int .i64 0])) w2 :=
  ⟨v, by rw [h], by rw [if_pos h]; exact ⟨_, _, ho⟩, hb⟩
theorem wordsE_long {l : List UInt8} (h : 65536 < l.length) : wordsE l = 4 := if_pos h
theorem wordsE_bad {l : List UInt8} (h : ¬ 65536 < l.length) (h2 : (wordsL l).all okW = false) : wordsE l = 3 := by unfold wordsE; rw [if_neg h, if_neg (by rw [h2]; simp)]
theorem wordsE_ok {l : List UInt8} (h : ¬ 65536 < l.length) (h2 : (wordsL l).all okW = true) : wordsE l = 0 := by unfold wordsE; rw [if_neg h, if_pos h2]
theorem info9 : (Tryz.prog.info? 9).map (fun i => (i.zero, i.size, i.bytes)) = some (some (.string ⟨#[]⟩), 1, 16) := by kernel_rfl
theorem drop_head {α : Type} {L : List α} {k : Nat} {x : α} {r : List α} (d : α) (h : L.drop k = x :: r) : k < L.length ∧ L.getD k d = x ∧ L.drop (k + 1) = r := by
  have hl : k < L.length := by
    rcases Nat.lt_or_ge k L.length with h1 | h1
    · exact h1
    · rw [List.drop_eq_nil_of_le h1] at h
      cases h
  rw [List.drop_eq_getElem_cons hl] at h
  injection h with h1 h2
  exact ⟨hl, by simp [h1, hl], h2⟩
theorem drop_none {α : Type} {L : List α} {k : Nat} (hk : k ≤ L.length) (h : L.drop k = []) : k = L.length := by
  have := congrArg List.length h
  rw [List.length_drop] at this
  simp at this
  omega
end Go.Proofs.YtfcjaljaomknjaaGreatDoor
