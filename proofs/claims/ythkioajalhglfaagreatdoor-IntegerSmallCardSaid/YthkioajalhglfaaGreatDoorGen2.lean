/-
  More small words: the length of a boxed slice value as a measure.
-/
import Derived.Test.YthkioajalhglfaaGreatDoorLoop
import Derived.Deep.QuietTactic
import Derived.BigQuiet
namespace Go.KP
open Go Go.RowKit

def lenAt (w : World) (b : Nat) : Nat := match w.cell? ⟨b, 0, none⟩ with | some (.slice _ m _) => m | _ => 0
theorem owns_form {w : World} {base : Nat} {e : TypeId} {sz : Nat} {v : Value} {n : Nat} {xs : List Value} (h : w.ownsRow base e sz v n xs) : ∃ a c, v = .slice a n c := by
  rcases h.2 with ⟨h1, h2⟩ | ⟨g, cap, cur, hv, _⟩
  · exact ⟨none, 0, by rw [h1, h2]⟩
  · exact ⟨_, _, hv⟩
theorem lenAt_eq {w : World} {b : Nat} {a : Option Addr} {n c : Nat} {t : TypeId} (h : w.heap[b]? = some (.cells #[.slice a n c] t (0, 0))) : lenAt w b = n := by simp [lenAt, World.cell?, h]

variable {P : Program}
theorem rows_in {row : String} {args : Array Value} {w : World} {R : Value → World → Prop} {r : Nat} (h : Rows P row args w R) : RowsIn (Fence.wide.inRound r) 0 P row args w R :=
  fun c cs _ => let ⟨v, w2, hr, hs⟩ := h c cs; ⟨v, w2, hr, (stepsIn_wide (P := P)).2 hs⟩

/-- **A region of a round, walked as anywhere**: none of its operations defers, its post says nothing of running out of room. -/
theorem opsIn_of_ops {ops : Array Oper} {Q : Exit → Act → World → Prop} {r : Nat} (hQ : ∀ a w, ¬ Q .outgrown a w) (hd : ∀ (i : Nat) (o : Oper), ops[i]? = some o → ∀ c, o.op ≠ .defer c) :
    ∀ (l : List Nat) (a : Act) (w : World), wpOps P ops Q l a w → wpOpsIn (Fence.wide.inRound r) 0 P ops Q l a w := by
  intro l
  induction l with
  | nil => exact fun a w h => h
  | cons i rest ih =>
    intro a w h
    simp only [wpOps] at h
    simp only [wpOpsIn]
    cases ho : ops[i]? with
    | none => simp only [ho] at h ⊢; exact ih a w h
    | some o =>
      simp only [ho] at h ⊢
      split at h
      · rename_i hw
        rw [if_pos hw]
        rcases h with h | ⟨_, a2, w2, h⟩
        · refine ⟨fun _ _ => trivial, ?_⟩
          rw [Oper.semAt_eq _ _ _ (hd i o ho)]
          unfold Oper.wp at h
          generalize (execOp a.eval o).run P w = res at h
          cases res with
          | ok x w2 =>
            cases x with
            | value v => exact ih _ _ h
            | skip => exact ih _ _ h
            | defer d => exact ih _ _ h
            | enter f args =>
              refine ⟨fun hx => by simp [Fence.wide, Fence.inRound] at hx, ?_⟩
              refine (CallsIn.inRound r (callsIn_wide.2 (show Calls P f args w2 _ from h))).mono ?_
              intro e w3 he
              cases e with
              | returned v => exact ih _ _ he
              | panicked ch => exact he
              | outgrown => exact he
            | row row args => exact ⟨fun hx => by simp [Fence.wide, Fence.inRound] at hx, RowsIn.mono (rows_in h) (fun v w3 hv => ih _ _ hv)⟩
            | round l f tmps asg body => exact h.elim
            | _ => exact h.elim
          | halt x w2 =>
            cases x <;> first | exact h | exact h.elim
        · exact (hQ a2 w2 h).elim
      · rename_i hw
        rw [if_neg hw]
        exact ⟨fun _ _ => trivial, ih _ _ h⟩

def noDefer (ops : Array Oper) : Bool := ops.all fun o => match o.op with | .defer _ => false | _ => true
theorem noDefer_spec {ops : Array Oper} (h : noDefer ops = true) (i : Nat) (o : Oper) (ho : ops[i]? = some o) (c : Call) : o.op ≠ .defer c := by
  intro e
  obtain ⟨hlt, he⟩ := Array.getElem?_eq_some_iff.1 ho
  have h2 := (Array.all_eq_true.1 h) i hlt
  rw [he, e] at h2
  cases h2

/-- A region of a round that draws its order, whose operations only read. -/
theorem round_quiet {id : Nat} {Q : Exit → Act → World → Prop} {a : Act} {w : World} {l : List Oper} {r : Nat} (hm : P.follows .mixedOrders = true) (hB : Region.lexB .any l.toArray = true) (hn : noDefer l.toArray = true)
    (h : wpQuiet P l.toArray (fun w' => ∃ n, w' = w.drewN n) (fun a' => ∀ w', (∃ n, w' = w.drewN n) → Q .normal a' w') l a) : (Code.region id l.toArray true).wpIn (Fence.wide.inRound r) 0 P Q a w := by
  refine wpIn_mono (Q := fun e a2 w2 => e = .normal ∧ Q .normal a2 w2) (wpIn_region_draw fun t => ?_) (fun e a2 w2 ⟨he, hq⟩ => by rw [he]; exact hq)
  refine opsIn_of_ops (fun _ _ hx => by cases hx.1) (noDefer_spec hn) _ _ _ ?_
  simp only [Region.lexB, Bool.and_eq_true] at hB
  simp only [Region.schedule, hm, Bool.true_or, if_true]
  refine wpAny_sound l.toArray.size t _ a _ (wpAny_of_quiet (C := fun w' => ∃ n, w' = w.drewN n) (Q := fun a' => ∀ w', (∃ n, w' = w.drewN n) → Q .normal a' w') (fun _ w' hw' h => ⟨rfl, h w' hw'⟩) _ _ _ _ ⟨1, rfl⟩ ?_)
  have h2 := wpAnyQ_lex (C := fun w' => ∃ n, w' = w.drewN n) (md := .any) hB.1 l 0 (Array.replicate l.toArray.size false) a (by simp) (by simpa using hB.2) h
  simpa using h2

/-- Where a region may be left to be walked outside the round: at a class of worlds. -/
theorem round_class {id : Nat} {Q : Exit → Act → World → Prop} {a : Act} {w : World} {l : List Oper} {r : Nat} (C : World → Prop) (hm : P.follows .mixedOrders = true) (hB : Region.lexB .any l.toArray = true) (hn : noDefer l.toArray = true) (hC : C { w with drawn := w.drawn + 1 })
    (h : wpQuiet P l.toArray C (fun a' => ∀ w', C w' → Q .normal a' w') l a) : (Code.region id l.toArray true).wpIn (Fence.wide.inRound r) 0 P Q a w := by
  refine wpIn_mono (Q := fun e a2 w2 => e = .normal ∧ Q .normal a2 w2) (wpIn_region_draw fun t => ?_) (fun e a2 w2 ⟨he, hq⟩ => by rw [he]; exact hq)
  refine opsIn_of_ops (fun _ _ hx => by cases hx.1) (noDefer_spec hn) _ _ _ ?_
  simp only [Region.lexB, Bool.and_eq_true] at hB
  simp only [Region.schedule, hm, Bool.true_or, if_true]
  refine wpAny_sound l.toArray.size t _ a _ (wpAny_of_quiet (C := C) (Q := fun a' => ∀ w', C w' → Q .normal a' w') (fun _ w' hw' h => ⟨rfl, h w' hw'⟩) _ _ _ _ hC ?_)
  have h2 := wpAnyQ_lex (C := C) (md := .any) hB.1 l 0 (Array.replicate l.toArray.size false) a (by simp) (by simpa using hB.2) h
  simpa using h2
end Go.KP
