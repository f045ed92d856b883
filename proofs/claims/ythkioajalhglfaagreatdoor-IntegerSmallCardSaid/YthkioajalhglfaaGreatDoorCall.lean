/-
  A region that draws its order: quiet operations, one call that may write, quiet operations behind it.
-/
import Derived.Test.YthkioajalhglfaaGreatDoorPrefix
namespace Go.KP
open Go

section
variable {P : Program} {C : World → Prop}
/-- The marks behind the first n operations; the next one. -/
def marksAt (n m : Nat) : Array Bool := padded (Array.replicate n true) m
theorem wp_only {o : Oper} {a : Act} {w : World} {K K' : Act → World → Prop} {Q Q' : Exit → Act → World → Prop} (hK : ∀ a w, K a w → K' a w) (hQ : ∀ e a w, e ≠ .normal → ¬ Q e a w) (hL : ¬ LetsOut Q) (h : o.wp P a w K Q) : o.wp P a w K' Q' := by
  unfold Oper.wp at *
  generalize (execOp a.eval o).run P w = r at *
  cases r with
  | ok n w' =>
    cases n <;> simp only [Oper.upon] at h ⊢ <;>
      first
        | exact hK _ _ h
        | (refine Calls.mono h (fun e w'' he => ?_)
           cases e
           · exact hK _ _ he
           · exact (hQ _ _ _ (by simp) he).elim
           · exact (hL he).elim)
        | exact Rows.mono h (fun _ _ he => hK _ _ he)
  | halt x w' => cases x <;> simp only [Oper.upon] at h ⊢ <;> exact (hQ _ _ _ (by simp) h).elim
theorem wpAny_one {Q : Exit → Act → World → Prop} {l : List Oper} {n : Nat} {o : Oper} (ho : l[n]? = some o) (hr : Region.ready .any l.toArray (marksAt n (l.length - n)) = [n]) (hno : Region.noSelect l.toArray = true)
    (hlex : Region.lexFrom .any l.toArray (l.drop (n + 1)).length (n + 1) ((marksAt n (l.length - n)).setIfInBounds n true) = true) {a : Act} {w : World}
    (h : wpList P l.toArray (fun e a2 w2 => e = .normal ∧ ∃ D : World → Prop, D w2 ∧ wpQuiet P l.toArray D (fun a' => ∀ w', D w' → Q .normal a' w') (l.drop (n + 1)) a2) [o] a w) :
    wpAny P .any l.toArray Q ((l.drop (n + 1)).length + 1) (marksAt n (l.length - n)) a w := by
  refine ⟨fun h0 => (by rw [hr] at h0; cases h0), fun i hi => ?_⟩
  rw [hr] at hi
  obtain rfl : i = n := by simpa using hi
  have hnext : ∀ a' w', wpList P l.toArray (fun e a2 w2 => e = .normal ∧ ∃ D : World → Prop, D w2 ∧ wpQuiet P l.toArray D (fun a' => ∀ w', D w' → Q .normal a' w') (l.drop (i + 1)) a2) [] a' w' →
      wpAny P .any l.toArray Q (l.drop (i + 1)).length ((marksAt i (l.length - i)).setIfInBounds i true) a' w' := by
    rintro a' w' ⟨_, D, hD, hq⟩
    exact wpAny_of_quiet (C := D) (Q := fun a' => ∀ w', D w' → Q .normal a' w') (fun _ w' hw h => h w' hw) _ _ _ _ hD (wpAnyQ_lex hno (l.drop (i + 1)) (i + 1) _ a' (fun j => by simp) hlex hq)
  unfold wpOp
  rw [List.getElem?_toArray, ho]
  unfold wpList at h
  by_cases hw : Region.wanted o (yielded l.toArray a.tmps) = true
  · simp only [hw, if_true] at h ⊢
    have hL : ¬ LetsOut (fun (e : Exit) (a2 : Act) (w2 : World) => e = .normal ∧ ∃ D : World → Prop, D w2 ∧ wpQuiet P l.toArray D (fun a' => ∀ w', D w' → Q .normal a' w') (l.drop (i + 1)) a2) := by
      rintro ⟨a2, w2, h, _⟩
      cases h
    rcases h with h | ⟨_, h⟩
    · exact .inl (wp_only hnext (fun e a2 w2 hne h => hne h.1) hL h)
    · exact (hL h).elim
  · simp only [hw] at h ⊢
    exact hnext _ _ h
/-- **A region that draws its order: its first n operations quiet in the class C, then one operation by itself, then quiet ones.** -/
theorem region_call {id : Nat} {Q : Exit → Act → World → Prop} {a : Act} {w : World} {l : List Oper} (n : Nat) (o : Oper) (hm : P.follows .mixedOrders = true) (hn : n ≤ l.length) (ho : l[n]? = some o) (hno : Region.noSelect l.toArray = true) (hno1 : Region.noSelect (l.take n).toArray = true)
    (hlex : Region.lexFrom .any (l.take n).toArray n 0 (Array.replicate n false) = true) (hg : gateB .any l 0 n = true) (hr : Region.ready .any l.toArray (marksAt n (l.length - n)) = [n])
    (hlex2 : Region.lexFrom .any l.toArray (l.drop (n + 1)).length (n + 1) ((marksAt n (l.length - n)).setIfInBounds n true) = true) (hC : C { w with drawn := w.drawn + 1 })
    (h : wpQuiet P (l.take n).toArray C (fun a' => ∀ w', C w' → wpList P l.toArray (fun e a2 w2 => e = .normal ∧ ∃ D : World → Prop, D w2 ∧ wpQuiet P l.toArray D (fun a' => ∀ w', D w' → Q .normal a' w') (l.drop (n + 1)) a2) [o] a' w') (l.take n) a) :
    (Code.region id l.toArray true).wp P Q a w := by
  refine wp_region_any hm ?_
  have hlt : (l.take n).length = n := by simp; omega
  have h1 := wpAnyQ_lex (P := P) (C := C) (md := .any) hno1 (l.take n) 0 (Array.replicate n false) a (by simp) (by rw [hlt]; exact hlex) h
  rw [hlt] at h1
  have hnl : n < l.length := (List.getElem?_eq_some_iff.1 ho).1
  have h2 := any_prefix (P := P) (C := C) (Q := Q) (f := (l.drop (n + 1)).length + 1)
    (Qf := fun a' => ∀ w', C w' → wpList P l.toArray (fun e a2 w2 => e = .normal ∧ ∃ D : World → Prop, D w2 ∧ wpQuiet P l.toArray D (fun a' => ∀ w', D w' → Q .normal a' w') (l.drop (n + 1)) a2) [o] a' w') hg hn (fun a2 w2 hw2 h3 => wpAny_one ho hr hno hlex2 (h3 w2 hw2))
    n (Array.replicate n false) a (by simp) (fun i j hi => by simp [Array.getD_eq_getD_getElem?, Array.getElem?_replicate] at hi; split at hi <;> simp at hi) (fun j hj => by omega) (by simp) h1 _ hC
  have e : padded (Array.replicate n false) (l.length - n) = Array.replicate l.toArray.size false := by
    unfold padded
    rw [Array.replicate_append_replicate]
    congr 1
    simp
    omega
  rw [e] at h2
  have e2 : n + ((l.drop (n + 1)).length + 1) = l.toArray.size := by simp; omega
  rwa [e2] at h2
end
end Go.KP
