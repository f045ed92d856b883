/-
  A region of a round that draws its order: its first n operations quiet in a class of worlds, the rest in order.
-/
import Derived.Test.YthkioajalhglfaaGreatDoorGen2
import Derived.Test.YthkioajalhglfaaGreatDoorPrefix
namespace Go.KP
open Go

section
variable {P : Program} {C : World → Prop}
theorem round_prefix {id : Nat} {Q : Exit → Act → World → Prop} {a : Act} {w : World} {l : List Oper} {r : Nat} (n : Nat) (hm : P.follows .mixedOrders = true) (hn : n ≤ l.length) (hno : Region.noSelect (l.take n).toArray = true)
    (hlex : Region.lexFrom .any (l.take n).toArray n 0 (Array.replicate n false) = true) (hg : gateB .any l 0 n = true) (hs : seqB .any l n = true) (hd : noDefer l.toArray = true) (hC : C { w with drawn := w.drawn + 1 })
    (h : wpQuiet P (l.take n).toArray C (fun a' => ∀ w', C w' → wpList P l.toArray (fun e a2 w2 => e = .normal ∧ Q .normal a2 w2) (l.drop n) a' w') (l.take n) a) : (Code.region id l.toArray true).wpIn (Fence.wide.inRound r) 0 P Q a w := by
  refine wpIn_mono (Q := fun e a2 w2 => e = .normal ∧ Q .normal a2 w2) (wpIn_region_draw fun t => ?_) (fun e a2 w2 ⟨he, hq⟩ => by rw [he]; exact hq)
  refine opsIn_of_ops (fun _ _ hx => by cases hx.1) (noDefer_spec hd) _ _ _ ?_
  simp only [Region.schedule, hm, Bool.true_or, if_true]
  refine wpAny_sound l.toArray.size t _ a _ ?_
  have hlt : (l.take n).length = n := by simp; omega
  have h1 := wpAnyQ_lex (P := P) (C := C) (md := .any) hno (l.take n) 0 (Array.replicate n false) a (by simp) (by rw [hlt]; exact hlex) h
  rw [hlt] at h1
  have h2 := any_prefix (P := P) (C := C) (Q := fun e a2 w2 => e = .normal ∧ Q .normal a2 w2) (f := (l.drop n).length) (Qf := fun a' => ∀ w', C w' → wpList P l.toArray (fun e a2 w2 => e = .normal ∧ Q .normal a2 w2) (l.drop n) a' w') hg hn (fun a2 w2 hw2 h3 => any_seq hs (l.drop n) n a2 w2 (fun j => by simp) (Nat.le_refl _) (by simp; omega) (h3 w2 hw2))
    n (Array.replicate n false) a (by simp) (fun i j hi => by simp [Array.getD_eq_getD_getElem?, Array.getElem?_replicate] at hi; split at hi <;> simp at hi) (fun j hj => by omega) (by simp) h1 _ hC
  have e : padded (Array.replicate n false) (l.length - n) = Array.replicate l.toArray.size false := by
    unfold padded
    rw [Array.replicate_append_replicate]
    congr 1
    simp
    omega
  rw [e] at h2
  have e2 : n + (l.drop n).length = l.toArray.size := by simp; omega
  rwa [e2] at h2
end
end Go.KP
