/-
  A region of a round that draws its order: plain reads of a class of worlds, then two operations in order, the first of which stays in the class. Condition: the fence is the wide one.
-/
import Derived.Test.YthkioajalhglfaaGreatDoorRound
import Derived.Test.YthkioajalhglfaaGreatDoorCall
import Derived.OrdersHeld
namespace Go.KP
open Go

/-- Operations that yield a value and neither call nor wait. -/
def plainOp (o : Oper) : Bool := match o.op with
  | .move _ | .assign _ | .load _ _ | .binOp _ _ _ _ _ | .unOp _ _ _ | .indexAddr _ _ _ | .convert _ _ _ | .slice _ _ _ _ _ | .fieldAddr _ _ _ | .field _ _ _ | .index _ _ _ => true
  | _ => false
section
variable {P : Program} {md : Region.Mode}
theorem plain_value {o : Oper} (h : plainOp o = true) {ρ : Operand → Value} {w w' : World} {nx : Next} (hr : (execOp ρ o).run P w = .ok nx w') : ∃ v, nx = .value v := by
  have key : ∀ s : Sem Value, (do let x ← s; pure (Next.value x) : Sem Next).run P w = .ok nx w' → ∃ v, nx = .value v := by
    intro s hs
    simp only [Sem.run_bind, Sem.run_pure] at hs
    cases hx : s.run P w with
    | ok x w1 =>
      rw [hx] at hs
      simp only [Result.andThen] at hs
      injection hs with h1 h2
      exact ⟨x, h1.symm⟩
    | halt x w1 =>
      rw [hx] at hs
      simp only [Result.andThen] at hs
      cases hs
  unfold plainOp at h
  unfold execOp at hr
  cases ho : o.op <;> simp only [ho] at h hr <;> first | (cases h; done) | exact key _ hr | (simp only [Sem.run_pure] at hr; injection hr with h1 h2; exact ⟨_, h1.symm⟩)
theorem yieldsIf_of_quiet {o : Oper} {ops : Array Oper} {a : Act} {C : World → Prop} {K : Act → Prop} (hp : plainOp o = true) 
    (h : if Region.wanted o (yielded ops a.tmps) then o.quiet P a C K else K (a.put o.dst undef)) : ∃ v, YieldsIf P ops C o v a ∧ K (a.put o.dst v) := by
  by_cases hw : Region.wanted o (yielded ops a.tmps) = true
  · rw [if_pos hw] at h
    obtain ⟨v, hv, hk⟩ := h
    refine ⟨v, .inl ⟨hw, fun w hC => ?_⟩, hk⟩
    have h1 := hv w hC
    unfold Oper.quietAt at h1
    cases hr : (execOp a.eval o).run P w with
    | halt x w1 => rw [hr] at h1; cases x <;> exact h1.elim
    | ok nx w1 =>
      obtain ⟨u, rfl⟩ := plain_value hp hr
      rw [hr] at h1
      obtain ⟨e1, e2⟩ := h1
      rw [e1, e2]
  · rw [if_neg hw] at h
    exact ⟨undef, .inr ⟨by simpa using hw, rfl⟩, h⟩
def heldFrom (md : Region.Mode) (ops : Array Oper) : Nat → Nat → Array Bool → Bool
  | 0, _, _ => true
  | n + 1, k, L => (Region.ready md ops L).contains k && (Region.free md ops L k && heldFrom md ops n (k + 1) (L.setIfInBounds k true))
def marksOn : Nat → Nat → Array Bool → Array Bool
  | 0, _, L => L
  | n + 1, k, L => marksOn n (k + 1) (L.setIfInBounds k true)
theorem held_lex {ops : Array Oper} {Q : Exit → Act → World → Prop} {S : World → Prop} {Qf : Act → Prop} {w : World} {f : Nat} (hs : Region.noSelect ops = true) (hQ : ∀ c a w, ¬ Q (.panic c) a w) (hS : S w) :
    ∀ (r : List Oper) (k : Nat) (L : Array Bool) (a : Act), (∀ j, j < r.length → r[j]? = ops[k + j]?) → r.all plainOp = true → heldFrom md ops r.length k L = true → wpQuiet P ops S Qf r a →
      (∀ a', Qf a' → wpAnyH P md ops Q S f (marksOn r.length k L) a' w) → wpAnyH P md ops Q S (r.length + f) L a w := by
  intro r
  induction r with
  | nil =>
    intro k L a _ _ _ hq hK
    simpa [marksOn] using hK a hq
  | cons o r ih =>
    intro k L a hl hp hB hq hK
    simp only [List.all_cons, Bool.and_eq_true] at hp
    simp only [List.length_cons, heldFrom, Bool.and_eq_true] at hB
    have h0 : ops[k]? = some o := by have := hl 0 (by simp); simpa using this.symm
    obtain ⟨v, hy, hk⟩ := yieldsIf_of_quiet (ops := ops) hp.1 hq
    rw [List.length_cons, Nat.add_right_comm]
    refine wpAnyH_take h0 hs hB.2.1 hB.1 (fun c a w h => (hQ c _ w h).elim) hy hS (ih (k + 1) _ _ (fun j hj => ?_) hp.2 hB.2.2 hk (fun a' ha' => hK a' ha'))
    have := hl (j + 1) (by simpa using hj)
    simpa [Nat.add_assoc, Nat.add_comm 1 j] using this
theorem wpOp_of_list {Q Q' : Exit → Act → World → Prop} {K : Act → World → Prop} {ops : Array Oper} {n : Nat} {o : Oper} {a : Act} {w : World} (ho : ops[n]? = some o) (hQ' : ∀ e a w, Q' e a w → e = .normal ∧ K a w)
    (h : wpList P ops Q' [o] a w) : wpOp P ops Q n K a w := by
  unfold wpOp
  rw [ho]
  unfold wpList at h
  by_cases hw : Region.wanted o (yielded ops a.tmps) = true
  · simp only [hw, if_true] at h ⊢
    have hL : ¬ LetsOut Q' := by
      rintro ⟨a2, w2, h⟩
      cases (hQ' _ _ _ h).1
    rcases h with h | ⟨_, h⟩
    · exact .inl (wp_only (fun a w hk => (hQ' _ _ _ (by simpa [wpList] using hk)).2) (fun e a w hne h => hne (hQ' _ _ _ h).1) hL h)
    · exact (hL h).elim
  · simp only [hw] at h ⊢
    exact (hQ' _ _ _ (by simpa [wpList] using h)).2
/-- **The region**: n plain reads, then two operations. -/
theorem round_two {id : Nat} {Q : Exit → Act → World → Prop} {a : Act} {w : World} {l : List Oper} {r : Nat} (n : Nat) (o1 o2 : Oper) (S : World → Prop) (hm : P.follows .mixedOrders = true) (hn : l.length = n + 2) (h1 : l.toArray[n]? = some o1) (h2 : l.toArray[n + 1]? = some o2)
    (hno : Region.noSelect l.toArray = true) (hp : (l.take n).all plainOp = true) (hd : noDefer l.toArray = true) (hB : heldFrom .any l.toArray n 0 (Array.replicate (n + 2) false) = true)
    (r1 : Region.ready .any l.toArray (marksOn n 0 (Array.replicate (n + 2) false)) = [n]) (r2 : Region.ready .any l.toArray ((marksOn n 0 (Array.replicate (n + 2) false)).setIfInBounds n true) = [n + 1])
    (r3 : Region.ready .any l.toArray (((marksOn n 0 (Array.replicate (n + 2) false)).setIfInBounds n true).setIfInBounds (n + 1) true) = []) (hS : S { w with drawn := w.drawn + 1 })
    (h : wpQuiet P l.toArray S (fun a' => wpList P l.toArray (fun e a2 w2 => e = .normal ∧ S w2 ∧ wpList P l.toArray (fun e a3 w3 => e = .normal ∧ S w3 ∧ Q .normal a3 w3) [o2] a2 w2) [o1] a' { w with drawn := w.drawn + 1 }) (l.take n) a) :
    (Code.region id l.toArray true).wpIn (Fence.wide.inRound r) 0 P Q a w := by
  refine wpIn_mono (Q := fun e a2 w2 => e = .normal ∧ Q .normal a2 w2) (wpIn_region_draw fun t => ?_) (fun e a2 w2 ⟨he, hq⟩ => by rw [he]; exact hq)
  refine opsIn_of_ops (fun _ _ hx => by cases hx.1) (noDefer_spec hd) _ _ _ ?_
  simp only [Region.schedule, hm, Bool.true_or, if_true]
  refine wpAny_sound l.toArray.size t _ a _ (wpAny_of_held (S := S) _ _ _ _ ?_)
  have hlt : (l.take n).length = n := by simp; omega
  have hsz : l.toArray.size = n + 2 := by simpa using hn
  rw [hsz]
  have key := held_lex (P := P) (md := .any) (ops := l.toArray) (Q := fun e a2 w2 => e = .normal ∧ Q .normal a2 w2) (S := S) (f := 2) hno (fun c a w h => by cases h.1) hS (l.take n) 0 (Array.replicate (n + 2) false) a
    (fun j hj => by rw [hlt] at hj; simp [hj]) hp (by rw [hlt]; exact hB) h (fun a' ha' => ?_)
  · rw [hlt] at key
    exact key
  · rw [hlt]
    refine wpAnyH_all r1 (by simp) (fun i hi => ?_)
    obtain rfl : i = n := by simpa using hi
    refine wpOp_of_list h1 ?_ ha'
    rintro e a2 w2 ⟨he, hs2, hl2⟩
    refine ⟨he, hs2, wpAnyH_all r2 (by simp) (fun j hj => ?_)⟩
    obtain rfl : j = i + 1 := by simpa using hj
    refine wpOp_of_list h2 ?_ hl2
    rintro e3 a3 w3 ⟨he3, hs3, hq3⟩
    exact ⟨he3, hs3, wpAnyH_done r3 ⟨rfl, hq3⟩ _⟩
/-- What is asked at the regular end, and no other end. -/
def calmPost (Q : Exit → Act → World → Prop) : Exit → Act → World → Prop
  | .normal, a, w => Q .normal a w
  | _, _, _ => False
theorem calm_normal {Q : Exit → Act → World → Prop} {a : Act} {w : World} (h : Q .normal a w) : calmPost Q .normal a w := h
/-- A region outside every round, walked as anywhere: it ends as it should, or not at all. -/
theorem region_calm {c : Code} {Q : Exit → Act → World → Prop} {a : Act} {w : World} (h : c.wp P (calmPost Q) a w) : c.wpIn Fence.wide 0 P Q a w :=
  wpIn_mono (wpIn_wide.2 h) (fun e a2 w2 hq => by cases e <;> first | exact hq | exact hq.elim)
end
end Go.KP
