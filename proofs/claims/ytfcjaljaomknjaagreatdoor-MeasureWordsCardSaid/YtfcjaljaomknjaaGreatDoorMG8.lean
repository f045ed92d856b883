/-
  Texts laid together.
-/
import Derived.Test.YtfcjaljaomknjaaGreatDoorMG1
import Derived.Test.YtfcjaljaomknjaaGreatDoorMG5
import Derived.Test.YtfcjaljaomknjaaGreatDoorMG2
import Derived.Lib.Join
import Derived.Lib.TrimUEq
set_option maxRecDepth 100000
set_option maxHeartbeats 16000000
namespace Go.KI
open Go

def pieces : List UInt8 → List (List UInt8)
  | [] => [[]]
  | c :: r => if c = 32 then [] :: pieces r else match pieces r with
    | [] => [[c]]
    | p :: t => (c :: p) :: t
def wordsL (l : List UInt8) : List (List UInt8) := if l = [] then [] else pieces l
def prn (c : UInt8) : Bool := decide (33 ≤ c.toNat) && decide (c.toNat ≤ 126)
def okW (w : List UInt8) : Bool := !w.isEmpty && w.all prn
theorem pieces_ne (l : List UInt8) : pieces l ≠ [] := by
  cases l with
  | nil => simp [pieces]
  | cons c r =>
    unfold pieces
    split
    · simp
    · split <;> simp
theorem pieces_cons (c : UInt8) (r : List UInt8) : pieces (c :: r) = if c = 32 then [] :: pieces r else match pieces r with
    | [] => [[c]]
    | p :: t => (c :: p) :: t := rfl
theorem pieces_cut {l : List UInt8} : pieces l = if 32 ∈ l then l.takeWhile (fun c => c != 32) :: pieces ((l.dropWhile (fun c => c != 32)).drop 1) else [l] := by
  induction l with
  | nil => rfl
  | cons c r ih =>
    rw [pieces_cons]
    by_cases hc : c = 32
    · subst hc
      rw [if_pos rfl, if_pos (by simp)]
      rfl
    · rw [if_neg hc]
      have h1 : (c != 32) = true := by simpa using hc
      have h2 : (32 ∈ c :: r) ↔ 32 ∈ r := by simp [Ne.symm hc]
      have e1 : (c :: r).takeWhile (fun c => c != 32) = c :: r.takeWhile (fun c => c != 32) := by simp [h1]
      have e2 : (c :: r).dropWhile (fun c => c != 32) = r.dropWhile (fun c => c != 32) := by simp [h1]
      rw [e1, e2]
      by_cases hr : 32 ∈ r
      · rw [if_pos hr] at ih
        rw [if_pos (h2.2 hr), ih]
      · rw [if_neg hr] at ih
        rw [if_neg (fun h => hr (h2.1 h)), ih]
theorem pieces_join (l : List UInt8) : Lib.join (pieces l) [32] = l := by
  induction l with
  | nil => rfl
  | cons c r ih =>
    unfold pieces
    by_cases hc : c = 32
    · rw [if_pos hc]
      cases hp : pieces r with
      | nil => exact absurd hp (pieces_ne r)
      | cons p t =>
        rw [hp, Lib.join_cons] at ih
        rw [Lib.join_cons, ← ih, hc]
        simp [Lib.joinTail]
    · rw [if_neg hc]
      cases hp : pieces r with
      | nil => exact absurd hp (pieces_ne r)
      | cons p t =>
        rw [hp, Lib.join_cons] at ih
        show Lib.join ((c :: p) :: t) [32] = c :: r
        rw [Lib.join_cons, ← ih]
        rfl
theorem wordsL_join (l : List UInt8) : Lib.join (wordsL l) [32] = l := by
  unfold wordsL
  split
  · rename_i h
    rw [h]
    rfl
  · exact pieces_join l
theorem pieces_no (l : List UInt8) : ∀ w ∈ pieces l, 32 ∉ w := by
  induction l with
  | nil => simp [pieces]
  | cons c r ih =>
    unfold pieces
    by_cases hc : c = 32
    · rw [if_pos hc]
      intro w hw
      rcases List.mem_cons.1 hw with h | h
      · rw [h]; simp
      · exact ih w h
    · rw [if_neg hc]
      cases hp : pieces r with
      | nil => exact absurd hp (pieces_ne r)
      | cons p t =>
        rw [hp] at ih
        intro w hw
        rcases List.mem_cons.1 hw with h | h
        · rw [h]
          intro h32
          rcases List.mem_cons.1 h32 with e | e
          · exact hc e.symm
          · exact ih p (by simp) e
        · exact ih w (by simp [h])
theorem pieces_mem (l : List UInt8) : ∀ w ∈ pieces l, ∀ c ∈ w, c ∈ l := by
  induction l with
  | nil => simp [pieces]
  | cons c r ih =>
    unfold pieces
    by_cases hc : c = 32
    · rw [if_pos hc]
      intro w hw x hx
      rcases List.mem_cons.1 hw with h | h
      · rw [h] at hx; simp at hx
      · exact List.mem_cons_of_mem _ (ih w h x hx)
    · rw [if_neg hc]
      cases hp : pieces r with
      | nil => exact absurd hp (pieces_ne r)
      | cons p t =>
        rw [hp] at ih
        intro w hw x hx
        rcases List.mem_cons.1 hw with h | h
        · rw [h] at hx
          rcases List.mem_cons.1 hx with e | e
          · rw [e]; simp
          · exact List.mem_cons_of_mem _ (ih p (by simp) x e)
        · exact List.mem_cons_of_mem _ (ih w (by simp [h]) x hx)
theorem pieces_head {l : List UInt8} (h : (pieces l).head? = some []) : l = [] ∨ l.head? = some 32 := by
  cases l with
  | nil => exact .inl rfl
  | cons c r =>
    unfold pieces at h
    by_cases hc : c = 32
    · exact .inr (by rw [hc]; rfl)
    · rw [if_neg hc] at h
      split at h <;> simp at h
theorem last_cons {c : UInt8} {r : List UInt8} (h : r.getLast? = some 32) : (c :: r).getLast? = some 32 := by
  cases r with
  | nil => cases h
  | cons d q => rw [List.getLast?_cons_cons]; exact h
theorem two_cons {c : UInt8} {r : List UInt8} (h : [32, 32] <:+: r) : [32, 32] <:+: c :: r := by
  obtain ⟨u, v, huv⟩ := h
  exact ⟨c :: u, v, by rw [List.cons_append, List.cons_append, huv]⟩
theorem pieces_tail {l : List UInt8} (h : [] ∈ (pieces l).tail) : l.getLast? = some 32 ∨ [32, 32] <:+: l := by
  induction l with
  | nil => simp [pieces] at h
  | cons c r ih =>
    unfold pieces at h
    by_cases hc : c = 32
    · rw [if_pos hc, List.tail_cons] at h
      have hr : (pieces r).head? = some [] ∨ [] ∈ (pieces r).tail := by
        cases hp : pieces r with
        | nil => exact absurd hp (pieces_ne r)
        | cons p t =>
          rw [hp] at h
          rcases List.mem_cons.1 h with e | e
          · exact .inl (by rw [← e]; rfl)
          · exact .inr e
      rcases hr with e | e
      · rcases pieces_head e with e | e
        · left
          rw [e, hc]
          rfl
        · right
          cases r with
          | nil => cases e
          | cons d q =>
            have hd : d = 32 := by simpa using e
            rw [hd, hc]
            exact ⟨[], q, rfl⟩
      · rcases ih e with e | e
        · exact .inl (last_cons e)
        · exact .inr (two_cons e)
    · rw [if_neg hc] at h
      have ht : [] ∈ (pieces r).tail := by
        cases hp : pieces r with
        | nil => exact absurd hp (pieces_ne r)
        | cons p t => rw [hp] at h; exact h
      rcases ih ht with e | e
      · exact .inl (last_cons e)
      · exact .inr (two_cons e)
theorem pieces_empty {l : List UInt8} (hl : l ≠ []) (h : [] ∈ pieces l) : l.head? = some 32 ∨ l.getLast? = some 32 ∨ [32, 32] <:+: l := by
  cases hp : pieces l with
  | nil => exact absurd hp (pieces_ne l)
  | cons p t =>
    rw [hp] at h
    rcases List.mem_cons.1 h with e | e
    · rcases pieces_head (l := l) (by rw [hp, ← e]; rfl) with e | e
      · exact absurd e hl
      · exact .inl e
    · exact .inr (pieces_tail (by rw [hp]; exact e))
theorem words_bad {l : List UInt8} (h : (wordsL l).all okW = false) : l.head? = some 32 ∨ l.getLast? = some 32 ∨ [32, 32] <:+: l ∨ ∃ c ∈ l, c.toNat < 32 ∨ 126 < c.toNat := by
  have hl : l ≠ [] := fun e => by rw [e] at h; simp [wordsL] at h
  unfold wordsL at h
  rw [if_neg hl, List.all_eq_false] at h
  obtain ⟨w, hw, hb⟩ := h
  by_cases he : w = []
  · rw [he] at hw
    rcases pieces_empty hl hw with e | e | e
    · exact .inl e
    · exact .inr (.inl e)
    · exact .inr (.inr (.inl e))
  · right; right; right
    have hall : w.all prn = false := by
      cases hx : w.all prn with
      | false => rfl
      | true =>
        refine absurd ?_ hb
        unfold okW
        rw [hx]
        cases w with
        | nil => exact absurd rfl he
        | cons a b => rfl
    obtain ⟨c, hc, hn⟩ := List.all_eq_false.1 hall
    refine ⟨c, pieces_mem l w hw c hc, ?_⟩
    have h32 : c ≠ 32 := fun e => pieces_no l w hw (e ▸ hc)
    have : c.toNat ≠ 32 := fun e => h32 (UInt8.toNat_inj.1 e)
    unfold prn at hn
    simp only [Bool.and_eq_true, decide_eq_true_eq] at hn
    omega
theorem pieces_one {l : List UInt8} (h : 32 ∉ l) : pieces l = [l] := by
  rw [pieces_cut, if_neg h]
open Go

theorem ahead_none {c : UInt8} {l : List UInt8} (h : ¬ c ∈ l) : ahead c l = l := by
  show l.takeWhile (fun x => x != c) = l
  induction l with
  | nil => rfl
  | cons a r ih =>
    have ha : (a != c) = true := by
      have : a ≠ c := fun e => h (by rw [e]; simp)
      simpa using this
    rw [List.takeWhile_cons, if_pos ha, ih (fun e => h (by simp [e]))]
theorem pieces_split {a b : List UInt8} (h : 32 ∉ a) : pieces (a ++ 32 :: b) = a :: pieces b := by
  induction a with
  | nil => rw [List.nil_append, pieces_cons, if_pos rfl]
  | cons c r ih =>
    have hc : c ≠ 32 := fun e => h (by rw [e]; simp)
    have hr : 32 ∉ r := fun e => h (by simp [e])
    rw [List.cons_append, pieces_cons, if_neg hc, ih hr]
theorem all_prn_no {a : List UInt8} (h : a.all prn = true) : 32 ∉ a := fun e => by
  have := List.all_eq_true.1 h 32 e
  revert this
  decide
structure Pass (l : List UInt8) (P : List (List UInt8)) (k i : Nat) : Prop where
  le : k ≤ i
  len : i ≤ l.length
  cut : pieces l = P ++ pieces (l.drop k)
  ok : P.all okW = true
  run : ((l.drop k).take (i - k)).all prn = true
theorem Pass.start (l : List UInt8) : Pass l [] 0 0 := ⟨Nat.le_refl _, Nat.zero_le _, by simp, rfl, by simp⟩
theorem drop_take_succ {l : List UInt8} {k i : Nat} {c : UInt8} (hk : k ≤ i) (hc : l[i]? = some c) : (l.drop k).take (i + 1 - k) = (l.drop k).take (i - k) ++ [c] := by
  rw [show i + 1 - k = (i - k) + 1 by omega, List.take_add_one, List.getElem?_drop, show k + (i - k) = i by omega, hc]
  rfl
theorem Pass.step {l : List UInt8} {P : List (List UInt8)} {k i : Nat} {c : UInt8} (h : Pass l P k i) (hc : l[i]? = some c) (hp : prn c = true) : Pass l P k (i + 1) := by
  have hi : i < l.length := (List.getElem?_eq_some_iff.1 hc).1
  refine ⟨by have := h.le; omega, hi, h.cut, h.ok, ?_⟩
  rw [drop_take_succ h.le hc, List.all_append, h.run]
  simp [hp]
theorem drop_at_space {l : List UInt8} {k i : Nat} (hk : k ≤ i) (hc : l[i]? = some 32) : l.drop k = (l.drop k).take (i - k) ++ 32 :: l.drop (i + 1) := by
  have hi : i < l.length := (List.getElem?_eq_some_iff.1 hc).1
  have h1 := List.take_append_drop (i - k) (l.drop k)
  have h2 : (l.drop k).drop (i - k) = 32 :: l.drop (i + 1) := by
    rw [List.drop_drop, show k + (i - k) = i by omega, List.drop_eq_getElem_cons hi]
    congr 1
    rw [List.getElem?_eq_getElem hi] at hc
    exact Option.some.inj hc
  rw [h2] at h1
  exact h1.symm
theorem Pass.word {l : List UInt8} {P : List (List UInt8)} {k i : Nat} (h : Pass l P k i) (hc : l[i]? = some 32) (hk : k < i) : Pass l (P ++ [(l.drop k).take (i - k)]) (i + 1) (i + 1) := by
  have hi : i < l.length := (List.getElem?_eq_some_iff.1 hc).1
  refine ⟨Nat.le_refl _, hi, ?_, ?_, by simp⟩
  · rw [h.cut, drop_at_space h.le hc, pieces_split (all_prn_no h.run), List.append_assoc, List.take_left' (by rw [List.length_take, List.length_drop]; omega)]
    rfl
  · rw [List.all_append, h.ok]
    unfold okW
    simp only [List.all_cons, List.all_nil, Bool.and_true, Bool.true_and]
    rw [h.run, Bool.and_true]
    simp only [Bool.not_eq_true', List.isEmpty_eq_false_iff]
    intro e
    have := congrArg List.length e
    rw [List.length_take, List.length_drop] at this
    simp at this
    omega
theorem Pass.last {l : List UInt8} {P : List (List UInt8)} {k : Nat} (h : Pass l P k l.length) (hk : k < l.length) : wordsL l = P ++ [(l.drop k).take (l.length - k)] ∧ (wordsL l).all okW = true := by
  have hl : l ≠ [] := fun e => by rw [e] at hk; cases hk
  have ht : (l.drop k).take (l.length - k) = l.drop k := List.take_of_length_le (by rw [List.length_drop]; exact Nat.le_refl _)
  have hr := h.run
  rw [ht] at hr ⊢
  have hw : wordsL l = P ++ [l.drop k] := by
    unfold wordsL
    rw [if_neg hl, h.cut, pieces_one (all_prn_no hr)]
  refine ⟨hw, ?_⟩
  rw [hw, List.all_append, h.ok]
  unfold okW
  simp only [List.all_cons, List.all_nil, Bool.and_true, Bool.true_and]
  rw [hr, Bool.and_true]
  simp only [Bool.not_eq_true', List.isEmpty_eq_false_iff]
  intro e
  have := congrArg List.length e
  rw [List.length_drop] at this
  simp at this
  omega
theorem pieces_len (l : List UInt8) : (pieces l).length ≤ l.length + 1 := by
  induction l with
  | nil => simp [pieces]
  | cons c r ih =>
    rw [pieces_cons]
    by_cases hc : c = 32
    · rw [if_pos hc, List.length_cons, List.length_cons]
      omega
    · rw [if_neg hc]
      cases hp : pieces r with
      | nil => simp
      | cons p t =>
        rw [hp] at ih
        simp only [List.length_cons] at ih ⊢
        omega
theorem words_len (l : List UInt8) : (wordsL l).length ≤ l.length + 1 := by
  unfold wordsL
  split
  · simp
  · exact pieces_len l
theorem Pass.count {l : List UInt8} {P : List (List UInt8)} {k i : Nat} (h : Pass l P k i) : P.length ≤ l.length + 1 := by
  have h1 := congrArg List.length h.cut
  have h2 := pieces_len l
  rw [List.length_append] at h1
  omega
theorem piece_len (l : List UInt8) : ∀ w ∈ pieces l, w.length ≤ l.length := by
  induction l with
  | nil => simp [pieces]
  | cons c r ih =>
    rw [pieces_cons]
    by_cases hc : c = 32
    · rw [if_pos hc]
      intro w hw
      rcases List.mem_cons.1 hw with h | h
      · rw [h]; simp
      · have := ih w h
        rw [List.length_cons]
        omega
    · rw [if_neg hc]
      cases hp : pieces r with
      | nil => exact absurd hp (pieces_ne r)
      | cons p t =>
        rw [hp] at ih
        intro w hw
        rcases List.mem_cons.1 hw with h | h
        · have := ih p (by simp)
          rw [h, List.length_cons, List.length_cons]
          omega
        · have := ih w (by simp [h])
          rw [List.length_cons]
          omega
theorem word_len {l : List UInt8} {k : Nat} (h : k < (wordsL l).length) : ((wordsL l).getD k []).length ≤ l.length := by
  have hm : (wordsL l).getD k [] ∈ wordsL l := by simp [h]
  unfold wordsL at hm
  split at hm
  · simp at hm
  · exact piece_len l _ (by rename_i h0; unfold wordsL; rw [if_neg h0]; exact hm)
theorem words_cut {l : List UInt8} (hl : l ≠ []) : (32 ∉ l ∧ wordsL l = [l]) ∨ (32 ∈ l ∧ behind 32 l = [] ∧ wordsL l = [ahead 32 l, []]) ∨ (32 ∈ l ∧ behind 32 l ≠ [] ∧ wordsL l = ahead 32 l :: wordsL (behind 32 l)) := by
  have h := pieces_cut (l := l)
  have e1 : l.takeWhile (fun c => c != 32) = ahead 32 l := rfl
  have e2 : (l.dropWhile (fun c => c != 32)).drop 1 = behind 32 l := rfl
  rw [e1, e2] at h
  unfold wordsL
  rw [if_neg hl, h]
  by_cases h32 : 32 ∈ l
  · rw [if_pos h32]
    by_cases hb : behind 32 l = []
    · exact .inr (.inl ⟨h32, hb, by rw [hb]; rfl⟩)
    · exact .inr (.inr ⟨h32, hb, by rw [if_neg hb]⟩)
  · rw [if_neg h32]
    exact .inl ⟨h32, rfl⟩
end Go.KI
namespace Go.KP
open Go Go.RowKit

structure QuietO (O : Nat → Prop) (B : Nat) (S : Nat → Prop) (W W2 : World) : Prop where
  os : W2.os = W.os
  tape : W2.tape = W.tape
  output : W2.output = W.output
  size : W.heap.size ≤ W2.heap.size
  block : ∀ b, ¬ O b → (b < B ∨ S b) → b < W.heap.size → W2.heap[b]? = W.heap[b]?
theorem Quiet.toO {B : Nat} {S : Nat → Prop} {W W2 : World} (h : Quiet B S W W2) (O : Nat → Prop) : QuietO O B S W W2 :=
  ⟨h.os, h.tape, h.output, h.size, fun b _ hb hl => h.block b hb hl⟩
theorem QuietO.refl (O : Nat → Prop) (B : Nat) (S : Nat → Prop) (W : World) : QuietO O B S W W := ⟨rfl, rfl, rfl, Nat.le_refl _, fun _ _ _ _ => rfl⟩
theorem QuietO.trans {O : Nat → Prop} {B : Nat} {S : Nat → Prop} {a b c : World} (h : QuietO O B S a b) (k : QuietO O B S b c) : QuietO O B S a c :=
  ⟨k.os.trans h.os, k.tape.trans h.tape, k.output.trans h.output, Nat.le_trans h.size k.size, fun i hn hi hl => (k.block i hn hi (Nat.lt_of_lt_of_le hl h.size)).trans (h.block i hn hi hl)⟩
theorem QuietO.of_below {O : Nat → Prop} {B n : Nat} {S : Nat → Prop} {a w w2 : World} (h : QuietO O B S a w) (hb : Below n w w2) (hn : w.heap.size ≤ n) : QuietO O B S a w2 :=
  h.trans ⟨hb.os, hb.tape, hb.output, hb.size, fun b _ _ hl => hb.block b (by omega)⟩
theorem QuietO.set {O : Nat → Prop} {B : Nat} {S : Nat → Prop} {a w : World} (h : QuietO O B S a w) {p : Addr} (hp : O p.block) (u : Value) : QuietO O B S a (w.setCell p u) :=
  h.trans ⟨rfl, rfl, rfl, by simp [World.setCell], fun b hn _ _ => Below.heap_setCell _ _ _ _ (fun e => hn (by rw [e]; exact hp))⟩
def StaysO (O : Nat → Prop) (B : Nat) (J : (Nat → Prop) → World → Prop) : Prop := ∀ S W W2, J S W → QuietO O B S W W2 → J S W2
variable {P : Program}

def IterOwn (P : Program) (gf : Nat) (lb : Array Value) (encs : Nat → Array Value) (N : Nat) (Ke : Nat → World → Prop) (O : Nat → Prop) (w : World) : Prop :=
  ∀ (l : Nat) (J : Nat → (Nat → Prop) → World → Prop) (Jx : (Nat → Prop) → World → Prop) (W : World),
    (∀ b, O b → b < W.heap.size ∧ W.heap[b]? = w.heap[b]?) → (∀ k, StaysO O W.heap.size (J k)) → StaysO O W.heap.size Jx → (∀ k S W1, J k S W1 → ∀ b, S b → b < W1.heap.size) → (∀ k S W1, k ≤ N → J k S W1 → Ke k W1) →
    (∀ k S W1, k < N → J k S W1 → W.heap.size ≤ W1.heap.size →
      YieldAt Fence.wide 0 P l (encs k) W1 fun e W2 => ∃ S', Upd W.heap.size S S' W1 W2 ∧ (∀ b, O b → W2.heap[b]? = W1.heap[b]?) ∧
        ((e = .returned (.bool true) ∧ J (k + 1) S' W2) ∨ (e = .returned (.bool false) ∧ Jx S' W2))) →
    J 0 (fun _ => False) W →
    CallsIn Fence.wide 0 P gf (#[.func (.yield l) #[] #[]] ++ lb) W fun e W2 => (∃ v, e = .returned v) ∧ ∃ S, J N S W2 ∨ Jx S W2

def bodyEndO (B : Nat) (O : Nat → Prop) (I : (Nat → Prop) → World → Prop) (Ix : Code → (Nat → Prop) → World → Prop) (S : Nat → Prop) (W : World) : Exit → Act → World → Prop
  | .normal, _, W2 => ∃ S', Upd B S S' W W2 ∧ (∀ b, O b → W2.heap[b]? = W.heap[b]?) ∧ I S' W2
  | .ret, _, W2 => ∃ S', Upd B S S' W W2 ∧ (∀ b, O b → W2.heap[b]? = W.heap[b]?) ∧ Ix .ret S' W2
  | .exit id, _, W2 => ∃ S', Upd B S S' W W2 ∧ (∀ b, O b → W2.heap[b]? = W.heap[b]?) ∧ Ix (.exit id) S' W2
  | .goto t, _, W2 => ∃ S', Upd B S S' W W2 ∧ (∀ b, O b → W2.heap[b]? = W.heap[b]?) ∧ Ix (.goto t) S' W2
  | .panic _, _, _ => False
  | .outgrown, _, _ => False

theorem wp_iter_own {g : Operand} {ps : Array Tmp} {assign body : Code} {Q : Exit → Act → World → Prop} {a : Act} {w : World}
    {gf : Nat} {lb : Array Value} (hg : a.eval g = .func (.func gf) #[] lb) (eg : ∀ args w, (callFunc gf args).run P w = .ok (.enter gf args) w)
    {encs : Nat → Array Value} {N : Nat} {Ke : Nat → World → Prop} {O : Nat → Prop} {w0 : World} (hseq : IterOwn P gf lb encs N Ke O w0) (hO : ∀ b, O b → b < w.heap.size ∧ w.heap[b]? = w0.heap[b]?) (hps : ∀ k, (encs k).size = ps.size)
    (I : Nat → (Nat → Prop) → World → Prop) (Ix : Code → (Nat → Prop) → World → Prop) (hI : ∀ k, StaysO O w.heap.size (I k)) (hIx : ∀ c, StaysO O w.heap.size (Ix c)) (h0 : I 0 (fun _ => False) w) (hke : ∀ k S W, k ≤ N → I k S W → Ke k W)
    (Ax : Nat → (Nat → Prop) → Act → World → Prop)
    (hAx : ∀ k S a1 W l r r2, Ax k S a1 W → W.heap[l]? = some (.loop r) → Ax k S a1 (W.putObj l (.loop r2)))
    (hassign : ∀ (l k : Nat) (S : Nat → Prop) (W : World) (K : Act → World → Prop), w.heap.size ≤ W.heap.size → (∀ b, S b → b < W.heap.size) → (∀ a1 W1, Quiet w.heap.size S W W1 → Upd w.heap.size S S W W1 → Ax k S a1 W1 → K a1 W1) →
      assign.wpIn (Fence.wide.inRound l) 0 P (Exit.then K (fun _ _ _ => False)) { tmps := (ps.zip (encs k)).foldl (fun t (p, v) => t.setIfInBounds p v) a.tmps, defers := [] } W)
    (hS : ∀ k S W, I k S W → ∀ b, S b → b < W.heap.size)
    (hbody : ∀ (l k : Nat) (S : Nat → Prop) (a1 : Act) (W : World), k < N → I k S W → Ax k S a1 W → w.heap.size ≤ W.heap.size →
      body.wpIn (Fence.wide.inRound l) 0 P (bodyEndO w.heap.size O (I (k + 1)) Ix S W) a1 W)
    (hdone : ∀ (D : Nat) (S : Nat → Prop) (W : World), w.heap.size ≤ D → I N S W → W.heap[D]? = some (.deferred (some [])) → Q .normal { a with defers := { target := .collected D, args := #[] } :: a.defers } W)
    (hstop : ∀ (D : Nat) (c : Code) (S : Nat → Prop) (W : World), w.heap.size ≤ D → Ix c S W → W.heap[D]? = some (.deferred (some [])) → c.wpIn Fence.wide 0 P Q { a with defers := { target := .collected D, args := #[] } :: a.defers } W) :
    (Code.rangeFunc g ps assign body).wpIn Fence.wide 0 P Q a w := by
  refine wpIn_rangeFunc ?_
  intro fn _
  obtain ⟨rec, hrec⟩ : ∃ rec : LoopState → Option Code → Loop, rec = fun st pe => { state := st, pending := pe, fn, tmps := a.tmps, params := ps, assign, body, defers := w.heap.size } := ⟨_, rfl⟩
  obtain ⟨W1, hW1⟩ : ∃ W1, (w.alloc (.deferred (some []))).alloc (.loop (rec .ready none)) = W1 := ⟨_, rfl⟩
  have hL1 : W1.heap[w.heap.size + 1]? = some (.loop (rec .ready none)) := by
    rw [← hW1]; have h := World.alloc_heap_new (w.alloc (.deferred (some []))) (.loop (rec .ready none)); rwa [World.size_alloc] at h
  have hK1 : W1.heap[w.heap.size]? = some (.deferred (some [])) := by
    rw [← hW1]; exact (Below.heap_alloc _ _ _ (by simp)).trans (World.alloc_heap_new w _)
  have hq1 : Quiet w.heap.size (fun _ => False) w W1 := by rw [← hW1]; exact ((Quiet.refl _ _ w).alloc _).alloc _
  have hs1 : W1.heap.size = w.heap.size + 2 := by rw [← hW1]; simp
  have hn0 : ¬ O w.heap.size := fun h => by have := (hO _ h).1; omega
  have hn1 : ¬ O (w.heap.size + 1) := fun h => by have := (hO _ h).1; omega
  have hO1 : ∀ b, O b → b < W1.heap.size ∧ W1.heap[b]? = w0.heap[b]? := fun b hb => by
    obtain ⟨h1, h2⟩ := hO b hb
    exact ⟨by omega, (hq1.block b (.inl h1) h1).trans h2⟩
  have inner : ∀ (i : Nat) (S S' : Nat → Prop) (W W2 : World), w.heap.size ≤ i → i < w.heap.size + 2 → i < W.heap.size → ¬ S i → Upd w.heap.size S S' W W2 → W2.heap[i]? = W.heap[i]? ∧ ¬ S' i := fun i S S' W W2 h1 _ h3 h4 hu => hu.block i h1 h3 h4
  refine ⟨w.heap.size + 1, [{ target := .collected w.heap.size, args := #[] }], W1, { target := .fn (.func gf) lb, args := #[.func (.yield (w.heap.size + 1)) #[] #[]] }, W1, gf,
    #[.func (.yield (w.heap.size + 1)) #[] #[]] ++ lb, W1, ?_, ?_, ?_, ?_, fun h => by simp [Fence.wide] at h, ?_⟩
  · rw [← hW1, hrec]; exact run_enterLoop_outer _ _ _ _ _
  · simp only [resolve, hg]
    simp [go_sem]
  · exact fun _ _ => trivial
  · simp [invoke, go_sem, eg]
  · refine (hseq (w.heap.size + 1)
      (fun k S W => I k S W ∧ ¬ S w.heap.size ∧ ¬ S (w.heap.size + 1) ∧ W1.heap.size ≤ W.heap.size ∧ W.heap[w.heap.size + 1]? = some (.loop (rec .ready none)) ∧ W.heap[w.heap.size]? = some (.deferred (some [])))
      (fun S W => ∃ c, Ix c S W ∧ ¬ S w.heap.size ∧ ¬ S (w.heap.size + 1) ∧ W1.heap.size ≤ W.heap.size ∧ W.heap[w.heap.size + 1]? = some (.loop (rec .done (some c))) ∧ W.heap[w.heap.size]? = some (.deferred (some [])))
      W1 hO1 ?_ ?_ (fun k S W1 h => hS k S W1 h.1) (fun k S W1 hk h => hke k S W1 hk h.1) ?_ ⟨hI 0 _ _ _ h0 (hq1.toO O), fun h => h, fun h => h, Nat.le_refl _, hL1, hK1⟩).mono ?_
    · rintro k S W W2 ⟨hi, n1, n2, hsz, hl, hk⟩ hq
      have hw : w.heap.size + 1 < W.heap.size := (Array.getElem?_eq_some_iff.1 hl).1
      exact ⟨hI k _ _ _ hi ⟨hq.os, hq.tape, hq.output, hq.size, fun b hn hb hlt => hq.block b hn (hb.imp (fun h => by omega) id) hlt⟩, n1, n2, Nat.le_trans hsz hq.size,
        (hq.block _ hn1 (.inl (by omega)) hw).trans hl, (hq.block _ hn0 (.inl (by omega)) (by omega)).trans hk⟩
    · rintro S W W2 ⟨c, hi, n1, n2, hsz, hl, hk⟩ hq
      have hw : w.heap.size + 1 < W.heap.size := (Array.getElem?_eq_some_iff.1 hl).1
      exact ⟨c, hIx c _ _ _ hi ⟨hq.os, hq.tape, hq.output, hq.size, fun b hn hb hlt => hq.block b hn (hb.imp (fun h => by omega) id) hlt⟩, n1, n2, Nat.le_trans hsz hq.size,
        (hq.block _ hn1 (.inl (by omega)) hw).trans hl, (hq.block _ hn0 (.inl (by omega)) (by omega)).trans hk⟩
    · rintro k S W hkN ⟨hi, n1, n2, hsz, hl, hk⟩ _
      have hlt : w.heap.size + 1 < W.heap.size := (Array.getElem?_eq_some_iff.1 hl).1
      have hy := run_yield (P := P) (args := encs k) hl (by rw [hrec]; exact hps k)
      rw [hrec] at hy
      refine ⟨fn, _, assign, body, hy, roundIn_of_wpIn trivial (hassign _ k S W _ (by omega) (hS k S W hi) ?_)⟩
      intro a1 Wa hqa hua hax
      have hla := (inner (w.heap.size + 1) _ _ _ _ (by omega) (by omega) hlt n2 hua).1.trans hl
      have hka := (inner w.heap.size _ _ _ _ (by omega) (by omega) (by omega) n1 hua).1.trans hk
      have hsa := hua.size
      refine ⟨_, run_beginRound hla (by rw [hrec]), ?_⟩
      have hlt2 : w.heap.size + 1 < Wa.heap.size := by omega
      have hia := hI k _ _ _ hi (hqa.toO O)
      obtain ⟨W2, hW2⟩ : ∃ W2, Wa.putObj (w.heap.size + 1) (.loop { rec .ready none with state := .busy }) = W2 := ⟨_, rfl⟩
      have hq2 : Quiet w.heap.size S Wa W2 := by rw [← hW2]; exact putObj_quiet _ _ _ (by omega) n2
      have hax2 : Ax k S a1 W2 := by rw [← hW2]; exact hAx _ _ _ _ _ _ _ hax hla
      have hl2 : W2.heap[w.heap.size + 1]? = some (.loop { rec .ready none with state := .busy }) := by rw [← hW2]; exact World.putObj_heap_same hlt2
      have hk2 : W2.heap[w.heap.size]? = some (.deferred (some [])) := by rw [← hW2]; exact (World.putObj_heap_other (by omega)).trans hka
      have hs2 : W2.heap.size = Wa.heap.size := by rw [← hW2]; simp
      rw [hW2]
      refine wpIn_mono (hbody _ k S a1 W2 hkN (hI k _ _ _ hia (hq2.toO O)) hax2 (by omega)) ?_
      have fin : ∀ (jump : Option Code) (S' : Nat → Prop) (W3 : World), Upd w.heap.size S S' W2 W3 → (∀ b, O b → W3.heap[b]? = W2.heap[b]?) →
          ∃ W4, (Instr.endRound (w.heap.size + 1) jump).run P W3 = .ok (.bool jump.isNone) W4 ∧ Upd W1.heap.size S S' W W4 ∧ (∀ b, O b → W4.heap[b]? = W.heap[b]?) ∧ Quiet w.heap.size S' W3 W4 ∧
            ¬ S' w.heap.size ∧ ¬ S' (w.heap.size + 1) ∧ W1.heap.size ≤ W4.heap.size ∧
            W4.heap[w.heap.size + 1]? = some (.loop (rec (if jump.isNone then .ready else .done) jump)) ∧ W4.heap[w.heap.size]? = some (.deferred (some [])) := fun jump S' W3 hu ho3 => by
        have hl3 := (inner (w.heap.size + 1) _ _ _ _ (by omega) (by omega) (by omega) n2 hu)
        have hk3 := (inner w.heap.size _ _ _ _ (by omega) (by omega) (by omega) n1 hu)
        have hl4 := hl3.1.trans hl2
        have hs3 := hu.size
        have hr := run_endRound (P := P) jump hl4
        have e : ({ rec .ready none with state := if jump.isNone then LoopState.ready else LoopState.done, pending := jump } : Loop) = rec (if jump.isNone then .ready else .done) jump := by rw [hrec]
        simp only at hr
        rw [e] at hr
        have hq4 : Quiet w.heap.size S' W3 (W3.putObj (w.heap.size + 1) (.loop (rec (if jump.isNone then .ready else .done) jump))) := putObj_quiet _ _ _ (by omega) hl3.2
        refine ⟨_, hr, ⟨by simp; omega, fun b hB hlt' hs' => ?_⟩, fun b hb => ?_, hq4, hk3.2, hl3.2, by simp; omega, World.putObj_heap_same (by omega), (World.putObj_heap_other (by omega)).trans (hk3.1.trans hk2)⟩
        · obtain ⟨g1, g2⟩ := hua.block b (by omega) hlt' hs'
          obtain ⟨g3, g4⟩ := hu.block b (by omega) (by omega) g2
          refine ⟨(World.putObj_heap_other (by omega)).trans (g3.trans ?_), g4⟩
          rw [← hW2, World.putObj_heap_other (by omega)]
          exact g1
        · obtain ⟨h1, _⟩ := hO b hb
          refine (hq4.block b (.inl h1) (by omega)).trans ((ho3 b hb).trans ?_)
          exact (hq2.block b (.inl h1) (by omega)).trans (hqa.block b (.inl h1) (by omega))
      rintro e a3 W3 hp
      cases e with
      | normal =>
        obtain ⟨S', hu, ho3, hi3⟩ := hp
        obtain ⟨W4, hr, hu4, ho4, hq4, m1, m2, m3, hl4, hk4⟩ := fin none S' W3 hu ho3
        exact ⟨_, _, hr, S', hu4, ho4, .inl ⟨rfl, hI _ _ _ _ hi3 (hq4.toO O), m1, m2, m3, hl4, hk4⟩⟩
      | ret =>
        obtain ⟨S', hu, ho3, hi3⟩ := hp
        obtain ⟨W4, hr, hu4, ho4, hq4, m1, m2, m3, hl4, hk4⟩ := fin (some .ret) S' W3 hu ho3
        exact ⟨_, _, hr, S', hu4, ho4, .inr ⟨rfl, .ret, hIx _ _ _ _ hi3 (hq4.toO O), m1, m2, m3, hl4, hk4⟩⟩
      | exit id =>
        obtain ⟨S', hu, ho3, hi3⟩ := hp
        obtain ⟨W4, hr, hu4, ho4, hq4, m1, m2, m3, hl4, hk4⟩ := fin (some (.exit id)) S' W3 hu ho3
        exact ⟨_, _, hr, S', hu4, ho4, .inr ⟨rfl, .exit id, hIx _ _ _ _ hi3 (hq4.toO O), m1, m2, m3, hl4, hk4⟩⟩
      | goto t =>
        obtain ⟨S', hu, ho3, hi3⟩ := hp
        obtain ⟨W4, hr, hu4, ho4, hq4, m1, m2, m3, hl4, hk4⟩ := fin (some (.goto t)) S' W3 hu ho3
        exact ⟨_, _, hr, S', hu4, ho4, .inr ⟨rfl, .goto t, hIx _ _ _ _ hi3 (hq4.toO O), m1, m2, m3, hl4, hk4⟩⟩
      | panic ch => exact hp.elim
      | outgrown => exact hp.elim
    · rintro e W2 ⟨⟨v, rfl⟩, S, (⟨hi, n1, n2, hsz, hl, hk⟩ | ⟨c, hi, n1, n2, hsz, hl, hk⟩)⟩
      · refine ⟨none, _, by have h := run_endLoop (P := P) hl (by rw [hrec]; simp); rw [hrec] at h; exact h, ?_⟩
        exact hdone _ S _ (Nat.le_refl _) (hI _ _ _ _ hi ((putObj_quiet _ _ _ (by omega) n2).toO O)) ((World.putObj_heap_other (by omega)).trans hk)
      · refine ⟨some c, _, by have h := run_endLoop (P := P) hl (by rw [hrec]; simp); rw [hrec] at h; exact h, ?_⟩
        exact hstop _ c S _ (Nat.le_refl _) (hIx _ _ _ _ hi ((putObj_quiet _ _ _ (by omega) n2).toO O)) ((World.putObj_heap_other (by omega)).trans hk)
end Go.KP
namespace Go.Proofs.YtfcjaljaomknjaaGreatDoor
open Go.RowKit Go.KP Go.KI Go.Shelf
attribute [local go_sem] Oper.semAt_some

def wcells (ws : List (List UInt8)) : List Value := ws.map fun w => .string (strB w)
theorem wcells_snoc (ws : List (List UInt8)) (v : List UInt8) : wcells (ws ++ [v]) = wcells ws ++ [.string (strB v)] := by simp [wcells]
theorem wcells_at {ws : List (List UInt8)} {k : Nat} (h : k < ws.length) : (wcells ws)[k]? = some (.string (strB (ws.getD k []))) := by
  unfold wcells
  rw [List.getElem?_map, List.getElem?_eq_getElem h]
  simp [h]
def wordsE (l : List UInt8) : Int := if 65536 < l.length then 4 else if (wordsL l).all okW = true then 0 else 3
def WordsAt (w : World) (l : List UInt8) (e : Ending) (w2 : World) : Prop :=
  ∃ v, e = .returned (.tuple #[v, .int .i64 (wordsE l)]) ∧ (if wordsE l = 0 then (∃ base t, w2.ownsRow base t 1 v (wordsL l).length (wcells (wordsL l))) else v = .slice none 0 0) ∧ Below w.heap.size w w2
theorem words_fail3 {w w2 : World} {l : List UInt8} (h : wordsE l = 3) (hb : Below w.heap.size w w2) : WordsAt w l (.returned (.tuple #[.slice none 0 0, .int .i64 3])) w2 :=
  ⟨.slice none 0 0, by rw [h], by rw [if_neg (by rw [h]; decide)], hb⟩
theorem words_fail4 {w w2 : World} {l : List UInt8} (h : wordsE l = 4) (hb : Below w.heap.size w w2) : WordsAt w l (.returned (.tuple #[.slice none 0 0, .int .i64 4])) w2 :=
  ⟨.slice none 0 0, by rw [h], by rw [if_neg (by rw [h]; decide)], hb⟩
theorem words_ret {w w2 : World} {l : List UInt8} {v : Value} {base : Nat} {e : TypeId} (h : wordsE l = 0) (ho : w2.ownsRow base e 1 v (wordsL l).length (wcells (wordsL l))) (hb : Below w.heap.size w w2) : WordsAt w l (.returned (.tuple #[v, .int .i64 0])) w2 :=
  ⟨v, by rw [h], by rw [if_pos h]; exact ⟨_, _, ho⟩, hb⟩
theorem wordsE_long {l : List UInt8} (h : 65536 < l.length) : wordsE l = 4 := if_pos h
theorem wordsE_bad {l : List UInt8} (h : ¬ 65536 < l.length) (h2 : (wordsL l).all okW = false) : wordsE l = 3 := by unfold wordsE; rw [if_neg h, if_neg (by rw [h2]; simp)]
theorem wordsE_ok {l : List UInt8} (h : ¬ 65536 < l.length) (h2 : (wordsL l).all okW = true) : wordsE l = 0 := by unfold wordsE; rw [if_neg h, if_pos h2]
theorem info9 : (Tryz.prog.info? 9).map (fun i => (i.zero, i.size, i.bytes)) = some (some (.string ⟨#[]⟩), 1, 16) := by kernel_rfl
theorem drop_head {α : Type} {L : List α} {k : Nat} {x : α} {r : List α} (d : α) (h : L.drop k = x :: r) : k < L.length ∧ L.getD k d = x ∧ L.drop (k + 1) = r := by
  have hl : k < L.length := by
    rcases Nat.lt_or_ge k L.length with h1 | h1
    · exact h1
    · rw [List.drop_eq_nil_of_le h1] at h
      cases h
  rw [List.drop_eq_getElem_cons hl] at h
  injection h with h1 h2
  exact ⟨hl, by simp [h1, hl], h2⟩
theorem drop_none {α : Type} {L : List α} {k : Nat} (hk : k ≤ L.length) (h : L.drop k = []) : k = L.length := by
  have := congrArg List.length h
  rw [List.length_drop] at this
  simp at this
  omega
open Go.RowKit Go.KP Go.KI Go.Shelf
attribute [local go_sem] Oper.semAt_some

abbrev boxW (s : ByteArray) : Obj := .cells #[.string s] 9
theorem mwords_any (s : ByteArray) (w : World) :
    Calls Tryz.prog 61 #[.string s] w (fun e w' => e = .returned (.func (.func 113) #[] #[.pointer (some ⟨w.heap.size, 0, none⟩)]) ∧ w' = w.alloc (boxW s)) := by
  go_enter Tryz.func61, Tryz.ntmps61
  go_wp2_with fail
  go_ret
  exact ⟨rfl, rfl⟩
def boxLen (bx : Nat) (W : World) : Nat := match W.heap[bx]? with | some (.cells cs _ _) => (match cs[0]? with | some (Value.string s) => s.size | _ => 0) | _ => 0
theorem boxLen_of {bx : Nat} {W : World} {r : List UInt8} (h : W.heap[bx]? = some (boxW (strB r))) : boxLen bx W = r.length := by
  unfold boxLen
  rw [h]
  simp [strB_size]
theorem boxW_set {bx : Nat} {W : World} {s : ByteArray} (h : W.heap[bx]? = some (boxW s)) (t : ByteArray) : (W.setCell ⟨bx, 0, none⟩ (.string t)).heap[bx]? = some (boxW t) := by
  simp only [World.setCell, Array.getElem?_modify, h, Option.map_some, if_true]
  rfl
theorem strB_nil (r : List UInt8) : ((strB r).toList == []) = decide (r = []) := by
  rw [ByteArray.toList_eq, strB_list]
  by_cases h : r = []
  · rw [h]; rfl
  · rw [decide_eq_false h]
    exact beq_false_of_ne h
theorem behind_less {c : UInt8} {l : List UInt8} (h : c ∈ l) : (KI.behind c l).length < l.length := by
  have := congrArg List.length (split_eq h)
  rw [List.length_append, List.length_cons] at this
  omega
def WSt (l : List UInt8) (bx : Nat) (J : Nat → (Nat → Prop) → World → Prop) (n0 : Nat) (k : Nat) (r : List UInt8) (S : Nat → Prop) (wr : World) : Prop :=
  k ≤ (wordsL l).length ∧ (wordsL l).drop k = wordsL r ∧ r.length ≤ l.length ∧ J k S wr ∧ bx < wr.heap.size ∧ wr.heap[bx]? = some (boxW (strB r)) ∧ n0 ≤ wr.heap.size
theorem wordsSeq_any (l : List UInt8) (hl : l.length ≤ 65536) (bx : Nat) (B : Nat) (w : World) (hb : w.heap[bx]? = some (boxW (strB l))) :
    IterOwn Tryz.prog 113 #[.pointer (some ⟨bx, 0, none⟩)] (fun k => #[.string (strB ((wordsL l).getD k []))]) (wordsL l).length (fun _ W => PQ B W) (fun b => b = bx) w := by
  intro lp J Jx W hown hJ hJx hJS hKe hY h0
  refine callsIn_of_wp Tryz.func113 rfl trivial ?_ rfl
  simp only [Tryz.ntmps113, List.size_toArray, List.length_cons, List.length_nil, Nat.reduceAdd, Nat.reduceSub, Array.replicate_succ, Array.replicate_zero, List.push_toArray, List.append_toArray, List.nil_append, List.cons_append]
  have HBX := hide (show bx < W.heap.size ∧ W.heap[bx]? = some (boxW (strB l)) from ⟨(hown bx rfl).1, (hown bx rfl).2.trans hb⟩)
  have HJ := hide hJ; have HJx := hide hJx; have HJS := hide hJS; have HY := hide hY; have H0 := hide h0; have HK := hide hKe
  clear hJ hJx hJS hY h0 hKe hb hown
  gi_wp2
  gi_loopw [3, 4, 5] (fun _ _ _ wr => ∃ (k : Nat) (r : List UInt8) (S : Nat → Prop), Hid (WSt l bx J W.heap.size k r S wr)) (fun _ _ _ wr => boxLen bx wr)
  case atStart => exact ⟨0, l, _, Nat.zero_le _, rfl, Nat.le_refl _, H0.out, HBX.out.1, HBX.out.2, Nat.le_refl _⟩
  case round =>
    obtain ⟨k, r, S, hin⟩ := hrel
    have IN := hide hin.out
    clear hin
    obtain ⟨i1, i2, i3, i4, i5, i6, i7⟩ := IN.out
    have c0 := cell_blk i6 0
    have l0 := i5
    by_cases hr : r = []
    · have he : ((strB r).toList == []) = true := by rw [strB_nil, decide_eq_true hr]
      have he2 : ((strB r).toList != []) = false := by simp only [bne, he]; rfl
      have HE := hide (show k = (wordsL l).length from drop_none i1 (by rw [i2, hr]; rfl))
      clear i1 i2 i3 i4 i5 i6 i7 hr
      gi_wp2
      refine bodyPost_end (results_none rfl _ _ _) rfl ?_
      exact ⟨⟨_, rfl⟩, S, .inl (by rw [← HE.out]; exact IN.out.2.2.2.1)⟩
    have he : ((strB r).toList == []) = false := by rw [strB_nil, decide_eq_false hr]
    have he2 : ((strB r).toList != []) = true := by simp only [bne, he]; rfl
    have HP := HK.out k S wr i1 i4
    have HC := hide (scut_any 32 (strB r) (by rw [strB_size]; omega) B wr HP)
    rw [strB_list] at HC
    have hcut := words_cut hr
    have hBN := hide (boxLen_of i6)
    have hbw : ∀ w2, Below wr.heap.size wr w2 → J k S w2 ∧ bx < w2.heap.size ∧ w2.heap[bx]? = some (boxW (strB r)) ∧ W.heap.size ≤ w2.heap.size := fun w2 hb2 =>
      ⟨HJ.out k _ _ _ i4 ((QuietO.refl _ _ _ wr).of_below hb2 (Nat.le_refl _)), Nat.lt_of_lt_of_le i5 hb2.size, below_blk hb2 i6 i5, Nat.le_trans i7 hb2.size⟩
    have HBW := hide hbw
    have I1 := hide i1; have I2 := hide i2; have I3 := hide i3
    clear i1 i2 i3 i4 i5 i6 i7 HP hbw IN
    obtain ⟨X, hX⟩ : ∃ X, X = KI.ahead 32 r := ⟨_, rfl⟩
    obtain ⟨Y, hY⟩ : ∃ X, X = KI.behind 32 r := ⟨_, rfl⟩
    rw [← hX, ← hY] at HC
    rw [← hX, ← hY] at hcut
    rcases hcut with ⟨h32, hw⟩ | ⟨h32, hyn, hw⟩ | ⟨h32, hyn, hw⟩
    · have hXr : X = r := by rw [hX]; exact ahead_none h32
      rw [if_neg h32, decide_eq_false h32] at HC
      have HD := hide (drop_head [] (I2.out.trans hw))
      have HM := hide (show ([] : List UInt8).length < r.length by cases r with | nil => exact absurd rfl hr | cons a b => simp)
      clear hw h32 hX hY hr
      gi_wp2
      refine ⟨trivial, rfl, (callsIn_wide.2 HC.out).mono ?_⟩
      rintro e w1 ⟨rfl, hb1⟩
      obtain ⟨j1, j2, j3, j4⟩ := HBW.out w1 hb1
      have hyy := HY.out k S _ HD.out.1 j1 j4
      rw [HD.out.2.1, ← hXr] at hyy
      try dsimp only at hyy
      obtain ⟨fn, tmps, assign, body, hy, hR⟩ := hyy
      have HR := hide hR
      have J2 := hide j2; have J3 := hide j3; have J4 := hide j4
      clear hR j1 j2 j3 j4 hb1 HBW HC c0 l0 hXr
      gi_wp2
      refine ⟨rfl, HR.out.mono ?_⟩
      rintro e W5 ⟨S3, hu3, ho3, (⟨rfl, hJ3⟩ | ⟨rfl, hJx3⟩)⟩
      · have H5 := hide (show W5.heap[bx]? = some (boxW (strB r)) from (ho3 bx rfl).trans J3.out)
        have H6 := hide (Nat.le_trans J4.out hu3.size)
        have HJ3 := hide hJ3
        have c3 := cell_blk H5.out 0
        have f3 := froz_blk H5.out 0
        have l3 := lt_blk H5.out
        clear hu3 ho3 hJ3 hy HR
        gi_wp2
        go_roundw
        case rel =>
          refine ⟨k + 1, [], S3, HD.out.1, HD.out.2.2, Nat.zero_le _, HJ.out _ _ _ _ HJ3.out (QuietO.set (O := fun b => b = bx) (p := ⟨bx, 0, none⟩) (QuietO.refl _ _ _ W5) rfl _), ?_, boxW_set H5.out _, ?_⟩
          · simp [World.setCell]; omega
          · have := H6.out; simp [World.setCell]; omega
        case measure =>
          rw [hBN.out, boxLen_of (boxW_set H5.out _)]
          exact HM.out
      · clear hu3 ho3 hy HR
        gi_wp2
        refine bodyPost_ret (results_none rfl _ _ _) rfl ?_
        exact ⟨⟨_, rfl⟩, S3, .inr hJx3⟩
    · rw [if_pos h32, decide_eq_true h32, hyn] at HC
      obtain ⟨Z, hZ⟩ : ∃ Z, Z = strB ([] : List UInt8) := ⟨_, rfl⟩
      rw [← hZ] at HC
      have hz1 : (Z.toList == []) = true := by rw [hZ, strB_nil]; rfl
      have hz2 : Z.toList.isEmpty = true := by rw [hZ, ByteArray.toList_eq]; rfl
      clear hZ
      have HD := hide (drop_head [] (I2.out.trans hw))
      have HD2 := hide (drop_head [] HD.out.2.2)
      clear hw h32 hX hY hr hyn
      gi_wp2
      refine ⟨trivial, rfl, (callsIn_wide.2 HC.out).mono ?_⟩
      rintro e w1 ⟨rfl, hb1⟩
      obtain ⟨j1, j2, j3, j4⟩ := HBW.out w1 hb1
      have hyy := HY.out k S _ HD.out.1 j1 j4
      rw [HD.out.2.1] at hyy
      try dsimp only at hyy
      obtain ⟨fn, tmps, assign, body, hy, hR⟩ := hyy
      have HR := hide hR
      have J4 := hide j4
      clear hR j1 j2 j3 j4 hb1 HBW HC c0 l0
      gi_wp2
      refine ⟨rfl, HR.out.mono ?_⟩
      rintro e W5 ⟨S3, hu3, ho3, (⟨rfl, hJ3⟩ | ⟨rfl, hJx3⟩)⟩
      · have H6 := hide (Nat.le_trans J4.out hu3.size)
        have hyy := HY.out (k + 1) S3 _ HD2.out.1 hJ3 H6.out
        rw [HD2.out.2.1, show strB [] = (⟨#[]⟩ : ByteArray) from rfl] at hyy
        try dsimp only at hyy
        obtain ⟨fn2, tmps2, assign2, body2, hy2, hR2⟩ := hyy
        have HR2 := hide hR2
        clear hu3 ho3 hJ3 hy HR hR2
        gi_wp2
        refine ⟨rfl, HR2.out.mono ?_⟩
        have HE := hide (show k + 1 + 1 = (wordsL l).length from drop_none HD2.out.1 HD2.out.2.2)
        rintro e W6 ⟨S4, hu4, ho4, (⟨rfl, hJ4⟩ | ⟨rfl, hJx4⟩)⟩
        · rw [HE.out] at hJ4
          clear hu4 ho4 hy2 HR2
          gi_wp2
          refine bodyPost_ret (results_none rfl _ _ _) rfl ?_
          exact ⟨⟨_, rfl⟩, S4, .inl hJ4⟩
        · clear hu4 ho4 hy2 HR2
          gi_wp2
          refine bodyPost_ret (results_none rfl _ _ _) rfl ?_
          exact ⟨⟨_, rfl⟩, S4, .inr hJx4⟩
      · clear hu3 ho3 hy HR
        gi_wp2
        refine bodyPost_ret (results_none rfl _ _ _) rfl ?_
        exact ⟨⟨_, rfl⟩, S3, .inr hJx3⟩
    · rw [if_pos h32, decide_eq_true h32] at HC
      have HD := hide (drop_head [] (I2.out.trans hw))
      have HM := hide (show Y.length < r.length by rw [hY]; exact behind_less h32)
      have hye : ((strB Y).toList == []) = false := by rw [strB_nil, decide_eq_false hyn]
      clear hw h32 hX hY hr hyn
      gi_wp2
      refine ⟨trivial, rfl, (callsIn_wide.2 HC.out).mono ?_⟩
      rintro e w1 ⟨rfl, hb1⟩
      obtain ⟨j1, j2, j3, j4⟩ := HBW.out w1 hb1
      have hyy := HY.out k S _ HD.out.1 j1 j4
      rw [HD.out.2.1] at hyy
      try dsimp only at hyy
      obtain ⟨fn, tmps, assign, body, hy, hR⟩ := hyy
      have HR := hide hR
      have J2 := hide j2; have J3 := hide j3; have J4 := hide j4
      clear hR j1 j2 j3 j4 hb1 HBW HC c0 l0
      gi_wp2
      refine ⟨rfl, HR.out.mono ?_⟩
      rintro e W5 ⟨S3, hu3, ho3, (⟨rfl, hJ3⟩ | ⟨rfl, hJx3⟩)⟩
      · have H5 := hide (show W5.heap[bx]? = some (boxW (strB r)) from (ho3 bx rfl).trans J3.out)
        have H6 := hide (Nat.le_trans J4.out hu3.size)
        have HJ3 := hide hJ3
        have c3 := cell_blk H5.out 0
        have f3 := froz_blk H5.out 0
        have l3 := lt_blk H5.out
        clear hu3 ho3 hJ3 hy HR
        gi_wp2
        go_roundw
        case rel =>
          refine ⟨k + 1, Y, S3, HD.out.1, HD.out.2.2, (by have := HM.out; have := I3.out; omega), HJ.out _ _ _ _ HJ3.out (QuietO.set (O := fun b => b = bx) (p := ⟨bx, 0, none⟩) (QuietO.refl _ _ _ W5) rfl _), ?_, boxW_set H5.out _, ?_⟩
          · simp [World.setCell]; omega
          · have := H6.out; simp [World.setCell]; omega
        case measure =>
          rw [hBN.out, boxLen_of (boxW_set H5.out _)]
          exact HM.out
      · clear hu3 ho3 hy HR
        gi_wp2
        refine bodyPost_ret (results_none rfl _ _ _) rfl ?_
        exact ⟨⟨_, rfl⟩, S3, .inr hJx3⟩
open Go.RowKit Go.KP Go.KI Go.Shelf
attribute [local go_sem] Oper.semAt_some

theorem exit_words {a : Act} {W : World} {b0 b1 : Nat} {v : Value} {z : Int} (h0 : W.heap[b0]? = some (.cells #[v] 34 (0, 0))) (h1 : W.heap[b1]? = some (.cells #[.int .i64 z] 25 (0, 0)))
    (h2 : a.tmps[2]? = some (.pointer (some ⟨b0, 0, none⟩))) (h3 : a.tmps[3]? = some (.pointer (some ⟨b1, 0, none⟩))) :
    (results Tryz.f19 a.tmps).run Tryz.prog W = .ok (.tuple #[v, .int .i64 z]) W := by
  have c0 := fun o => cell_blk h0 o
  have c1 := fun o => cell_blk h1 o
  simp [results, go_sem, c0, c1, h2, h3]
theorem words_spoil {l w : List UInt8} {k : Nat} (hk : k < (wordsL l).length) (hw : (wordsL l).getD k [] = w) (h : okW w = false) : (wordsL l).all okW = false := by
  rw [List.all_eq_false]
  refine ⟨w, ?_, by rw [h]; simp⟩
  rw [← hw]
  simp [hk]
theorem words_take {l : List UInt8} {k : Nat} (hk : k < (wordsL l).length) : (wordsL l).take (k + 1) = (wordsL l).take k ++ [(wordsL l).getD k []] := by
  rw [List.take_succ_eq_append_getElem hk]
  simp [hk]
theorem wset_off {w : World} {b c o : Nat} {x : Obj} (h : w.heap[b]? = some x) (hne : c ≠ b) (v : Value) : (w.setCell ⟨c, o, none⟩ v).heap[b]? = some x :=
  (Below.heap_setCell _ _ _ _ (fun e => hne e.symm)).trans h
theorem two_set {w W : World} {u v : Value} {z y : Int} (h0 : W.heap[w.heap.size]? = some (.cells #[u] 34 (0, 0))) (h1 : W.heap[w.heap.size + 1]? = some (.cells #[.int .i64 z] 25 (0, 0))) (hb : Below w.heap.size w W) :
    ((W.setCell ⟨w.heap.size, 0, none⟩ v).setCell ⟨w.heap.size + 1, 0, none⟩ (.int .i64 y)).heap[w.heap.size]? = some (.cells #[v] 34 (0, 0)) ∧
    ((W.setCell ⟨w.heap.size, 0, none⟩ v).setCell ⟨w.heap.size + 1, 0, none⟩ (.int .i64 y)).heap[w.heap.size + 1]? = some (.cells #[.int .i64 y] 25 (0, 0)) ∧
    Below w.heap.size w ((W.setCell ⟨w.heap.size, 0, none⟩ v).setCell ⟨w.heap.size + 1, 0, none⟩ (.int .i64 y)) ∧
    ((W.setCell ⟨w.heap.size, 0, none⟩ v).setCell ⟨w.heap.size + 1, 0, none⟩ (.int .i64 y)).heap.size = W.heap.size ∧
    ∀ b, w.heap.size + 2 ≤ b → ((W.setCell ⟨w.heap.size, 0, none⟩ v).setCell ⟨w.heap.size + 1, 0, none⟩ (.int .i64 y)).heap[b]? = W.heap[b]? := by
  refine ⟨wset_off (Boxed.set v h0) (by omega) _, Boxed.set _ (wset_off h1 (by omega) _), (hb.setCell (p := ⟨w.heap.size, 0, none⟩) (Nat.le_refl _) _).setCell (p := ⟨w.heap.size + 1, 0, none⟩) (by simp) _, by simp [World.setCell], fun b h => ?_⟩
  exact (Below.heap_setCell _ _ _ _ (by simp; omega)).trans (Below.heap_setCell _ _ _ _ (by simp; omega))
theorem mWords_any (s : ByteArray) (hs : s.size ≤ 1000000) (B : Nat) (w : World) (hB : B ≤ w.heap.size) (hT : PQ B w) :
    Calls Tryz.prog 19 #[.string s] w (WordsAt w s.data.toList) := by
  obtain ⟨l, hl⟩ : ∃ l, l = s.data.toList := ⟨_, rfl⟩
  have hll : l.length = s.size := by rw [hl, bytes_len]
  have hsl : s = strB l := by rw [hl]; rfl
  rw [← hl]
  have HT := hide hT
  refine (callsIn_wide (n := 0)).1 ?_
  refine callsIn_of_wp_marks Tryz.func19 rfl trivial ?_ rfl
  simp only [Tryz.ntmps19, List.size_toArray, List.length_cons, List.length_nil, Nat.reduceAdd, Nat.reduceSub, Array.replicate_succ, Array.replicate_zero, List.push_toArray, List.append_toArray, List.nil_append, List.cons_append]
  by_cases h4 : 65536 < s.size
  · have HE := hide (wordsE_long (l := l) (by omega))
    have g : (65536 : Int) < (s.size : Int) := by omega
    clear hl hll hs h4 hT hsl
    gi_wp2_with fail
    obtain ⟨x0, x1, _, x3⟩ := heap2 w (.cells #[.slice none 0 0] 34) (.cells #[.int .i64 4] 25)
    exact ⟨_, exit_words x0 x1 rfl rfl, words_fail4 HE.out x3⟩
  have g4 : ((65536 : Int) < (s.size : Int)) = False := eq_false (by omega)
  have h4l : ¬ 65536 < l.length := by omega
  have HLL := hide hll
  have H4 := hide h4l
  subst hsl
  clear hl hll h4 h4l hT hs
  gi_wp2_with fail
  refine ⟨trivial, rfl, (callsIn_wide.2 (mwords_any (strB l) _)).mono ?_⟩
  rintro e w4 ⟨rfl, hw4⟩
  obtain ⟨Y0, Y1, Y2, y4, Y5⟩ := heap3 w (.cells #[.slice none 0 0] 34) (.cells #[.int .i64 0] 25) (.cells #[.slice none 0 0] 34)
  obtain ⟨Z0, z1, z2⟩ := heap1 (((w.alloc (.cells #[.slice none 0 0] 34)).alloc (.cells #[.int .i64 0] 25)).alloc (.cells #[.slice none 0 0] 34)) (boxW (strB l))
  rw [y4] at Z0 z1 z2
  rw [← hw4] at Z0 z1 z2
  have C0 := hide (below_blk z2 Y0 (by omega)); have C1 := hide (below_blk z2 Y1 (by omega)); have C2 := hide (below_blk z2 Y2 (by omega)); have C3 := hide Z0
  have HB4 := hide (Y5.trans (z2.mono (by omega)))
  have hs4 : w4.heap.size = w.heap.size + 4 := by omega
  obtain ⟨i0, hi0, hz0, hz1, hz2⟩ := info_parts info9
  have hsl : l.length ≤ 65536 := by have := H4.out; omega
  have hwl := words_len l
  clear hw4 Y0 Y1 Y2 y4 Y5 Z0 z1 z2
  gi_wp2_with fail
  refine wp_iter_own (gf := 113) (lb := #[.pointer (some ⟨w.heap.size + 3, 0, none⟩)]) rfl (enters_of Tryz.func113 (by kernel_rfl) rfl)
    (wordsSeq_any l hsl (w.heap.size + 3) B w4 C3.out) (fun b hb => ⟨by rw [hb, hs4]; omega, rfl⟩) (fun _ => rfl)
    (fun k S W => ∃ v, S = OwnOf v ∧ W.heap[w.heap.size]? = some (.cells #[.slice none 0 0] 34 (0, 0)) ∧ W.heap[w.heap.size + 1]? = some (.cells #[.int .i64 0] 25 (0, 0)) ∧ W.heap[w.heap.size + 1 + 1]? = some (.cells #[v] 34 (0, 0)) ∧
      W.ownsRow w4.heap.size 9 1 v k (wcells ((wordsL l).take k)) ∧ ((wordsL l).take k).all okW = true ∧ Below w.heap.size w W)
    (fun c S W => c = .ret ∧ (wordsL l).all okW = false ∧ W.heap[w.heap.size]? = some (.cells #[.slice none 0 0] 34 (0, 0)) ∧ W.heap[w.heap.size + 1]? = some (.cells #[.int .i64 3] 25 (0, 0)) ∧ Below w.heap.size w W ∧ w4.heap.size ≤ W.heap.size) ?hI ?hIx ?h0 ?hke
    (fun k S a1' W => ∃ x : ByteArray, x = strB ((wordsL l)[k]?.getD []) ∧ a1' = { tmps := #[.string (strB l), undef, .pointer (some ⟨w.heap.size, 0, none⟩), .pointer (some ⟨w.heap.size + 1, 0, none⟩), .pointer (some ⟨w.heap.size + 1 + 1, 0, none⟩), .string x, undef, .string (strB l), .int .i64 ((strB l).size : Nat), .bool false, .string (strB l), .func (.func 113) #[] #[.pointer (some ⟨w.heap.size + 1 + 1 + 1, 0, none⟩)], .string x, undef, undef, undef, undef, undef, undef, undef, undef, undef, undef, undef, undef, undef, undef, undef, undef, undef, undef, undef, undef, undef, undef, undef], defers := [] })
    ?hAx ?hassign ?hS ?hbody ?hdone ?hstop
  case hI =>
    rintro k S W W2 ⟨v, rfl, e0, e1, e2, hown, hok, hb⟩ hq
    have e : ∀ {b : Nat} {o : Obj}, b < w.heap.size + 3 → W.heap[b]? = some o → W2.heap[b]? = some o := fun {b} {o} hb h => (hq.block b (by omega) (.inl (by omega)) (lt_blk h)).trans h
    exact ⟨v, rfl, e (by omega) e0, e (by omega) e1, e (by omega) e2, owns_stay hown (fun r hr => hq.block r (by have := (hown.lt r hr).1; omega) (.inr hr) (hown.lt r hr).2), hok,
      ⟨hq.os.trans hb.os, hq.tape.trans hb.tape, hq.output.trans hb.output, Nat.le_trans hb.size hq.size, fun j hj => (hq.block j (by omega) (.inl (by omega)) (by have := hb.size; omega)).trans (hb.block j hj)⟩⟩
  case hIx =>
    rintro c S W W2 ⟨rfl, hbad, e0, e1, hb, hsz⟩ hq
    have e : ∀ {b : Nat} {o : Obj}, b < w.heap.size + 3 → W.heap[b]? = some o → W2.heap[b]? = some o := fun {b} {o} hb h => (hq.block b (by omega) (.inl (by omega)) (lt_blk h)).trans h
    exact ⟨rfl, hbad, e (by omega) e0, e (by omega) e1,
      ⟨hq.os.trans hb.os, hq.tape.trans hb.tape, hq.output.trans hb.output, Nat.le_trans hb.size hq.size, fun j hj => (hq.block j (by omega) (.inl (by omega)) (by have := hb.size; omega)).trans (hb.block j hj)⟩, Nat.le_trans hsz hq.size⟩
  case h0 => exact ⟨.slice none 0 0, by funext b; simp [OwnOf, Value.ownBlock], C0.out, C1.out, C2.out, World.ownsRow_nil _ _ _ _, rfl, HB4.out⟩
  case hke =>
    rintro k S W _ ⟨v, _, _, _, _, _, _, hb⟩
    exact HT.out.on hb hB
  case hAx =>
    rintro k S a1' W l r r2 h _
    exact h
  case hassign =>
    intro lp k S W K hsz hSlt hK
    gi_wp2
    exact hK _ _ (Quiet.refl _ _ _) (Upd.refl _ _ _) ⟨_, rfl, rfl⟩
  case hS =>
    rintro k S W ⟨v, rfl, _, _, _, hown, _⟩ b hb
    exact owns_lt hown b hb
  case hstop =>
    rintro D c S W hD ⟨rfl, hbad, e0, e1, hb, hsz⟩ hK
    have HK := hide hK
    have HBD := hide hbad
    have E0 := hide e0; have E1 := hide e1; have HB := hide hb
    clear hK hbad e0 e1 hb
    gi_wp2
    refine ⟨by simp, .inl ⟨_, _, rfl, run_takeDeferred HK.out, ?_⟩⟩
    exact ⟨_, exit_words ((World.putObj_heap_other (by omega)).trans E0.out) ((World.putObj_heap_other (by omega)).trans E1.out) rfl rfl, words_fail3 (wordsE_bad H4.out HBD.out) (HB.out.trans (belowK_b (w := w) (Nat.le_refl _) W D _ _ (by omega) HK.out rfl rfl))⟩
  case hdone =>
    rintro D S W hD ⟨v, rfl, e0, e1, e2, hown, hok, hb⟩ hK
    rw [List.take_length] at hown hok
    obtain ⟨va, vc, rfl⟩ := owns_form hown
    have c2 := cell_blk e2 0
    have c0 := cell_blk e0 0
    have c1 := cell_blk e1 0
    have f0 := froz_blk e0 0
    have f1 := froz_blk e1 0
    obtain ⟨p1, p2, p3, p4, p5⟩ := two_set (v := .slice va (wordsL l).length vc) (y := 0) e0 e1 hb
    have P1 := hide p1; have P2 := hide p2; have P3 := hide p3
    have HO := hide (owns_stay hown (fun r hr => p5 r (by have := (hown.lt r hr).1; omega)))
    have HK := hide ((p5 D (by omega)).trans hK)
    have HOK := hide hok
    have l2 := lt_blk e2
    have P4 := hide p4
    clear hown hok hb hK e0 e1 e2 p1 p2 p3 p4 p5
    gi_wp2
    refine ⟨by simp, .inl ⟨_, _, rfl, run_takeDeferred HK.out, ?_⟩⟩
    exact ⟨_, exit_words ((World.putObj_heap_other (by omega)).trans P1.out) ((World.putObj_heap_other (by omega)).trans P2.out) rfl rfl, words_ret (wordsE_ok H4.out HOK.out) (ownsRow_putObj HO.out _ HK.out rfl) (P3.out.trans (belowK_b (w := w) (Nat.le_refl _) _ D _ _ (by omega) HK.out rfl rfl))⟩
  case hbody =>
    rintro lp k S a1' W hk ⟨v, rfl, e0, e1, e2, hown, hok, hb⟩ ⟨x, hx, rfl⟩ hsz
    obtain ⟨X, hX⟩ : ∃ X, X = (wordsL l).getD k [] := ⟨_, rfl⟩
    have hx2 : x = strB X := by rw [hx, hX, List.getD_eq_getElem?_getD]
    have hxl : x.data.toList = X := by rw [hx2, strB_list]
    have hxs : X.length = x.size := by rw [← hxl, bytes_len]
    have hxm : x.size ≤ 70000 := by
      have := word_len hk
      rw [← hX] at this
      omega
    have c0 := cell_blk e0 0
    have c1 := cell_blk e1 0
    have c2 := cell_blk e2 0
    have f0 := froz_blk e0 0
    have f1 := froz_blk e1 0
    have f2 := froz_blk e2 0
    have l2 := lt_blk e2
    obtain ⟨p1, p2, p3, p4, p5⟩ := two_set (v := .slice none 0 0) (y := 3) e0 e1 hb
    have HSTOP := hide (fun (h : (wordsL l).all okW = false) => show bodyEndO w4.heap.size (fun b => b = w.heap.size + 3) (fun S W => ∃ v, S = OwnOf v ∧ W.heap[w.heap.size]? = some (.cells #[.slice none 0 0] 34 (0, 0)) ∧ W.heap[w.heap.size + 1]? = some (.cells #[.int .i64 0] 25 (0, 0)) ∧ W.heap[w.heap.size + 1 + 1]? = some (.cells #[v] 34 (0, 0)) ∧
        W.ownsRow w4.heap.size 9 1 v (k + 1) (wcells ((wordsL l).take (k + 1))) ∧ ((wordsL l).take (k + 1)).all okW = true ∧ Below w.heap.size w W)
      (fun c S W => c = .ret ∧ (wordsL l).all okW = false ∧ W.heap[w.heap.size]? = some (.cells #[.slice none 0 0] 34 (0, 0)) ∧ W.heap[w.heap.size + 1]? = some (.cells #[.int .i64 3] 25 (0, 0)) ∧ Below w.heap.size w W ∧ w4.heap.size ≤ W.heap.size) (OwnOf v) W .ret { tmps := #[], defers := [] }
        ((W.setCell ⟨w.heap.size, 0, none⟩ (.slice none 0 0)).setCell ⟨w.heap.size + 1, 0, none⟩ (.int .i64 3)) from
      ⟨OwnOf v, ((Upd.refl _ _ _).setBox (p := ⟨w.heap.size, 0, none⟩) (by simp; omega) _).setBox (p := ⟨w.heap.size + 1, 0, none⟩) (by simp; omega) _, fun b hb => p5 b (by omega), rfl, h, p1, p2, p3, by omega⟩)
    have E0 := hide e0; have E1 := hide e1; have E2 := hide e2; have HO := hide hown; have HOK := hide hok; have HB := hide hb
    have HSP := hide (fun h : okW X = false => words_spoil hk hX.symm h)
    have HX2 := hide hx2
    have HXL := hide hxl
    clear e0 e1 e2 hown hok hb p1 p2 p3 p4 p5 hx hx2
    by_cases h0 : X = []
    · have he : (x.toList == []) = true := by rw [ByteArray.toList_eq, hxl, h0]; rfl
      have he2 : x.toList.isEmpty = true := by rw [ByteArray.toList_eq, hxl, h0]; rfl
      have hbad := HSTOP.out (HSP.out (by rw [h0]; rfl))
      have HBAD := hide hbad
      clear hbad h0 HSTOP hxl hxs hX
      gi_wp2
      exact HBAD.out
    have he : (x.toList == []) = false := by rw [ByteArray.toList_eq, hxl]; exact beq_false_of_ne h0
    have he2 : x.toList.isEmpty = false := by
      rw [ByteArray.toList_eq, hxl]
      cases X with
      | nil => exact absurd rfl h0
      | cons a b => rfl
    have H0 := hide h0
    have HX := hide hX
    clear hX hxl h0
    gi_wp2
    gi_loopw [6, 17] (fun _ c wr => ∃ j : Nat, j ≤ x.size ∧ c = .int .i64 j ∧ Hid ((X.take j).all prn = true) ∧ wr = W) (fun _ c _ => x.size - (intOf c).toNat)
    case atStart => exact ⟨0, by omega, rfl, hide rfl, by first | rfl | trivial⟩
    case round =>
      obtain ⟨j, hjl, rfl, HA, rfl⟩ := hrel
      have hj0 : (0 : Int) ≤ (j : Int) := by omega
      by_cases hlt : j < x.size
      · have hki : (j : Int) < (x.size : Int) := by omega
        obtain ⟨c, hc⟩ : ∃ c, x[j]'hlt = c := ⟨_, rfl⟩
        have hat : X[j]? = some c := by
          have h3 : x.data.toList[j]? = some x.data[j] := by simp
          rw [← HXL.out, h3]
          exact congrArg some hc
        obtain ⟨y, hyv⟩ : ∃ y : Nat, y = c.toNat := ⟨_, rfl⟩
        have hyv2 : (x[j]'hlt).toNat = y := by rw [hc, hyv]
        have HAT := hide hat
        have HY := hide hyv
        clear hat hc hyv
        rcases (show (33 ≤ y ∧ y ≤ 126) ∨ y < 33 ∨ (33 ≤ y ∧ 126 < y) by omega) with v | v | v
        · have r1 : ((y : Int) < 33) = False := eq_false (by omega)
          have r2 : ((126 : Int) < (y : Int)) = False := eq_false (by omega)
          have HN := hide (show (X.take (j + 1)).all prn = true from by
            rw [List.take_add_one, HAT.out, List.all_append, HA.out]
            simp only [Option.toList, List.all_cons, List.all_nil, Bool.and_true, Bool.true_and]
            unfold prn
            rw [← HY.out, decide_eq_true v.1, decide_eq_true v.2]
            rfl)
          clear v HA
          gi_wp2
          go_roundw
          case rel => exact ⟨j + 1, by omega, by go_num, HN, by first | rfl | trivial⟩
          case measure => simp [intOf]; omega
        · have r1 : ((y : Int) < 33) = True := eq_true (by omega)
          have HBAD := hide (HSTOP.out (HSP.out (by
            unfold okW
            rw [List.all_eq_false.2 ⟨c, List.mem_of_getElem? HAT.out, by unfold prn; rw [← HY.out, decide_eq_false (by omega)]; simp⟩, Bool.and_false])))
          clear v HA HSTOP
          gi_wp2
          exact HBAD.out
        · have r1 : ((y : Int) < 33) = False := eq_false (by omega)
          have r2 : ((126 : Int) < (y : Int)) = True := eq_true (by omega)
          have HBAD := hide (HSTOP.out (HSP.out (by
            unfold okW
            rw [List.all_eq_false.2 ⟨c, List.mem_of_getElem? HAT.out, by unfold prn; rw [← HY.out, decide_eq_false (show ¬ y ≤ 126 by omega), Bool.and_false]; simp⟩, Bool.and_false])))
          clear v HA HSTOP
          gi_wp2
          exact HBAD.out
      · have hki : ((j : Int) < (x.size : Int)) = False := eq_false (by omega)
        have HAL := hide (show okW X = true from by
          have h1 := HA.out
          rw [List.take_of_length_le (by omega)] at h1
          unfold okW
          rw [h1, Bool.and_true]
          simp only [Bool.not_eq_true', List.isEmpty_eq_false_iff]
          exact H0.out)
        clear hlt HA HSTOP HSP
        have hwk : k < 70000 := by omega
        gi_wp2_with (gi_at_builtin; refine in_append _ rfl (.tmp 31) (.tmp 33) 34 rfl w4.heap.size 9 i0 (.string ⟨#[]⟩) 1 16 Tryz.underlying34 hi0 hz0 hz1 hz2 rfl (by decide) _ _ _ rfl (HO.out.alloc _) ⟨wr.heap.size, 0, none⟩ 1 1 [.string x] rfl rfl (World.news_of_block (cs := #[.string x]) (t := 9) (fr := (0, 0)) (heap_alloc_new wr _)) (by simp [Value.oneCell']) (by omega) (by simp only [maxLen]; omega) (by omega) (by simp; omega) ?_; intro g2 cap2 w2 hown2 hg2 hat2 hlt2; have hblk := fun b (hb : b < w4.heap.size) => (hg2.block b (by simp; omega) (owns_ne HO.out (by omega))).trans (Below.heap_alloc _ _ _ (show b < wr.heap.size by omega)); have c4 := (World.cell?_of_block (a := ⟨w.heap.size + 1 + 1, 0, none⟩) (hblk _ (by simp; omega))).trans c2; have f4 := (World.frozen?_of_block (a := ⟨w.heap.size + 1 + 1, 0, none⟩) (hblk _ (by simp; omega))).trans f2; have HBk := hide hblk; have HO2 := hide hown2; have HG2 := hide hg2; have HA2 := hide hat2; clear hblk hown2 hg2 hat2)
        refine ⟨OwnOf (.slice (some ⟨g2, 0, none⟩) (k + 1) cap2), upd_append (w1 := wr.alloc (.cells #[.string x] 9)) (by omega) ((Upd.refl _ _ _).alloc _) HG2.out HA2.out, fun b hb => (Below.heap_setCell _ _ _ _ (by simp; omega)).trans (HBk.out b (by omega)),
          .slice (some ⟨g2, 0, none⟩) (k + 1) cap2, rfl, wset_off ((HBk.out _ (by omega)).trans E0.out) (by omega) _, wset_off ((HBk.out _ (by omega)).trans E1.out) (by omega) _, Boxed.set _ ((HBk.out _ (by omega)).trans E2.out), ?_, ?_, ?_⟩
        · rw [words_take hk, wcells_snoc, ← HX.out, ← HX2.out]
          exact owns_stay HO2.out (fun r hr => Below.heap_setCell _ _ _ _ (by have := (HO2.out.lt r hr).1; simp; omega))
        · rw [words_take hk, List.all_append, HOK.out, ← HX.out]
          simp [HAL.out]
        · exact ((HB.out.alloc HB.out.size _).grown HG2.out (by simp; omega) (owns_ge HO.out (by omega))).setCell (p := ⟨w.heap.size + 1 + 1, 0, none⟩) (by simp; omega) _
end Go.Proofs.YtfcjaljaomknjaaGreatDoor
namespace Go.KI
open Go

theorem rune_high (n b0 b1 b2 b3 : Nat) (h : 128 ≤ b0) : 126 < (Lib.decodeN n b0 b1 b2 b3).1 := by
  unfold Lib.decodeN
  repeat' split
  all_goals first
    | (exfalso; omega)
    | (show 126 < 65533; decide)
    | (simp only; omega)
def badR (r : Nat) : Bool := decide (r < 32) || decide (126 < r)
theorem bad_found {s : ByteArray} {F : Nat → Nat → Int} (hF : ∀ f pos, pos < s.size → F (f + 1) pos = if badR (Utf8.decode s pos).1 = true then (pos : Int) else F f (pos + (Utf8.decode s pos).2))
    {i : Nat} (hi : i < s.data.toList.length) (hb : (s.data.toList.getD i 0).toNat < 32 ∨ 126 < (s.data.toList.getD i 0).toNat) :
    ∀ f pos, pos ≤ i → i < pos + f → 0 ≤ F f pos := by
  intro f
  induction f with
  | zero => intro pos h1 h2; omega
  | succ f ih =>
    intro pos h1 h2
    have hs : pos < s.size := by
      have : s.data.toList.length = s.size := by simp
      omega
    rw [hF f pos hs]
    by_cases hp : badR (Utf8.decode s pos).1 = true
    · rw [if_pos hp]
      omega
    · rw [if_neg hp]
      have hd := Lib.decode_N s pos
      have hlow : (s.data.toList.getD pos 0).toNat < 128 := by
        refine Nat.lt_of_not_le fun h => hp ?_
        rw [hd]
        unfold badR
        rw [decide_eq_true (rune_high _ _ _ _ _ h), Bool.or_true]
      have hw : Utf8.decode s pos = ((s.data.toList.getD pos 0).toNat, 1) := by
        rw [hd]
        exact Lib.decodeN_ascii _ _ _ _ _ hlow
      rw [hw] at hp ⊢
      have hne : pos ≠ i := by
        intro e
        rw [e] at hp
        unfold badR at hp
        simp only [Bool.or_eq_true, decide_eq_true_eq] at hp
        exact hp hb
      exact ih (pos + 1) (by omega) (by omega)
theorem mem_place {l : List UInt8} {c : UInt8} (h : c ∈ l) : ∃ i, i < l.length ∧ l.getD i 0 = c := by
  obtain ⟨i, hi, e⟩ := List.getElem_of_mem h
  refine ⟨i, hi, ?_⟩
  rw [List.getD_eq_getElem?_getD, List.getElem?_eq_getElem hi, ← e]
  rfl
open Go

theorem lv_cut (b : Nat) (l : List Nat) (k : Nat) (h : k ≤ l.length) : lv b l = lvT b l k + b ^ k * lv b (l.drop k) := by
  unfold lvT
  conv => lhs; rw [← List.take_append_drop k l]
  rw [lv_append, List.length_take, Nat.min_eq_left h]
theorem lat_drop (l : List Nat) (j i : Nat) : lat (l.drop j) i = lat l (j + i) := by
  unfold lat
  rw [List.getElem?_drop]
theorem lt_drop {b : Nat} {l : List Nat} (h : Lt b l) (j : Nat) : Lt b (l.drop j) := fun x hx => h x (List.mem_of_mem_drop hx)
theorem lt_take {b : Nat} {l : List Nat} (h : Lt b l) (j : Nat) : Lt b (l.take j) := fun x hx => h x (List.mem_of_mem_take hx)
theorem lv_inj {b : Nat} (hb : 0 < b) : ∀ {x y : List Nat}, Lt b x → Lt b y → x.length = y.length → lv b x = lv b y → x = y := by
  intro x
  induction x with
  | nil => intro y _ _ hl _; exact (List.eq_nil_of_length_eq_zero hl.symm).symm
  | cons a r ih =>
    intro y hx hy hl hv
    cases y with
    | nil => simp at hl
    | cons c s =>
      simp only [lv] at hv
      have ha := hx a (by simp)
      have hc := hy c (by simp)
      have h1 : a = c := by
        have e1 : (a + b * lv b r) % b = a := by rw [Nat.add_mul_mod_self_left, Nat.mod_eq_of_lt ha]
        have e2 : (c + b * lv b s) % b = c := by rw [Nat.add_mul_mod_self_left, Nat.mod_eq_of_lt hc]
        rw [← e1, hv, e2]
      subst h1
      have h2 : lv b r = lv b s := Nat.eq_of_mul_eq_mul_left hb (Nat.add_left_cancel hv)
      rw [ih (fun z hz => hx z (List.mem_cons_of_mem _ hz)) (fun z hz => hy z (List.mem_cons_of_mem _ hz)) (by simpa using hl) h2]
theorem high_zero {b : Nat} {l : List Nat} {n V : Nat} (hn : n ≤ l.length) (h : lv b l < V) (hV : V ≤ b ^ n) : lv b (l.drop n) = 0 ∧ lv b l = lvT b l n := by
  have h1 := lv_cut b l n hn
  have h2 : lv b (l.drop n) = 0 := by
    rcases Nat.eq_zero_or_pos (lv b (l.drop n)) with h3 | h3
    · exact h3
    · have : b ^ n * 1 ≤ b ^ n * lv b (l.drop n) := Nat.mul_le_mul_left _ h3
      omega
  rw [h2] at h1
  exact ⟨h2, by omega⟩
structure WinEq (j n : Nat) (L M : List Nat) : Prop where
  len : M.length = L.length
  low : M.take j = L.take j
  high : M.drop (j + n) = L.drop (j + n)
theorem WinEq.refl (j n : Nat) (L : List Nat) : WinEq j n L L := ⟨rfl, rfl, rfl⟩
theorem WinEq.trans {j n : Nat} {a c d : List Nat} (h : WinEq j n a c) (k : WinEq j n c d) : WinEq j n a d := ⟨k.len.trans h.len, k.low.trans h.low, k.high.trans h.high⟩
theorem WinEq.set {j n : Nat} {L M : List Nat} (h : WinEq j n L M) {i : Nat} (hi : i < n) (v : Nat) : WinEq j n L (M.set (j + i) v) := by
  refine ⟨by rw [List.length_set]; exact h.len, ?_, ?_⟩
  · rw [← h.low, List.take_set_of_le (by omega)]
  · rw [← h.high, List.drop_set_of_lt (by omega)]
theorem drop_set_add (L : List Nat) (j i v : Nat) : (L.set (j + i) v).drop j = (L.drop j).set i v := by
  rw [List.drop_set, if_neg (by omega)]
  congr 1
  omega
theorem lvT_set_past {b : Nat} {L : List Nat} {i v : Nat} : lvT b (L.set i v) i = lvT b L i := by
  unfold lvT
  rw [List.take_set_of_le (Nat.le_refl _)]
theorem win_set {b : Nat} {M : List Nat} {j i v : Nat} (hi : j + i < M.length) : lvT b ((M.set (j + i) v).drop j) (i + 1) = lvT b (M.drop j) i + b ^ i * v := by
  rw [drop_set_add, lvT_succ, lvT_set_past, lat_set (by rw [List.length_drop]; omega), if_pos rfl]
theorem win_keep {L M : List Nat} {j i : Nat} (h : M.drop (j + i) = L.drop (j + i)) : lat M (j + i) = lat L (j + i) := by
  have h1 := lat_drop M (j + i) 0
  have h2 := lat_drop L (j + i) 0
  rw [Nat.add_zero] at h1 h2
  rw [← h1, ← h2, h]
theorem drop_set_next {L M : List Nat} {j i v : Nat} (h : M.drop (j + i) = L.drop (j + i)) : (M.set (j + i) v).drop (j + (i + 1)) = L.drop (j + (i + 1)) := by
  rw [List.drop_set_of_lt (by omega), show j + (i + 1) = (j + i) + 1 by omega]
  have h1 := congrArg (List.drop 1) h
  simpa only [List.drop_drop] using h1

theorem take_step {b i q o c c2 n x y X Y : Nat} (h : o + q * Y = X + b ^ i * c) (h2 : n + c + q * y = x + b * c2) : (o + b ^ i * n) + q * (Y + b ^ i * y) = (X + b ^ i * x) + b ^ (i + 1) * c2 := by
  rw [Nat.pow_succ]
  have h3 : b ^ i * (n + c + q * y) = b ^ i * (x + b * c2) := by rw [h2]
  grind
theorem rest_step {b i q o c c2 n x y X Y : Nat} (h : o + b ^ i * c = X + q * Y) (h2 : x + q * y + c = n + b * c2) : (o + b ^ i * n) + b ^ (i + 1) * c2 = (X + b ^ i * x) + q * (Y + b ^ i * y) := by
  rw [Nat.pow_succ]
  have h3 : b ^ i * (x + q * y + c) = b ^ i * (n + b * c2) := by rw [h2]
  grind
theorem win_back {b j n q V : Nat} (hb : 0 < b) {L M R : List Nat} {c c2 : Nat} (hL : Lt b L) (hR : Lt b R) (h1 : WinEq j n L M) (h2 : WinEq j n M R)
    (e1 : lvT b (M.drop j) n + q * V = lvT b (L.drop j) n + b ^ n * c) (e2 : lvT b (R.drop j) n + b ^ n * c2 = lvT b (M.drop j) n + q * V) : R = L := by
  have h3 := h1.trans h2
  have b1 := lvT_lt hb (lt_drop hL j) n
  have b2 := lvT_lt hb (lt_drop hR j) n
  have e3 : lvT b (R.drop j) n + b ^ n * c2 = lvT b (L.drop j) n + b ^ n * c := by rw [e2, e1]
  have e4 : lvT b (R.drop j) n = lvT b (L.drop j) n := by
    have f1 : (lvT b (R.drop j) n + b ^ n * c2) % b ^ n = lvT b (R.drop j) n := by rw [Nat.add_mul_mod_self_left, Nat.mod_eq_of_lt b2]
    have f2 : (lvT b (L.drop j) n + b ^ n * c) % b ^ n = lvT b (L.drop j) n := by rw [Nat.add_mul_mod_self_left, Nat.mod_eq_of_lt b1]
    rw [← f1, e3, f2]
  have e5 : (R.drop j).take n = (L.drop j).take n := by
    refine lv_inj hb (lt_take (lt_drop hR j) n) (lt_take (lt_drop hL j) n) ?_ e4
    rw [List.length_take, List.length_take, List.length_drop, List.length_drop, h3.len]
  have k1 : R = R.take j ++ ((R.drop j).take n ++ R.drop (j + n)) := by rw [← List.drop_drop, List.take_append_drop, List.take_append_drop]
  have k2 : L = L.take j ++ ((L.drop j).take n ++ L.drop (j + n)) := by rw [← List.drop_drop, List.take_append_drop, List.take_append_drop]
  rw [k1, k2, h3.low, h3.high, e5]
theorem top3_lt {b : Nat} (hb : 0 < b) {l : List Nat} (h : Lt b l) (n : Nat) : lvT b l (n + 3) < b ^ n * (lat l n + b * lat l (n + 1) + b * (b * lat l (n + 2)) + 1) := by
  have h0 := lvT_lt hb h n
  have h1 : lvT b l (n + 3) = lvT b l n + b ^ n * (lat l n + b * lat l (n + 1) + b * (b * lat l (n + 2))) := by
    have p1 : b ^ (n + 1) = b ^ n * b := Nat.pow_succ ..
    have p2 : b ^ (n + 2) = b ^ n * b * b := by rw [show n + 2 = n + 1 + 1 from rfl, Nat.pow_succ, Nat.pow_succ]
    rw [lvT_succ, lvT_succ, lvT_succ, p1, p2]
    generalize b ^ n = P
    have e1 : P * (b * (b * lat l (n + 2))) = P * b * b * lat l (n + 2) := by rw [← Nat.mul_assoc, ← Nat.mul_assoc]
    have e2 : P * (b * lat l (n + 1)) = P * b * lat l (n + 1) := by rw [← Nat.mul_assoc]
    rw [Nat.mul_add, Nat.mul_add, e1, e2]
    omega
  rw [h1, Nat.mul_add _ _ 1, Nat.mul_one]
  omega
theorem top2_le {b : Nat} (l : List Nat) (n : Nat) : b ^ n * (lat l n + b * lat l (n + 1)) ≤ lvT b l (n + 2) := by
  rw [lvT_succ, lvT_succ, Nat.pow_succ]
  generalize b ^ n = P
  have : P * (lat l n + b * lat l (n + 1)) = P * lat l n + P * b * lat l (n + 1) := by grind
  omega
theorem top2_lt {b : Nat} (hb : 0 < b) {l : List Nat} (h : Lt b l) (n : Nat) : lvT b l (n + 1) < b ^ n * (lat l n + 1) := by
  rw [lvT_succ, Nat.mul_add, Nat.mul_one]
  have := lvT_lt hb h n
  omega
theorem est_lower {P b q r t v1 v2 u0 U V : Nat} (hU : U < P * (t * b + u0 + 1)) (hV : P * (v2 + b * v1) ≤ V) (hqr : q * v1 + r = t) (hgt : r * b + u0 < q * v2) : U < q * V := by
  have h1 : t * b + u0 + 1 ≤ q * (v2 + b * v1) := by
    have : t * b = q * v1 * b + r * b := by rw [← hqr, Nat.add_mul]
    have : q * (v2 + b * v1) = q * v2 + q * v1 * b := by grind
    omega
  have h2 : P * (t * b + u0 + 1) ≤ P * (q * (v2 + b * v1)) := Nat.mul_le_mul_left _ h1
  have h3 : P * (q * (v2 + b * v1)) = q * (P * (v2 + b * v1)) := by grind
  have h4 : q * (P * (v2 + b * v1)) ≤ q * V := Nat.mul_le_mul_left _ hV
  omega
theorem est_start {P b t v1 u0 U V : Nat} (hv : 0 < v1) (hu : u0 < b) (hU : U < P * (t * b + u0 + 1)) (hV : P * (b * v1) ≤ V) : U < (t / v1 + 1) * V := by
  have h1 := Nat.div_add_mod t v1
  have h2 := Nat.mod_lt t hv
  have h3 : t * b + u0 + 1 ≤ (t / v1 + 1) * (b * v1) := by
    have e : (t / v1 + 1) * (b * v1) = (v1 * (t / v1) + v1) * b := by grind
    have : (t + 1) * b ≤ (v1 * (t / v1) + v1) * b := Nat.mul_le_mul_right _ (by omega)
    have : (t + 1) * b = t * b + b := by grind
    omega
  have h4 : P * (t * b + u0 + 1) ≤ P * ((t / v1 + 1) * (b * v1)) := Nat.mul_le_mul_left _ h3
  have h5 : P * ((t / v1 + 1) * (b * v1)) = (t / v1 + 1) * (P * (b * v1)) := by grind
  have h6 : (t / v1 + 1) * (P * (b * v1)) ≤ (t / v1 + 1) * V := Nat.mul_le_mul_left _ hV
  omega
theorem round_div {b j V U S S2 q Q : Nat} {T : Nat} (h : T + b ^ (j + 1) * (S + V * Q) = U) (x : Nat) (h2 : x + b * S = S2 + V * q) : ∀ T2, T = T2 + b ^ j * x → T2 + b ^ j * (S2 + V * (q + b * Q)) = U := by
  intro T2 hT
  rw [← h, hT, Nat.pow_succ]
  have : b ^ j * (x + b * S) = b ^ j * (S2 + V * q) := by rw [h2]
  grind
theorem floor_long (m1 m2 : Bool) {a b : Nat} (hb : 0 < b) :
    ((m1 = m2 ∨ a % b = 0) → valS (!(m1 == m2)) (a / b) = (valS m1 a).fdiv (valS m2 b) ∧ valS m2 (a % b) = (valS m1 a).fmod (valS m2 b)) ∧
    (m1 ≠ m2 → a % b ≠ 0 → valS (!(m1 == m2)) (a / b + 1) = (valS m1 a).fdiv (valS m2 b) ∧ valS m2 (b - a % b) = (valS m1 a).fmod (valS m2 b)) := by
  have h1 := Nat.div_add_mod a b
  have h2 := Nat.mod_lt a hb
  obtain ⟨q, hq⟩ : ∃ q, q = a / b := ⟨_, rfl⟩
  obtain ⟨r, hr⟩ : ∃ r, r = a % b := ⟨_, rfl⟩
  rw [← hq, ← hr] at h1 ⊢
  rw [← hr] at h2
  clear hq hr
  have h3 : (b : Int) * (q : Int) + (r : Int) = (a : Int) := by rw [← h1]; simp
  have h4 : -(b : Int) * (q : Int) = -((b : Int) * q) := Int.neg_mul ..
  have h5 : (b : Int) * -(q : Int) = -((b : Int) * q) := Int.mul_neg ..
  have h6 : -(b : Int) * -(q : Int) = (b : Int) * q := Int.neg_mul_neg ..
  have h7 : (b : Int) * -((q + 1 : Nat) : Int) = -((b : Int) * q) - b := by rw [Int.mul_neg, Int.natCast_add, Int.mul_add, Int.natCast_one, Int.mul_one]; omega
  have h8 : -(b : Int) * ((q + 1 : Nat) : Int) = -((b : Int) * q) - b := by rw [Int.neg_mul, Int.natCast_add, Int.mul_add, Int.natCast_one, Int.mul_one]; omega
  have hbp : (0 : Int) < (b : Int) := by omega
  have hbn : -(b : Int) < 0 := by omega
  constructor
  · intro h
    cases m1 <;> cases m2 <;> simp only [valS, Bool.false_eq_true, if_false, if_true, beq_self_eq_true, Bool.not_true, show (false == true) = false from rfl, show (true == false) = false from rfl, Bool.not_false]
    · have := (Int.fdiv_fmod_unique (a := (a : Int)) (r := (r : Int)) (q := (q : Int)) hbp).2 ⟨by omega, by omega, by omega⟩
      exact ⟨this.1.symm, this.2.symm⟩
    · have h0 : r = 0 := by simpa using h
      have := (Int.fdiv_fmod_unique' (a := (a : Int)) (r := -(r : Int)) (q := -(q : Int)) hbn).2 ⟨by omega, by omega, by omega⟩
      exact ⟨this.1.symm, this.2.symm⟩
    · have h0 : r = 0 := by simpa using h
      have := (Int.fdiv_fmod_unique (a := -(a : Int)) (r := (r : Int)) (q := -(q : Int)) hbp).2 ⟨by omega, by omega, by omega⟩
      exact ⟨this.1.symm, this.2.symm⟩
    · have := (Int.fdiv_fmod_unique' (a := -(a : Int)) (r := -(r : Int)) (q := (q : Int)) hbn).2 ⟨by omega, by omega, by omega⟩
      exact ⟨this.1.symm, this.2.symm⟩
  · intro hm h0
    cases m1 <;> cases m2 <;> simp only [valS, Bool.false_eq_true, if_false, if_true, beq_self_eq_true, Bool.not_true, show (false == true) = false from rfl, show (true == false) = false from rfl, Bool.not_false]
    · exact absurd rfl hm
    · have := (Int.fdiv_fmod_unique' (a := (a : Int)) (r := -((b - r : Nat) : Int)) (q := -((q + 1 : Nat) : Int)) hbn).2 ⟨by rw [Int.neg_mul_neg, Int.natCast_add, Int.mul_add, Int.natCast_one, Int.mul_one]; omega, by omega, by omega⟩
      exact ⟨this.1.symm, this.2.symm⟩
    · have := (Int.fdiv_fmod_unique (a := -(a : Int)) (r := ((b - r : Nat) : Int)) (q := -((q + 1 : Nat) : Int)) hbp).2 ⟨by omega, by omega, by omega⟩
      exact ⟨this.1.symm, this.2.symm⟩
    · exact absurd rfl hm
theorem fdiv_natAbs_le {x y : Int} (hy : y ≠ 0) : (x.fdiv y).natAbs ≤ x.natAbs := by
  have h := Int.mul_fdiv_add_fmod x y
  have hr : (y < 0 → y < x.fmod y ∧ x.fmod y ≤ 0) ∧ (0 < y → 0 ≤ x.fmod y ∧ x.fmod y < y) := by
    constructor
    · intro hn
      exact ((Int.fdiv_fmod_unique' (a := x) (r := x.fmod y) (q := x.fdiv y) hn).1 ⟨rfl, rfl⟩).2
    · intro hp
      exact ((Int.fdiv_fmod_unique (a := x) (r := x.fmod y) (q := x.fdiv y) hp).1 ⟨rfl, rfl⟩).2
  obtain ⟨q, hq⟩ : ∃ q, q = x.fdiv y := ⟨_, rfl⟩
  obtain ⟨r, hr2⟩ : ∃ r, r = x.fmod y := ⟨_, rfl⟩
  rw [← hq, ← hr2] at h
  rw [← hr2] at hr
  rw [← hq]
  clear hq hr2
  rcases Nat.eq_zero_or_pos q.natAbs with h0 | h0
  · omega
  have e : (y * q).natAbs = y.natAbs * q.natAbs := Int.natAbs_mul ..
  have e2 : y.natAbs + q.natAbs ≤ y.natAbs * q.natAbs + 1 := by
    obtain ⟨s, hs⟩ : ∃ s, y.natAbs = s + 1 := ⟨y.natAbs - 1, by omega⟩
    obtain ⟨t, ht⟩ : ∃ t, q.natAbs = t + 1 := ⟨q.natAbs - 1, by omega⟩
    rw [hs, ht]
    have : (s + 1) * (t + 1) = s * t + s + t + 1 := by grind
    omega
  omega
theorem fmod_natAbs_lt {x y : Int} (hy : y ≠ 0) : (x.fmod y).natAbs < y.natAbs := by
  rcases Int.lt_or_gt_of_ne hy with hn | hp
  · have := ((Int.fdiv_fmod_unique' (a := x) (r := x.fmod y) (q := x.fdiv y) hn).1 ⟨rfl, rfl⟩).2
    omega
  · have := ((Int.fdiv_fmod_unique (a := x) (r := x.fmod y) (q := x.fdiv y) hp).1 ⟨rfl, rfl⟩).2
    omega
def EstAt (v1 T S W q r : Nat) : Prop := q * v1 + r = T ∧ S < (q + 1) * W
structure EstIn (b v1 v2 x0 x1 u0 S W : Nat) : Prop where
  pos : 0 < v1
  x0le : x0 ≤ v1
  x1lt : x1 < b
  u0lt : u0 < b
  small : S < b * W
  high : ∃ P, S < P * ((x0 * b + x1) * b + u0 + 1) ∧ P * (v2 + b * v1) ≤ W
theorem EstIn.of {b : Nat} (hb : 0 < b) {L V : List Nat} (hL : Lt b L) (hV : Norm b V) {j m : Nat} (hm : V.length = m + 2) (hn : j + (m + 2) < L.length) (h : lv b (L.drop (j + 1)) < lv b V) :
    EstIn b (lat V (m + 1)) (lat V m) (lat L (j + (m + 2))) (lat L (j + (m + 1))) (lat L (j + m)) (lvT b (L.drop j) (m + 3)) (lv b V) ∧ lv b (L.drop j) = lvT b (L.drop j) (m + 3) := by
  have hVl : lv b V < b ^ (m + 2) := by rw [← hm]; exact lv_lt hV.lt
  have hz := high_zero (b := b) (l := L.drop (j + 1)) (n := m + 2) (by rw [List.length_drop]; omega) h (Nat.le_of_lt hVl)
  have hdd : (L.drop j).drop (m + 3) = (L.drop (j + 1)).drop (m + 2) := by
    rw [List.drop_drop, List.drop_drop]
    congr 1
    omega
  have hcut := lv_cut b (L.drop j) (m + 3) (by rw [List.length_drop]; omega)
  rw [hdd, hz.1, Nat.mul_zero, Nat.add_zero] at hcut
  have hne : V ≠ [] := fun e => by rw [e] at hm; simp at hm
  have ht := hV.top.resolve_left hne
  rw [hm, show m + 2 - 1 = m + 1 by omega] at ht
  have hVt : lvT b V (m + 2) = lv b V := lvT_all (by omega)
  have hS : lvT b (L.drop j) (m + 3) < b * lv b V := by
    have h1 : lv b (L.drop j) = lat L j + b * lv b (L.drop (j + 1)) := by
      rw [List.drop_eq_getElem_cons (show j < L.length by omega)]
      show L[j] + b * lv b (L.drop (j + 1)) = _
      rw [lat_at (show j < L.length by omega)]
    have h2 := lat_lt hb hL j
    have h3 : b * (lv b (L.drop (j + 1)) + 1) ≤ b * lv b V := Nat.mul_le_mul_left b h
    rw [Nat.mul_add, Nat.mul_one] at h3
    omega
  refine ⟨⟨by omega, ?_, lat_lt hb hL _, lat_lt hb hL _, hS, b ^ m, ?_, ?_⟩, hcut⟩
  · have h1 := top2_lt hb hV.lt (m + 1)
    rw [hVt] at h1
    have h2 : b ^ (m + 1) * lat (L.drop (j + 1)) (m + 1) ≤ lvT b (L.drop (j + 1)) (m + 2) := by
      rw [lvT_succ]
      omega
    rw [lat_drop, show j + 1 + (m + 1) = j + (m + 2) by omega] at h2
    have h3 : b ^ (m + 1) * lat L (j + (m + 2)) < b ^ (m + 1) * (lat V (m + 1) + 1) := by
      rw [← hz.2] at h2
      omega
    have h4 := Nat.lt_of_mul_lt_mul_left h3
    omega
  · have h1 := top3_lt hb (lt_drop hL j) m
    rw [lat_drop, lat_drop, lat_drop] at h1
    have e : (lat L (j + (m + 2)) * b + lat L (j + (m + 1))) * b + lat L (j + m) + 1 = lat L (j + m) + b * lat L (j + (m + 1)) + b * (b * lat L (j + (m + 2))) + 1 := by grind
    rw [e]
    exact h1
  · have h1 := top2_le (b := b) V m
    rw [hVt] at h1
    exact h1
theorem EstIn.start {b v1 v2 x0 x1 u0 S W : Nat} (h : EstIn b v1 v2 x0 x1 u0 S W) : EstAt v1 (x0 * b + x1) S W ((x0 * b + x1) / v1) ((x0 * b + x1) % v1) ∧ (x0 * b + x1) / v1 < 2 * b := by
  obtain ⟨P, h1, h2⟩ := h.high
  refine ⟨⟨?_, ?_⟩, ?_⟩
  · rw [Nat.mul_comm]
    exact Nat.div_add_mod _ _
  · refine est_start h.pos h.u0lt h1 (Nat.le_trans (Nat.mul_le_mul_left P ?_) h2)
    omega
  · rw [Nat.div_lt_iff_lt_mul h.pos]
    have h3 : x0 * b ≤ v1 * b := Nat.mul_le_mul_right b h.x0le
    have h4 : 1 * b ≤ v1 * b := Nat.mul_le_mul_right b h.pos
    have h5 : 2 * b * v1 = v1 * b + v1 * b := by grind
    have := h.x1lt
    omega
theorem EstIn.down {b v1 v2 x0 x1 u0 S W q r : Nat} (h : EstIn b v1 v2 x0 x1 u0 S W) (ha : EstAt v1 (x0 * b + x1) S W q r) (hq : b ≤ q ∨ r * b + u0 < q * v2) (h1 : 1 ≤ q) : EstAt v1 (x0 * b + x1) S W (q - 1) (r + v1) := by
  obtain ⟨k, rfl⟩ : ∃ k, q = k + 1 := ⟨q - 1, by omega⟩
  rw [Nat.add_sub_cancel]
  have e : (k + 1) * v1 = k * v1 + v1 := by rw [Nat.add_mul, Nat.one_mul]
  refine ⟨by have := ha.1; omega, ?_⟩
  rcases hq with hq | hq
  · exact Nat.lt_of_lt_of_le h.small (Nat.mul_le_mul_right W hq)
  · obtain ⟨P, g1, g2⟩ := h.high
    exact est_lower g1 g2 ha.1 hq
theorem EstIn.stop {b v1 v2 x0 x1 u0 S W q r : Nat} (h : EstIn b v1 v2 x0 x1 u0 S W) (ha : EstAt v1 (x0 * b + x1) S W q r) (hr : b ≤ r) : q < b := by
  rcases Nat.lt_or_ge q b with h1 | h1
  · exact h1
  · have h2 : b * v1 ≤ q * v1 := Nat.mul_le_mul_right v1 h1
    have h3 : x0 * b ≤ v1 * b := Nat.mul_le_mul_right b h.x0le
    have h4 : v1 * b = b * v1 := Nat.mul_comm ..
    have := ha.1
    have := h.x1lt
    omega
end Go.KI
