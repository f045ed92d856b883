/-
  Texts laid together.
-/
import Derived.Test.YtklgpilgalfckaaGreatDoorMN1
import Derived.Deep.AppendLies
import Derived.Deep.Draws
import Derived.LoopIn
import Derived.LoopNIn
import Derived.OwnWalkIn
import Derived.RangeFuncBound
import Derived.RangeFuncCalls
import Derived.RangeFuncLeaves
import Derived.RangeFuncNested
import Derived.TacticsInMore
import Derived.WalkKit
import Derived.BigQuiet
import Derived.Deep.QuietTactic
import Derived.Test.YtklgpilgalfckaaGreatDoorChecked
import Derived.Lib.AppendIntMem
import Derived.Lib.ItoaLen
import Derived.Shelf.Strings.SlTrimAscii
import Derived.IntWalk
import Derived.Laws.MakeOwn
set_option maxRecDepth 100000
set_option maxHeartbeats 4000000
namespace Go.KP
open Go Go.RowKit

structure Quiet (B : Nat) (S : Nat → Prop) (W W2 : World) : Prop where
  os : W2.os = W.os
  tape : W2.tape = W.tape
  output : W2.output = W.output
  size : W.heap.size ≤ W2.heap.size
  block : ∀ b, (b < B ∨ S b) → b < W.heap.size → W2.heap[b]? = W.heap[b]?

theorem Quiet.refl (B : Nat) (S : Nat → Prop) (W : World) : Quiet B S W W := ⟨rfl, rfl, rfl, Nat.le_refl _, fun _ _ _ => rfl⟩
theorem Quiet.trans {B : Nat} {S : Nat → Prop} {a b c : World} (h : Quiet B S a b) (k : Quiet B S b c) : Quiet B S a c :=
  ⟨k.os.trans h.os, k.tape.trans h.tape, k.output.trans h.output, Nat.le_trans h.size k.size, fun i hi hl => (k.block i hi (Nat.lt_of_lt_of_le hl h.size)).trans (h.block i hi hl)⟩
theorem Quiet.alloc {B : Nat} {S : Nat → Prop} {a w : World} (h : Quiet B S a w) (o : Obj) : Quiet B S a (w.alloc o) :=
  h.trans ⟨rfl, rfl, rfl, by simp, fun b _ hl => Below.heap_alloc _ _ _ hl⟩
theorem Quiet.drew {B : Nat} {S : Nat → Prop} {a w : World} (h : Quiet B S a w) : Quiet B S a w.drew := ⟨h.os, h.tape, h.output, h.size, h.block⟩
theorem Quiet.drewN {B : Nat} {S : Nat → Prop} {a w : World} (h : Quiet B S a w) (n : Nat) : Quiet B S a (w.drewN n) := ⟨h.os, h.tape, h.output, h.size, h.block⟩
theorem Quiet.of_below {B n : Nat} {S : Nat → Prop} {a w w2 : World} (h : Quiet B S a w) (hb : Below n w w2) (hn : w.heap.size ≤ n) : Quiet B S a w2 :=
  h.trans ⟨hb.os, hb.tape, hb.output, hb.size, fun b _ hl => hb.block b (by omega)⟩

theorem Quiet.below {B n : Nat} {S : Nat → Prop} {a w w2 : World} (h : Below n a w) (hq : Quiet B S w w2) (hB : n ≤ B) (hn : n ≤ w.heap.size) : Below n a w2 :=
  h.trans ⟨hq.os, hq.tape, hq.output, hq.size, fun b hb => hq.block b (.inl (by omega)) (by omega)⟩
theorem Quiet.at_ {B : Nat} {S : Nat → Prop} {w w2 : World} (hq : Quiet B S w w2) {b : Nat} {o : Obj} (h : w.heap[b]? = some o) (hb : b < B ∨ S b) : w2.heap[b]? = some o :=
  (hq.block b hb (Array.getElem?_eq_some_iff.1 h).1).trans h
def Stays (B : Nat) (J : (Nat → Prop) → World → Prop) : Prop := ∀ S W W2, J S W → Quiet B S W W2 → J S W2

structure Upd (B : Nat) (S S' : Nat → Prop) (W W2 : World) : Prop where
  size : W.heap.size ≤ W2.heap.size
  block : ∀ b, B ≤ b → b < W.heap.size → ¬ S b → W2.heap[b]? = W.heap[b]? ∧ ¬ S' b

theorem Upd.refl (B : Nat) (S : Nat → Prop) (W : World) : Upd B S S W W := ⟨Nat.le_refl _, fun _ _ _ hs => ⟨rfl, hs⟩⟩
theorem Upd.trans {B : Nat} {S S' S'' : Nat → Prop} {a b c : World} (h : Upd B S S' a b) (k : Upd B S' S'' b c) : Upd B S S'' a c :=
  ⟨Nat.le_trans h.size k.size, fun i hB hl hs => by
    obtain ⟨h1, h2⟩ := h.block i hB hl hs
    obtain ⟨k1, k2⟩ := k.block i hB (Nat.lt_of_lt_of_le hl h.size) h2
    exact ⟨k1.trans h1, k2⟩⟩
theorem Upd.alloc {B : Nat} {S S' : Nat → Prop} {a w : World} (h : Upd B S S' a w) (o : Obj) : Upd B S S' a (w.alloc o) :=
  h.trans ⟨by simp, fun b _ hl hs => ⟨Below.heap_alloc _ _ _ hl, hs⟩⟩
theorem Upd.drew {B : Nat} {S S' : Nat → Prop} {a w : World} (h : Upd B S S' a w) : Upd B S S' a w.drew := ⟨h.size, h.block⟩
theorem Upd.drewN {B : Nat} {S S' : Nat → Prop} {a w : World} (h : Upd B S S' a w) (n : Nat) : Upd B S S' a (w.drewN n) := ⟨h.size, h.block⟩
theorem Upd.setBox {B : Nat} {S S' : Nat → Prop} {a w : World} (h : Upd B S S' a w) {p : Addr} (hp : p.block < B) (u : Value) : Upd B S S' a (w.setCell p u) :=
  h.trans ⟨by simp [World.setCell], fun b hB _ hs => ⟨Below.heap_setCell _ _ _ _ (by omega), hs⟩⟩
theorem Upd.of_below {B n : Nat} {S S' : Nat → Prop} {a w w2 : World} (h : Upd B S S' a w) (hb : Below n w w2) (hn : w.heap.size ≤ n) : Upd B S S' a w2 :=
  h.trans ⟨hb.size, fun b _ hl hs => ⟨hb.block b (by omega), hs⟩⟩
theorem Upd.grown {B : Nat} {S S' : Nat → Prop} {a w w2 : World} {row : Option Nat} (h : Upd B S S' a w) (hg : w.grownBy w2 row) (hr : ∀ r, row = some r → S' r) : Upd B S S' a w2 :=
  h.trans ⟨hg.size, fun b _ hl hs => ⟨hg.block b hl (fun e => hs (hr b e.symm)), hs⟩⟩

variable {P : Program}

theorem putObj_quiet {B : Nat} {S : Nat → Prop} (W : World) (l : Nat) (o : Obj) (hB : B ≤ l) (hS : ¬ S l) : Quiet B S W (W.putObj l o) :=
  ⟨rfl, rfl, rfl, by simp, fun b hb _ => World.putObj_heap_other (fun e => by subst e; rcases hb with hb | hb; omega; exact hS hb)⟩
theorem in_append {F : Fence} {n : Nat} (w : World) {ops : Array Oper} {rest : List Oper} {o : Oper} {a : Act} {Q : Exit → Act → World → Prop}
    (hg : o.guard = none) (s x : Operand) (t : TypeId) (hop : o.op = Op.call { callee := Callee.builtin Builtin.append, args := #[s, x], argTypes := #[t, t] })
    (base : Nat) (e : TypeId) (i : TypeInfo) (z : Value) (size bytes : Nat) (h1 : P.underlying t = some (.slice e)) (h2 : P.info? e = some i) (h3 : i.zero = some z) (h4 : i.size = size) (h5 : i.bytes = bytes) (h6 : z.cells.size = size) (h7 : 0 < size)
    (v : Value) (k : Nat) (xs : List Value) (hs : a.eval s = v) (hown : w.ownsRow base e size v k xs) (ad : Addr) (m c : Nat) (news : List Value) (hx : a.eval x = .slice (some ad) m c) (hn : news.length = m * size)
    (hc : ∀ j u, news[j]? = some u → w.cell? (ad.add j) = some u) (h1c : ∀ u ∈ news, u.oneCell' = true) (hm : 0 < m) (b1 : k + m ≤ maxLen) (b2 : (k + m) * bytes ≤ 140737488355328) (b3 : base ≤ w.heap.size)
    (hK : ∀ g cap w', w'.ownsRow base e size (.slice (some ⟨g, 0, none⟩) (k + m) cap) (k + m) (xs ++ news) → w.grownBy w' v.ownBlock → (v.ownBlock = some g ∨ w.heap.size ≤ g) → g < w'.heap.size → wpListIn F n P ops Q rest (a.put o.dst (.slice (some ⟨g, 0, none⟩) (k + m) cap)) w') :
    wpListIn F n P ops Q (o :: rest) a w := by
  refine wpListIn_plain hg fun K hK' => ?_
  obtain ⟨g, cap, w', hrun, r1, r2, r3, r4⟩ := run_append_lies (P := P) w t o.type base e i z size bytes h1 h2 h3 h4 h5 h6 h7 v k xs hown ad m c news hn hc h1c hm b1 b2 b3 w.heap.size rfl
  unfold Oper.wpIn
  refine ⟨?_, ?_⟩
  · simp [Oper.about, hop, resolve, Target.leads, Sem.run_pure]
  · rw [Oper.semAt_plain F _ _ (by rw [hop]; intro c hc'; cases hc')]
    simp [execOp, hop, resolve, invoke, builtin, hs, hx, hrun, Result.andThen]
    exact hK' _ _ (hK g cap w' r1 r2 (r3.imp id (fun h => by omega)) r4)

theorem upd_append {B : Nat} {v : Value} {g k cap : Nat} {W w1 w2 : World} {b : Nat} {u : Value} (hb : b < B) (h1 : Upd B (OwnOf v) (OwnOf v) W w1) (hg : w1.grownBy w2 v.ownBlock) (hat : v.ownBlock = some g ∨ w1.heap.size ≤ g) :
    Upd B (OwnOf v) (OwnOf (.slice (some ⟨g, 0, none⟩) k cap)) W (w2.setCell ⟨b, 0, none⟩ u) := by
  have h2 : Upd B (OwnOf v) (OwnOf (.slice (some ⟨g, 0, none⟩) k cap)) W w2 := by
    refine ⟨Nat.le_trans h1.size hg.size, fun i hB hl hs => ?_⟩
    obtain ⟨g1, g2⟩ := h1.block i hB hl hs
    refine ⟨(hg.block i (Nat.lt_of_lt_of_le hl h1.size) (fun e => hs e.symm)).trans g1, fun e => ?_⟩
    have e' : g = i := by simpa [OwnOf, Value.ownBlock] using e
    subst e'
    rcases hat with h | h
    · exact hs h
    · have := h1.size
      omega
  exact h2.setBox hb u
open Go Go.RowKit

theorem owns_form {w : World} {base : Nat} {e : TypeId} {sz : Nat} {v : Value} {n : Nat} {xs : List Value} (h : w.ownsRow base e sz v n xs) : ∃ a c, v = .slice a n c := by
  rcases h.2 with ⟨h1, h2⟩ | ⟨g, cap, cur, hv, _⟩
  · exact ⟨none, 0, by rw [h1, h2]⟩
  · exact ⟨_, _, hv⟩
variable {P : Program}
theorem rows_in {row : String} {args : Array Value} {w : World} {R : Value → World → Prop} {r : Nat} (h : Rows P row args w R) : RowsIn (Fence.wide.inRound r) 0 P row args w R :=
  fun c cs _ => let ⟨v, w2, hr, hs⟩ := h c cs; ⟨v, w2, hr, (stepsIn_wide (P := P)).2 hs⟩

theorem opsIn_of_ops {ops : Array Oper} {Q : Exit → Act → World → Prop} {r : Nat} (hQ : ∀ a w, ¬ Q .outgrown a w) (hd : ∀ (i : Nat) (o : Oper), ops[i]? = some o → ∀ c, o.op ≠ .defer c) :
    ∀ (l : List Nat) (a : Act) (w : World), wpOps P ops Q l a w → wpOpsIn (Fence.wide.inRound r) 0 P ops Q l a w := by
  intro l
  induction l with
  | nil => exact fun a w h => h
  | cons i rest ih =>
    intro a w h
    simp only [wpOps] at h
    simp only [wpOpsIn]
    cases ho : ops[i]? with
    | none => simp only [ho] at h ⊢; exact ih a w h
    | some o =>
      simp only [ho] at h ⊢
      split at h
      · rename_i hw
        rw [if_pos hw]
        rcases h with h | ⟨_, a2, w2, h⟩
        · refine ⟨fun _ _ => trivial, ?_⟩
          rw [Oper.semAt_eq _ _ _ (hd i o ho)]
          unfold Oper.wp at h
          generalize (execOp a.eval o).run P w = res at h
          cases res with
          | ok x w2 =>
            cases x with
            | value v => exact ih _ _ h
            | skip => exact ih _ _ h
            | defer d => exact ih _ _ h
            | enter f args =>
              refine ⟨fun hx => by simp [Fence.wide, Fence.inRound] at hx, ?_⟩
              refine (CallsIn.inRound r (callsIn_wide.2 (show Calls P f args w2 _ from h))).mono ?_
              intro e w3 he
              cases e with
              | returned v => exact ih _ _ he
              | panicked ch => exact he
              | outgrown => exact he
            | row row args => exact ⟨fun hx => by simp [Fence.wide, Fence.inRound] at hx, RowsIn.mono (rows_in h) (fun v w3 hv => ih _ _ hv)⟩
            | round l f tmps asg body => exact h.elim
            | _ => exact h.elim
          | halt x w2 =>
            cases x <;> first | exact h | exact h.elim
        · exact (hQ a2 w2 h).elim
      · rename_i hw
        rw [if_neg hw]
        exact ⟨fun _ _ => trivial, ih _ _ h⟩

def noDefer (ops : Array Oper) : Bool := ops.all fun o => match o.op with | .defer _ => false | _ => true
theorem noDefer_spec {ops : Array Oper} (h : noDefer ops = true) (i : Nat) (o : Oper) (ho : ops[i]? = some o) (c : Call) : o.op ≠ .defer c := by
  intro e
  obtain ⟨hlt, he⟩ := Array.getElem?_eq_some_iff.1 ho
  have h2 := (Array.all_eq_true.1 h) i hlt
  rw [he, e] at h2
  cases h2

end Go.KP
namespace Go.Proofs.YtklgpilgalfckaaGreatDoor
open Go.RowKit Go.KP Go.KI

theorem info3 : (Tryz.prog.info? 3).map (fun i => (i.zero, i.size, i.bytes)) = some (some (.int .i64 0), 1, 8) := by kernel_rfl
def icells (l : List Nat) : List Value := l.map fun (n : Nat) => Value.int .i64 (n : Int)
theorem icells_len (l : List Nat) : (icells l).length = l.length := by simp [icells]
theorem icells_append (a b : List Nat) : icells (a ++ b) = icells a ++ icells b := by simp [icells]
theorem icells_at {l : List Nat} {i : Nat} (h : i < l.length) : (icells l)[i]? = some (.int .i64 (lat l i)) := by
  unfold icells
  rw [List.getElem?_map, lat_some h]
  rfl
theorem icells_take (l : List Nat) (n : Nat) : icells (l.take n) = (icells l).take n := by simp [icells, List.map_take]
def LimbAt (B : Nat) (w : World) (v : Value) (l : List Nat) : Prop := SlAt B w 1 v l.length (icells l)
theorem sl_form {B : Nat} {w : World} {sz : Nat} {v : Value} {n : Nat} {xs : List Value} (h : SlAt B w sz v n xs) : ∃ a c, v = .slice a n c := by
  rcases h.2 with ⟨a, c, h1, h2⟩ | ⟨b, o, cap, h1, _⟩
  · exact ⟨a, c, by rw [h1, h2]⟩
  · exact ⟨_, _, h1⟩
theorem LimbAt.form {B : Nat} {w : World} {v : Value} {l : List Nat} (h : LimbAt B w v l) : ∃ a c, v = .slice a l.length c := sl_form h
theorem LimbAt.below {B n0 : Nat} {w w2 : World} {v : Value} {l : List Nat} (h : LimbAt B w v l) (hb : Below n0 w w2) (hB : B ≤ n0) : LimbAt B w2 v l := SlAt.below h hb hB
theorem LimbAt.mono {B B2 : Nat} {w : World} {v : Value} {l : List Nat} (h : LimbAt B w v l) (hB : B ≤ B2) : LimbAt B2 w v l := SlAt.mono h hB
theorem LimbAt.nil (B : Nat) (w : World) : LimbAt B w (.slice none 0 0) [] := SlAt.nil B w 1
theorem LimbAt.cases {B : Nat} {w : World} {v : Value} {l : List Nat} (h : LimbAt B w v l) :
    (∃ a c, v = .slice a 0 c ∧ l = []) ∨ ∃ b o cap, v = .slice (some ⟨b, o, none⟩) l.length cap ∧ b < B ∧ ∀ i, i < l.length → w.cell? ⟨b, o + i, none⟩ = some (.int .i64 (lat l i)) := by
  rcases h.2 with ⟨a, c, h1, h2⟩ | ⟨b, o, cap, hv, hlt, hc⟩
  · exact .inl ⟨a, c, h1, List.eq_nil_of_length_eq_zero h2⟩
  · exact .inr ⟨b, o, cap, hv, hlt, fun i hi => hc i _ (icells_at hi)⟩
def OwnL (base : Nat) (w : World) (v : Value) (l : List Nat) : Prop := w.ownsRow base 3 1 v l.length (icells l)
theorem OwnL.at_ {base : Nat} {w : World} {v : Value} {l : List Nat} (h : OwnL base w v l) : LimbAt w.heap.size w v l := SlAt.of_owns h
theorem OwnL.form {base : Nat} {w : World} {v : Value} {l : List Nat} (h : OwnL base w v l) : ∃ a c, v = .slice a l.length c ∧ l.length ≤ c ∧ c ≤ maxLen := by
  rcases h.2 with ⟨h1, h2⟩ | ⟨g, cap, cur, hv, _, _, h3, h4, _⟩
  · exact ⟨none, 0, by rw [h1, h2], by omega, by unfold maxLen; omega⟩
  · exact ⟨_, _, hv, h3, h4⟩
theorem OwnL.mono {base base2 : Nat} {w : World} {v : Value} {l : List Nat} (h : OwnL base w v l) (hb : base2 ≤ base) : OwnL base2 w v l := owns_mono h hb
theorem OwnL.nil (base : Nat) (w : World) : OwnL base w (.slice none 0 0) [] := World.ownsRow_nil _ _ _ _
theorem OwnL.cut {base : Nat} {w : World} {a : Option Addr} {n c : Nat} {l : List Nat} (h : OwnL base w (.slice a n c) l) {k : Nat} (hk : k ≤ l.length) : OwnL base w (.slice a k c) (l.take k) := by
  have hl : (l.take k).length = k := by rw [List.length_take]; exact Nat.min_eq_left hk
  refine ⟨by rw [icells_len]; omega, ?_⟩
  rcases h.2 with ⟨h1, h2⟩ | ⟨g, cap, cur, hv, h1, h2, h3, h4, h5, h6⟩
  · injection h1 with h1 h3 h4
    left
    refine ⟨?_, by omega⟩
    rw [h1, h4, show k = 0 by omega]
  · injection hv with hv1 hv2 hv3
    right
    refine ⟨g, cap, cur, by rw [hv1, hv3, hl], h1, h2, by omega, h4, h5, ?_⟩
    rw [icells_take, ← h6, List.take_take, hl, Nat.mul_one, Nat.mul_one, Nat.min_eq_left hk]
theorem OwnL.keep {base : Nat} {w w2 : World} {v : Value} {l : List Nat} (h : OwnL base w v l) (hb : Below w.heap.size w w2) : OwnL base w2 v l := owns_stay h (fun r hr => hb.block r (owns_lt h r hr))
theorem limb_any (v : Value) (l : List Nat) (i : Nat) (B : Nat) (w : World) (h : LimbAt B w v l) (hi : i ≤ 1000000) :
    Calls Tryz.prog 221 #[v, .int .i64 i] w fun e w' => e = .returned (.int .i64 (lat l i)) ∧ w = w' := by
  have i0 : (0 : Int) ≤ (i : Int) := by omega
  rcases h.cases with ⟨a, c, rfl, rfl⟩ | ⟨b, o, cap, rfl, hb, hc⟩
  · have hlt : ((i : Int) < 0) = False := eq_false (by omega)
    have hl : lat [] i = 0 := rfl
    rw [hl]
    go_enter Tryz.func221, Tryz.ntmps221
    go_wp2
    go_ret
    exact ⟨rfl, rfl⟩
  · by_cases hlt : i < l.length
    · have hcell := hc i hlt
      have hlti : (i : Int) < (l.length : Int) := by omega
      clear hc h
      go_enter Tryz.func221, Tryz.ntmps221
      go_wp2
      go_ret
      exact ⟨rfl, rfl⟩
    · have hlti : ¬ (i : Int) < (l.length : Int) := by omega
      have hl := lat_past (l := l) (i := i) (by omega)
      rw [hl]
      clear hc h hl
      go_enter Tryz.func221, Tryz.ntmps221
      go_wp2
      go_ret
      exact ⟨rfl, rfl⟩
theorem trimTo_z {l : List Nat} {m : Nat} (h : lat l m = 0) : trimTo l (m + 1) = trimTo l m := if_pos h
theorem trimTo_p {l : List Nat} {m : Nat} (h : ¬ lat l m = 0) : trimTo l (m + 1) = m + 1 := if_neg h
theorem trim_any (a : Option Addr) (c : Nat) (l : List Nat) (B : Nat) (w : World) (h : LimbAt B w (.slice a l.length c) l) (hc : l.length ≤ c) (hl : l.length ≤ 1000000) :
    Calls Tryz.prog 215 #[.slice a l.length c] w fun e w' => e = .returned (.slice a (trimTo l l.length) c) ∧ w = w' := by
  have H := hide h
  obtain ⟨n, hn⟩ : ∃ n, n = l.length := ⟨_, rfl⟩
  rw [← hn] at hc hl ⊢
  have HN := hide hn
  clear h hn
  go_enter Tryz.func215, Tryz.ntmps215
  go_wp2_with fail
  go_loopw [0] (fun t wr => ∃ k : Nat, k ≤ n ∧ t = .slice a k c ∧ Hid (trimTo l k = trimTo l n) ∧ wr = w) (fun t _ => match t with | .slice _ k _ => k | _ => 0)
  case atStart => exact ⟨n, Nat.le_refl _, rfl, rfl, rfl⟩
  case round =>
    obtain ⟨k, hk, rfl, ht, rfl⟩ := hrel
    rcases Nat.eq_zero_or_pos k with h0 | h0
    · have hq : (0 < k) = False := eq_false (by omega)
      have HT := hide (show trimTo l n = k by rw [← ht.out, h0]; rfl)
      clear h0 ht
      go_wp2_with fail
      go_ret
      rw [HT.out]
      exact ⟨rfl, rfl⟩
    · rcases H.out.cases with ⟨a0, c0, hv, hnil⟩ | ⟨b, o, cap, hv, hb, hcl⟩
      · exfalso
        have := HN.out
        rw [hnil] at this
        simp at this
        omega
      · have hcell := hcl (k - 1) (by rw [← HN.out]; omega)
        injection hv with hv1 hv2 hv3
        subst hv1; subst hv3
        obtain ⟨m, hm⟩ : ∃ m, k = m + 1 := ⟨k - 1, by omega⟩
        subst hm
        rw [Nat.add_sub_cancel] at hcell
        have hq : decide (((m + 1 : Nat) : Int) > 0) = true := by simp
        have hm1 : ((m + 1 : Nat) : Int) - 1 = (m : Int) := by omega
        by_cases hz : lat l m = 0
        · have hz1 : ((lat l m : Int) == 0) = true := by rw [hz]; rfl
          have HT := hide (show trimTo l m = trimTo l n from (trimTo_z hz).symm.trans ht.out)
          clear hz ht hcl hv2
          go_wp2_with fail
          go_roundw
          case rel => exact ⟨m, by omega, rfl, HT, trivial⟩
          case measure => simp
        · have hz1 : ((lat l m : Int) == 0) = false := by simpa using hz
          have HT := hide (show trimTo l n = m + 1 from ht.out.symm.trans (trimTo_p hz))
          clear hz ht hcl hv2
          go_wp2_with fail
          go_ret
          rw [HT.out]
          exact ⟨rfl, rfl⟩
def plusP (x y c : Nat) : Nat × Nat := ((x + y + c) % 1000000000, (x + y + c) / 1000000000)
def minusP (x y c : Nat) : Nat × Nat := if y + c ≤ x then (x - (y + c), 0) else (x + 1000000000 - (y + c), 1)
theorem plus_any (x y c : Nat) (w : World) (hx : x < 1000000000) (hy : y < 1000000000) (hc : c ≤ 1) :
    Calls Tryz.prog 198 #[.int .i64 x, .int .i64 y, .int .i64 c] w fun e w' => e = .returned (.tuple #[.int .i64 (plusP x y c).1, .int .i64 (plusP x y c).2]) ∧ w = w' := by
  have x0 : (0 : Int) ≤ (x : Int) := by omega
  have y0 : (0 : Int) ≤ (y : Int) := by omega
  have c0 : (0 : Int) ≤ (c : Int) := by omega
  have x1 : (x : Int) < 1000000000 := by omega
  have y1 : (y : Int) < 1000000000 := by omega
  have c1 : (c : Int) ≤ 1 := by omega
  go_enter Tryz.func198, Tryz.ntmps198
  go_wp2
  go_ret2
  refine ⟨?_, rfl⟩
  have e1 : (((plusP x y c).1 : Nat) : Int) = ((x : Int) + y + c) % 1000000000 := by unfold plusP; simp
  have e2 : (((plusP x y c).2 : Nat) : Int) = ((x : Int) + y + c) / 1000000000 := by unfold plusP; simp
  rw [e1, e2]
  rfl
theorem minus_any (x y c : Nat) (w : World) (hx : x < 1000000000) (hy : y < 1000000000) (hc : c ≤ 1) :
    Calls Tryz.prog 217 #[.int .i64 x, .int .i64 y, .int .i64 c] w fun e w' => e = .returned (.tuple #[.int .i64 (minusP x y c).1, .int .i64 (minusP x y c).2]) ∧ w = w' := by
  have x0 : (0 : Int) ≤ (x : Int) := by omega
  have y0 : (0 : Int) ≤ (y : Int) := by omega
  have c0 : (0 : Int) ≤ (c : Int) := by omega
  have x1 : (x : Int) < 1000000000 := by omega
  have y1 : (y : Int) < 1000000000 := by omega
  have c1 : (c : Int) ≤ 1 := by omega
  by_cases h : y + c ≤ x
  · have hq : (c : Int) ≤ (x : Int) - y := by omega
    have HE := hide (show minusP x y c = (x - (y + c), 0) by unfold minusP; rw [if_pos h])
    go_enter Tryz.func217, Tryz.ntmps217
    go_wp2
    go_ret2
    refine ⟨?_, rfl⟩
    have e1 : (((minusP x y c).1 : Nat) : Int) = (x : Int) - y - c := by
      rw [HE.out]
      show ((x - (y + c) : Nat) : Int) = (x : Int) - y - c
      omega
    have e2 : (((minusP x y c).2 : Nat) : Int) = 0 := by rw [HE.out]; rfl
    rw [e1, e2]
    rfl
  · have hq : ((c : Int) ≤ (x : Int) - y) = False := eq_false (by omega)
    have HE := hide (show minusP x y c = (x + 1000000000 - (y + c), 1) by unfold minusP; rw [if_neg h])
    go_enter Tryz.func217, Tryz.ntmps217
    go_wp2
    go_ret2
    refine ⟨?_, rfl⟩
    have e1 : (((minusP x y c).1 : Nat) : Int) = (x : Int) - y - c + 1000000000 := by
      rw [HE.out]
      show ((x + 1000000000 - (y + c) : Nat) : Int) = (x : Int) - y - c + 1000000000
      omega
    have e2 : (((minusP x y c).2 : Nat) : Int) = 1 := by rw [HE.out]; rfl
    rw [e1, e2]
    rfl
open Go.RowKit Go.KP Go.KI Go.Shelf

abbrev P10 (B : Nat) (w : World) : Prop := Lib.TabBelow Tryz.prog B w "internal/strconv.uint64pow10" .u64 Lib.pow10Tab
theorem P10.mono {B B2 : Nat} {w : World} (h : P10 B w) (hB : B ≤ B2) : P10 B2 w := fun w' hb => h w' (hb.mono hB)
theorem below_grow (w : World) (n : Nat) (os : Array Obj) : Below w.heap.size w (Go.Sort.grow (w.drewN n) os) :=
  ⟨rfl, rfl, rfl, by show w.heap.size ≤ (w.heap ++ os).size; rw [Array.size_append]; omega, fun j hj => by
    show (w.heap ++ os)[j]? = w.heap[j]?
    rw [Array.getElem?_append_left hj]⟩
def strB (l : List UInt8) : ByteArray := ⟨l.toArray⟩
theorem strB_list (l : List UInt8) : (strB l).data.toList = l := by simp [strB]
theorem strB_of (s : ByteArray) : strB s.data.toList = s := rfl
theorem strB_size (l : List UInt8) : (strB l).size = l.length := by
  show l.toArray.size = l.length
  simp
theorem bytes_len (s : ByteArray) : s.data.toList.length = s.size := by rw [Array.length_toList]; rfl
theorem bytes_eq {s t : ByteArray} (h : s.data.toList = t.data.toList) : s = t := by
  rw [← strB_of s, h, strB_of]
theorem itoa_any (n : Int) (h0 : -9223372036854775808 ≤ n) (h1 : n ≤ 9223372036854775807) (B : Nat) (w : World) (hT : P10 B w) :
    Calls Tryz.prog 123 #[.int .i64 n] w fun e w' => e = .returned (.string (strB (Lib.itoa n))) ∧ Below w.heap.size w w' :=
  (Tryz.strconv_Itoa n h0 h1 w hT.here).mono fun e w' ⟨h, k, os, hw⟩ => ⟨h, by rw [hw]; exact below_grow w k os⟩
theorem trimPrefix_digs (l : List UInt8) : Lib.trimPrefix l [45] = digs l := by
  cases l with
  | nil => rfl
  | cons c r =>
    by_cases h : c = 45
    · subst h
      simp [Lib.trimPrefix, Lib.hasPrefix, digs, List.isPrefixOf]
    · simp [Lib.trimPrefix, Lib.hasPrefix, digs, List.isPrefixOf, h, Ne.symm h]
theorem trimPrefix_any (s : ByteArray) (w : World) :
    Calls Tryz.prog 120 #[.string s, .string ⟨#[45]⟩] w fun e w' => e = .returned (.string (strB (digs s.data.toList))) ∧ w = w' :=
  (Tryz.strings_TrimPrefix s ⟨#[45]⟩ w).mono fun e w' ⟨h, hw⟩ => ⟨by rw [h, ← trimPrefix_digs]; rfl, hw.symm⟩
theorem cutPrefix_any (s : ByteArray) (w : World) :
    Calls Tryz.prog 213 #[.string s, .string ⟨#[45]⟩] w fun e w' => e = .returned (.tuple #[.string (strB (digs s.data.toList)), .bool (decide (s.data.toList.head? = some 45))]) ∧ w = w' :=
  (Tryz.strings_CutPrefix s ⟨#[45]⟩ w).mono fun e w' ⟨h, hw⟩ => ⟨by
    have e1 : Lib.hasPrefix s.data.toList (⟨#[45]⟩ : ByteArray).data.toList = decide (s.data.toList.head? = some 45) := by
      show Lib.hasPrefix s.data.toList [45] = _
      cases s.data.toList with
      | nil => rfl
      | cons c r =>
        by_cases h : c = 45
        · subst h
          simp [Lib.hasPrefix, List.isPrefixOf]
        · simp [Lib.hasPrefix, List.isPrefixOf, h, Ne.symm h]
    rw [h, e1, ← trimPrefix_digs]
    rfl, hw.symm⟩
def cutset : List UInt8 := [48, 49, 50, 51, 52, 53, 54, 55, 56, 57]
theorem cutset_dg (c : UInt8) : cutset.contains c = isDg c := by
  have h : ∀ n : Fin 256, cutset.contains (UInt8.ofNat n.val) = isDg (UInt8.ofNat n.val) := by decide +kernel
  have := h ⟨c.toNat, c.toNat_lt⟩
  simpa using this
theorem dropW_nil {p : UInt8 → Bool} : ∀ {l : List UInt8}, l.dropWhile p = [] ↔ l.all p = true := by
  intro l
  induction l with
  | nil => simp
  | cons a r ih =>
    by_cases h : p a = true
    · rw [List.dropWhile_cons_of_pos h, ih]
      simp [h]
    · rw [List.dropWhile_cons_of_neg h]
      simp [h]
theorem trimS_nil (l : List UInt8) : Lib.trimS l cutset = [] ↔ l.all isDg = true := by
  have hp : (fun x => cutset.contains x) = isDg := funext cutset_dg
  unfold Lib.trimS Lib.trimLeftS Lib.trimRightS
  rw [hp, dropW_nil, List.all_reverse]
  constructor
  · intro h
    cases hd : l.reverse.dropWhile isDg with
    | nil => rw [dropW_nil, List.all_reverse] at hd; exact hd
    | cons a r =>
      exfalso
      rw [hd] at h
      simp only [List.all_cons, Bool.and_eq_true] at h
      have key : ∀ l : List UInt8, ∀ a r, l.dropWhile isDg = a :: r → isDg a = false := by
        intro l
        induction l with
        | nil => intro a r h; simp at h
        | cons x t ih =>
          intro a r h
          by_cases hx : isDg x = true
          · rw [List.dropWhile_cons_of_pos hx] at h
            exact ih a r h
          · rw [List.dropWhile_cons_of_neg hx] at h
            injection h with h1 h2
            rw [← h1]
            simpa using hx
      rw [key _ _ _ hd] at h
      exact absurd h.1 (by simp)
  · intro h
    have h2 : l.reverse.dropWhile isDg = [] := by rw [dropW_nil, List.all_reverse]; exact h
    rw [h2]
    rfl
theorem trimDg_any (s : ByteArray) (w : World) (hs : s.size ≤ 9223372036854775807) :
    Calls Tryz.prog 232 #[.string s, .string ⟨#[48, 49, 50, 51, 52, 53, 54, 55, 56, 57]⟩] w fun e w' => e = .returned (.string (strB (Lib.trimS s.data.toList cutset))) ∧ Below w.heap.size w w' :=
  (Any.strings_Trim_laid Tryz.lays160 (by kernel_rfl) s ⟨#[48, 49, 50, 51, 52, 53, 54, 55, 56, 57]⟩ w hs (by decide) (by
    intro j b h
    have hm : b ∈ cutset := List.mem_of_getElem? h
    have h2 : cutset.contains b = true := by simpa using hm
    rw [cutset_dg] at h2
    have := isDg_iff.1 h2
    omega)).mono fun e w' ⟨h, hw⟩ => ⟨h, hw⟩
theorem repeat_any (s : ByteArray) (c : Nat) (w : World) (hc : c ≤ 1000000) (hs : s.size ≤ 1000) :
    Calls Tryz.prog 195 #[.string s, .int .i64 c] w fun e w' => e = .returned (.string (strB (Lib.repeatL s.data.toList c))) ∧ Below w.heap.size w w' :=
  Tryz.strings_Repeat s c w (by omega) (by have : s.size * c ≤ 1000 * 1000000 := Nat.mul_le_mul hs hc; omega)

theorem empty_yes {s : ByteArray} (h : s.data.toList = []) : s.toList.isEmpty = true := by
  rw [ByteArray.toList_eq, h]
  rfl
theorem empty_no {s : ByteArray} (h : s.data.toList ≠ []) : s.toList.isEmpty = false := by
  rw [ByteArray.toList_eq]
  cases hx : s.data.toList with
  | nil => exact absurd hx h
  | cons a r => rfl
theorem bytes_head {s : ByteArray} (h : s.data.toList ≠ []) : ∃ hp : 0 < s.size, s.data.toList.head? = some s[0] := by
  have hp : 0 < s.size := by
    rw [← bytes_len]
    exact List.length_pos_iff.2 h
  refine ⟨hp, ?_⟩
  rw [List.head?_eq_getElem?]
  have h1 : s.data.toList[0]? = some s.data[0] := by simp
  exact h1
theorem check_any (s : ByteArray) (hs : s.size ≤ 1000000) (w : World) :
    Calls Tryz.prog 193 #[.string s] w (Ret w (.int .i64 (chkI s.data.toList))) := by
  obtain ⟨d, hd⟩ : ∃ d, d = strB (digs s.data.toList) := ⟨_, rfl⟩
  have hdl : d.data.toList = digs s.data.toList := by rw [hd]; exact strB_list _
  have hds : d.size ≤ 1000000 := by
    rw [← bytes_len, hdl]
    have : (digs s.data.toList).length ≤ s.data.toList.length := by
      cases s.data.toList with
      | nil => exact Nat.le_refl _
      | cons c r =>
        simp only [digs]
        split <;> simp
    rw [bytes_len] at this
    omega
  have HTP := hide (trimPrefix_any s w)
  rw [← hd] at HTP
  have HC := hide (show chkI s.data.toList = if d.data.toList = [] ∨ (d.data.toList.head? = some 48 ∧ s.data.toList ≠ [48]) ∨ ¬ d.data.toList.all isDg = true then 11 else if 300 < d.data.toList.length then 4 else 0 by rw [hdl]; rfl)
  have HTR := hide (trimDg_any d w (by omega))
  have HS := hide (show s.data.toList = [48] → d.data.toList = [48] by intro h; rw [hdl, h]; rfl)
  clear hd hdl
  by_cases h0 : d.data.toList = []
  · have hemp := empty_yes h0
    have HE := hide (show chkI s.data.toList = 11 by rw [HC.out, if_pos (.inl h0)])
    clear h0
    go_enter Tryz.func193, Tryz.ntmps193
    go_wp2_with fail
    refine HTP.out.mono ?_
    rintro e w1 ⟨rfl, rfl⟩
    go_wp2_with fail
    go_ret
    rw [HE.out]
    exact ⟨rfl, Below.refl _ _⟩
  have hemp := empty_no h0
  obtain ⟨hp, hh⟩ := bytes_head h0
  have hp0 : (0 : Int) < (d.size : Int) := by omega
  by_cases h1 : d.data.toList.head? = some 48 ∧ s.data.toList ≠ [48]
  · have h48 : ((d[0].toNat : Int) == 48) = true := by
      rw [hh] at h1
      injection h1.1 with h2
      rw [h2]
      rfl
    have hne : (s.toList == [48]) = false := by
      rw [ByteArray.toList_eq]
      simpa using h1.2
    have HE := hide (show chkI s.data.toList = 11 by rw [HC.out, if_pos (.inr (.inl h1))])
    clear h0 h1 hh
    go_enter Tryz.func193, Tryz.ntmps193
    go_wp2_with fail
    refine HTP.out.mono ?_
    rintro e w1 ⟨rfl, rfl⟩
    go_wp2_with fail
    go_ret
    rw [HE.out]
    exact ⟨rfl, Below.refl _ _⟩
  have hway : (((d[0].toNat : Int) == 48) = false) ∨ (((d[0].toNat : Int) == 48) = true ∧ (s.toList == [48]) = true) := by
    by_cases h48 : d[0] = 48
    · right
      refine ⟨by rw [h48]; rfl, ?_⟩
      rw [ByteArray.toList_eq]
      have : s.data.toList = [48] := Decidable.byContradiction fun h => h1 ⟨by rw [hh, h48], h⟩
      rw [this]
      rfl
    · left
      have : d[0].toNat ≠ 48 := fun h => h48 (UInt8.toNat_inj.1 h)
      simp
      omega
  obtain ⟨tr, htr⟩ : ∃ tr, tr = strB (Lib.trimS d.data.toList cutset) := ⟨_, rfl⟩
  rw [← htr] at HTR
  have htl : tr.data.toList = Lib.trimS d.data.toList cutset := by rw [htr]; exact strB_list _
  by_cases hall : d.data.toList.all isDg = true
  · have htn : tr.data.toList = [] := by rw [htl]; exact (trimS_nil _).2 hall
    have het : tr.toList.isEmpty = true := empty_yes htn
    have HE := hide (show chkI s.data.toList = if 300 < d.size then 4 else 0 by
      rw [HC.out, if_neg (fun h => by
        rcases h with h | h | h
        · exact h0 h
        · exact h1 h
        · exact h hall), bytes_len])
    clear h0 h1 hh htr htl hall htn
    rcases hway with h48 | ⟨h48, hne⟩
    all_goals
      by_cases hl : 300 < d.size
      · have hl2 : (300 : Int) < (d.size : Int) := by omega
        have HE2 := hide (HE.out.trans (if_pos hl))
        go_enter Tryz.func193, Tryz.ntmps193
        go_wp2_with fail
        refine HTP.out.mono ?_
        rintro e w1 ⟨rfl, rfl⟩
        go_wp2_with fail
        refine HTR.out.mono ?_
        rintro e w1 ⟨rfl, hb⟩
        have HB := hide hb
        clear hb
        go_wp2_with fail
        go_ret
        rw [HE2.out]
        exact ⟨rfl, HB.out⟩
      · have hl2 : ¬ (300 : Int) < (d.size : Int) := by omega
        have HE2 := hide (HE.out.trans (if_neg hl))
        go_enter Tryz.func193, Tryz.ntmps193
        go_wp2_with fail
        refine HTP.out.mono ?_
        rintro e w1 ⟨rfl, rfl⟩
        go_wp2_with fail
        refine HTR.out.mono ?_
        rintro e w1 ⟨rfl, hb⟩
        have HB := hide hb
        clear hb
        go_wp2_with fail
        go_ret
        rw [HE2.out]
        exact ⟨rfl, HB.out⟩
  · have htn : tr.data.toList ≠ [] := by rw [htl]; exact fun h => hall ((trimS_nil _).1 h)
    have het : tr.toList.isEmpty = false := empty_no htn
    have HE := hide (show chkI s.data.toList = 11 by rw [HC.out, if_pos (.inr (.inr hall))])
    clear h0 h1 hh htr htl hall htn
    rcases hway with h48 | ⟨h48, hne⟩
    all_goals
      go_enter Tryz.func193, Tryz.ntmps193
      go_wp2_with fail
      refine HTP.out.mono ?_
      rintro e w1 ⟨rfl, rfl⟩
      go_wp2_with fail
      refine HTR.out.mono ?_
      rintro e w1 ⟨rfl, hb⟩
      have HB := hide hb
      clear hb
      go_wp2_with fail
      go_ret
      rw [HE.out]
      exact ⟨rfl, HB.out⟩
def bothI (a b : List UInt8) : Int := if chkI a = 0 then chkI b else chkI a
theorem both_any (s t : ByteArray) (hs : s.size ≤ 1000000) (ht : t.size ≤ 1000000) (w : World) :
    Calls Tryz.prog 167 #[.string s, .string t] w (Ret w (.int .i64 (bothI s.data.toList t.data.toList))) := by
  have H1 := hide (check_any s hs w)
  by_cases h : chkI s.data.toList = 0
  · have hq : (chkI s.data.toList != 0) = false := by simp [h]
    have HE := hide (show bothI s.data.toList t.data.toList = chkI t.data.toList by unfold bothI; rw [if_pos h])
    obtain ⟨E, hE⟩ : ∃ E, E = chkI s.data.toList := ⟨_, rfl⟩
    rw [← hE] at H1 hq
    clear h hE
    go_enter Tryz.func167, Tryz.ntmps167
    go_wp2_with fail
    refine H1.out.mono ?_
    rintro e w1 ⟨rfl, hb⟩
    have HB := hide hb
    clear hb
    go_wp2_with fail
    refine (check_any t ht w1).mono ?_
    rintro e w2 ⟨rfl, hb⟩
    have HB2 := hide (HB.out.trans (hb.mono HB.out.size))
    clear hb
    go_wp2_with fail
    go_ret
    rw [HE.out]
    exact ⟨rfl, HB2.out⟩
  · have hq : (chkI s.data.toList != 0) = true := by simpa using h
    have HE := hide (show bothI s.data.toList t.data.toList = chkI s.data.toList by unfold bothI; rw [if_neg h])
    obtain ⟨E, hE⟩ : ∃ E, E = chkI s.data.toList := ⟨_, rfl⟩
    rw [← hE] at H1 hq HE
    clear h hE
    go_enter Tryz.func167, Tryz.ntmps167
    go_wp2_with fail
    refine H1.out.mono ?_
    rintro e w1 ⟨rfl, hb⟩
    have HB := hide hb
    clear hb
    go_wp2_with fail
    go_ret
    rw [HE.out]
    exact ⟨rfl, HB.out⟩
theorem atoi_valid {l : List UInt8} (h : chkI l = 0) (hl : l.length ≤ 18) : Lib.atoiAll l = .ok (valI l) := by
  obtain ⟨h1, _⟩ := chk_ok h
  have hd : ∀ (r : List UInt8), r = Lib.decDigits (valI l).natAbs → r.length ≤ 18 → ∃ c t, r = c :: t ∧ c.toNat ≠ 43 ∧ c.toNat ≠ 45 ∧ Lib.decNat r = some (valI l).natAbs := by
    intro r hr _
    cases hc : r with
    | nil => exact absurd (hr.symm.trans hc) (decDigits_ne _)
    | cons c t =>
      have h2 := isDg_iff.1 (decDigits_dg (valI l).natAbs c (by rw [← hr, hc]; simp))
      refine ⟨c, t, rfl, by omega, by omega, ?_⟩
      unfold Lib.decNat
      rw [← hc, hr, decFrom_decDigits]
      rw [← hr, hc]
      rfl
  rcases itoa_cases (valI l) with ⟨hn, h2⟩ | ⟨hn, h2⟩
  · rw [h2] at h1
    obtain ⟨c, t, hct, h3, h4, h5⟩ := hd _ rfl (by rw [h1] at hl; simp at hl; omega)
    rw [h1, Lib.atoiAll_minus, Lib.signed_short (by rw [h1] at hl; simp at hl; omega), h5, ← h2, val_itoa]
    show Lib.NumEnd.ok (-((valI l).natAbs : Int)) = _
    congr 1
    omega
  · rw [h2] at h1
    obtain ⟨c, t, hct, h3, h4, h5⟩ := hd _ rfl (by rw [← h1]; exact hl)
    have e := Lib.signless_short (l := Lib.decDigits (valI l).natAbs) (by rw [← h1]; exact hl)
    rw [h5] at e
    have e2 : Lib.atoiAll (Lib.decDigits (valI l).natAbs) = .ok ((valI l).natAbs : Int) := by
      rw [hct] at e ⊢
      rw [Lib.atoiAll_plain c t h3 h4, e]
      rfl
    rw [h1, e2, ← h2, val_itoa]
    congr 1
    omega
open Go.RowKit Go.KP Go.KI Go.Shelf

theorem atoi_any (s : ByteArray) (h : chkI s.data.toList = 0) (hl : s.size ≤ 18) (w : World) :
    Calls Tryz.prog 144 #[.string s] w fun e w' => e = .returned (.tuple #[.int .i64 (valI s.data.toList), .nilIface]) ∧ Below w.heap.size w w' := by
  refine (Tryz.strconv_Atoi_ok s (by omega) _ (atoi_valid h (by rw [bytes_len]; exact hl)) w).mono ?_
  rintro e w' ⟨he, rfl | ⟨t, rfl⟩⟩
  · exact ⟨he, Below.refl _ _⟩
  · exact ⟨he, Lib.bytesWorld_below w 5 t⟩
theorem small_yes (s t : ByteArray) (h1 : chkI s.data.toList = 0) (h2 : chkI t.data.toList = 0) (l1 : s.size ≤ 18) (l2 : t.size ≤ 18) (w : World) :
    Calls Tryz.prog 168 #[.string s, .string t, .int .i64 18] w (Ret w (.tuple #[.int .i64 (valI s.data.toList), .int .i64 (valI t.data.toList), .bool true])) := by
  have H1 := hide (atoi_any s h1 l1 w)
  have e1 : ((18 : Int) < (s.size : Int)) = False := eq_false (by omega)
  have e2 : ((18 : Int) < (t.size : Int)) = False := eq_false (by omega)
  have H2 := hide (fun w => atoi_any t h2 l2 w)
  clear h1 h2
  go_enter Tryz.func168, Tryz.ntmps168
  go_wp2_with fail
  refine H1.out.mono ?_
  rintro e w1 ⟨rfl, hb⟩
  have HB := hide hb
  clear hb H1
  go_wp2_with fail
  refine (H2.out w1).mono ?_
  rintro e w2 ⟨rfl, hb⟩
  have HB2 := hide (HB.out.trans (hb.mono HB.out.size))
  clear hb H2
  go_wp2_with fail
  go_quiet (fail)
  go_wp2_with fail
  go_ret3
  exact ⟨rfl, below_drewN HB2.out _⟩
theorem small_no (s t : ByteArray) (h : ¬ (s.size ≤ 18 ∧ t.size ≤ 18)) (w : World) :
    Calls Tryz.prog 168 #[.string s, .string t, .int .i64 18] w (Ret w (.tuple #[.int .i64 0, .int .i64 0, .bool false])) := by
  by_cases h1 : s.size ≤ 18
  · have e1 : ((18 : Int) < (s.size : Int)) = False := eq_false (by omega)
    have e2 : (18 : Int) < (t.size : Int) := by omega
    clear h
    go_enter Tryz.func168, Tryz.ntmps168
    go_wp2_with fail
    go_ret3
    exact ⟨rfl, Below.refl _ _⟩
  · have e1 : (18 : Int) < (s.size : Int) := by omega
    clear h
    go_enter Tryz.func168, Tryz.ntmps168
    go_wp2_with fail
    go_ret3
    exact ⟨rfl, Below.refl _ _⟩

def combTo (pr : Nat → Nat → Nat → Nat × Nat) (x y : List Nat) : Nat → List Nat × Nat
  | 0 => ([], 0)
  | i + 1 => ((combTo pr x y i).1 ++ [(pr (lat x i) (lat y i) (combTo pr x y i).2).1], (pr (lat x i) (lat y i) (combTo pr x y i).2).2)
def combL (pr : Nat → Nat → Nat → Nat × Nat) (x y : List Nat) : List Nat := (combTo pr x y (max x.length y.length + 1)).1
structure PairFn (f : Nat) (pr : Nat → Nat → Nat → Nat × Nat) : Prop where
  enters : ∀ args w, (callFunc f args).run Tryz.prog w = .ok (.enter f args) w
  small : ∀ x y c, x < 1000000000 → y < 1000000000 → c ≤ 1 → (pr x y c).1 < 1000000000 ∧ (pr x y c).2 ≤ 1
  calls : ∀ (x y c : Nat) (w : World), x < 1000000000 → y < 1000000000 → c ≤ 1 → Calls Tryz.prog f #[.int .i64 x, .int .i64 y, .int .i64 c] w fun e w' => e = .returned (.tuple #[.int .i64 (pr x y c).1, .int .i64 (pr x y c).2]) ∧ w = w'
theorem combTo_facts {pr : Nat → Nat → Nat → Nat × Nat} (hs : ∀ x y c, x < 1000000000 → y < 1000000000 → c ≤ 1 → (pr x y c).1 < 1000000000 ∧ (pr x y c).2 ≤ 1) {x y : List Nat} (hx : Lt 1000000000 x) (hy : Lt 1000000000 y) :
    ∀ i, (combTo pr x y i).1.length = i ∧ Lt 1000000000 (combTo pr x y i).1 ∧ (combTo pr x y i).2 ≤ 1 := by
  intro i
  induction i with
  | zero => exact ⟨rfl, fun z hz => by simp [combTo] at hz, Nat.zero_le _⟩
  | succ i ih =>
    have h := hs (lat x i) (lat y i) (combTo pr x y i).2 (lat_lt (by omega) hx i) (lat_lt (by omega) hy i) ih.2.2
    refine ⟨by simp [combTo, ih.1], fun z hz => ?_, h.2⟩
    simp only [combTo, List.mem_append, List.mem_singleton] at hz
    rcases hz with hz | hz
    · exact ih.2.1 z hz
    · rw [hz]; exact h.1
theorem plusFn : PairFn 198 plusP := ⟨enters_of Tryz.func198 (by kernel_rfl) rfl, fun x y c h1 h2 h3 => ⟨by unfold plusP; simp only; omega, by unfold plusP; simp only; omega⟩, fun x y c w h1 h2 h3 => plus_any x y c w h1 h2 h3⟩
theorem minusFn : PairFn 217 minusP := ⟨enters_of Tryz.func217 (by kernel_rfl) rfl, fun x y c h1 h2 h3 => ⟨by unfold minusP; split <;> simp only <;> omega, by unfold minusP; split <;> simp only <;> omega⟩, fun x y c w h1 h2 h3 => minus_any x y c w h1 h2 h3⟩
def LimbsRet (w : World) (l : List Nat) (e : Ending) (w2 : World) : Prop := ∃ v, e = .returned v ∧ Below w.heap.size w w2 ∧ OwnL w.heap.size w2 v l
theorem combine_any (f : Nat) (pr : Nat → Nat → Nat → Nat × Nat) (hp : PairFn f pr) (va vb : Value) (x y : List Nat) (B : Nat) (w : World) (ha : LimbAt B w va x) (hb : LimbAt B w vb y) (hB : B ≤ w.heap.size) (hx : Lt 1000000000 x) (hy : Lt 1000000000 y) (lx : x.length ≤ 100000) (ly : y.length ≤ 100000) :
    Calls Tryz.prog 197 #[va, vb, .func (.func f) #[] #[]] w (LimbsRet w (trimL (combL pr x y))) := by
  obtain ⟨a0, c0, hva⟩ := ha.form
  obtain ⟨a1, c1, hvb⟩ := hb.form
  subst hva; subst hvb
  have HA := hide ha; have HB := hide hb; have HX := hide hx; have HY := hide hy; have HP := hide hp
  have hen := hp.enters
  have HF := hide (combTo_facts hp.small hx hy)
  obtain ⟨i0, hi0, hz0, hz1, hz2⟩ := info_parts info3
  obtain ⟨n, hn⟩ : ∃ n, n = max x.length y.length + 1 := ⟨_, rfl⟩
  have hnb : n ≤ 100001 := by omega
  have HN := hide hn
  have hn2 : max (x.length : Int) (y.length : Int) + 1 = (n : Int) := by omega
  clear ha hb hx hy hp hn
  go_enter Tryz.func197, Tryz.ntmps197
  go_wp2_with fail
  clear hn2
  go_loopw [7, 8, 18] (fun v c i wr => ∃ k : Nat, k ≤ n ∧ i = .int .i64 k ∧ c = .int .i64 (((combTo pr x y k).2 : Nat) : Int) ∧ Hid (OwnL w.heap.size wr v (combTo pr x y k).1 ∧ Below w.heap.size w wr)) (fun _ _ i _ => n - (intOf i).toNat)
  case atStart => exact ⟨0, Nat.zero_le _, rfl, rfl, OwnL.nil _ _, Below.refl _ _⟩
  case round =>
    obtain ⟨k, hk, rfl, rfl, hin⟩ := hrel
    have hsz := hin.out.2.size
    obtain ⟨va2, vc2, hvf, hcap, _⟩ := hin.out.1.form
    have hfk := (HF.out k).1
    rw [hfk] at hvf hcap
    subst hvf
    by_cases hlt : k < n
    · have e3 : (k : Int) < (n : Int) := by omega
      have hL1 := hide (limb_any (.slice a0 x.length c0) x k B wr (HA.out.below hin.out.2 hB) (by omega))
      have hL2 := hide (limb_any (.slice a1 y.length c1) y k B wr (HB.out.below hin.out.2 hB) (by omega))
      have hPR := hide (HP.out.calls (lat x k) (lat y k) (combTo pr x y k).2 wr (lat_lt (by omega) HX.out k) (lat_lt (by omega) HY.out k) (HF.out k).2.2)
      have HF1 := hide (show combTo pr x y (k + 1) = ((combTo pr x y k).1 ++ [(pr (lat x k) (lat y k) (combTo pr x y k).2).1], (pr (lat x k) (lat y k) (combTo pr x y k).2).2) from rfl)
      obtain ⟨pn, hpn⟩ : ∃ p, p = pr (lat x k) (lat y k) (combTo pr x y k).2 := ⟨_, rfl⟩
      rw [← hpn] at hPR HF1
      obtain ⟨L, hL⟩ : ∃ L, L = (combTo pr x y k).1 := ⟨_, rfl⟩
      obtain ⟨C, hC⟩ : ∃ C, C = (combTo pr x y k).2 := ⟨_, rfl⟩
      rw [← hC] at hPR ⊢
      rw [← hL] at HF1
      have hfk2 : L.length = k := by rw [hL]; exact hfk
      have HO := hide (show OwnL w.heap.size wr (.slice va2 k vc2) L by rw [hL]; exact hin.out.1)
      have HBW := hide hin.out.2; have HFK := hide hfk2
      clear hpn hL hC hfk hfk2 hin
      go_wp2_with fail
      refine hL1.out.mono ?_
      rintro e w1 ⟨rfl, rfl⟩
      go_wp2_with fail
      refine hL2.out.mono ?_
      rintro e w1 ⟨rfl, rfl⟩
      go_wp2_with fail
      refine hPR.out.mono ?_
      rintro e w1 ⟨rfl, rfl⟩
      clear hL1 hL2 hPR
      have HOW := hide (show (wr.alloc (.cells #[.int .i64 pn.1] 3)).ownsRow w.heap.size 3 1 (.slice va2 k vc2) k (icells L) by
        have h := HO.out
        unfold OwnL at h
        rw [HFK.out] at h
        exact h.alloc _)
      have HNW := hide (show ∀ j u, ([.int .i64 pn.1] : List Value)[j]? = some u → (wr.alloc (.cells #[.int .i64 pn.1] 3)).cell? ((⟨wr.heap.size, 0, none⟩ : Addr).add j) = some u from World.news_of_block (cs := #[.int .i64 pn.1]) (t := 3) (fr := (0, 0)) (heap_alloc_new wr _))
      go_wp2_with (at_builtin; go_must (refine wpList_append_own _ rfl (.tmp 33) (.tmp 35) 199 rfl w.heap.size 3 i0 _ 1 8 Tryz.underlying199 hi0 hz0 hz1 hz2 rfl (by decide) (.slice va2 k vc2) _ _ rfl HOW.out ⟨wr.heap.size, 0, none⟩ 1 1 [.int .i64 pn.1] rfl rfl HNW.out (by simp [Value.oneCell']) (by simp only [maxLen]; omega) (by omega) (by simp; omega) ?_); intro v1 w5 hown hg1 hiff; clear hiff; have HOW5 := hide hown; have HGR := hide hg1; clear hown hg1)
      go_roundw
      case rel =>
        refine ⟨k + 1, by omega, by go_num, by rw [HF1.out], ?_, (HBW.out.alloc (by omega) _).grown HGR.out (by simp; omega) (owns_ge HO.out (Nat.le_refl _))⟩
        rw [HF1.out]
        show World.ownsRow _ _ _ _ _ (L ++ [pn.1]).length (icells (L ++ [pn.1]))
        rw [List.length_append, HFK.out, icells_append]
        exact HOW5.out
      case measure => simp [intOf]; omega
    · obtain rfl : k = n := by omega
      have HL := hide (show (combTo pr x y k).1 = combL pr x y by rw [HN.out]; rfl)
      have hle := trimTo_le (combTo pr x y k).1 k
      have hat := hin.out.1.at_
      obtain ⟨L, hL⟩ : ∃ L, L = (combTo pr x y k).1 := ⟨_, rfl⟩
      rw [← hL] at hat hfk hle HL
      have HO := hide (show OwnL w.heap.size wr (.slice va2 k vc2) L by rw [hL]; exact hin.out.1)
      have HBW := hide hin.out.2; have HFK := hide hfk
      have HT := hide (trim_any va2 vc2 L wr.heap.size wr (by rw [hfk]; exact hat) (by omega) (by omega))
      rw [hfk] at HT
      have e3 : ¬ (k : Int) < (k : Int) := by omega
      clear hL hat hfk hin
      go_wp2_with fail
      refine HT.out.mono ?_
      rintro e w1 ⟨rfl, rfl⟩
      go_wp2_with fail
      go_ret
      refine ⟨_, rfl, HBW.out, ?_⟩
      rw [← HL.out]
      have hc := HO.out.cut (k := trimTo L k) (by rw [HFK.out]; exact hle)
      unfold trimL
      rw [HFK.out]
      exact hc
open Go.RowKit Go.KP Go.KI Go.Shelf

abbrev rowO (L : List Nat) : Obj := .cells (icells L).toArray 3
theorem setCell_size (w : World) (a : Addr) (v : Value) : (w.setCell a v).heap.size = w.heap.size := by simp [World.setCell]
theorem setCell_other {w : World} {b b2 k : Nat} {v : Value} (h : b ≠ b2) : (w.setCell ⟨b, k, none⟩ v).heap[b2]? = w.heap[b2]? := by
  simp only [World.setCell, Array.getElem?_modify, if_neg h]
theorem row_cell {w : World} {g : Nat} {L : List Nat} (h : w.heap[g]? = some (rowO L)) {i : Nat} (hi : i < L.length) : w.cell? ⟨g, i, none⟩ = some (.int .i64 (lat L i)) := by
  rw [cell_blk h]
  simp only [List.getElem?_toArray]
  exact icells_at hi
theorem row_froz {w : World} {g : Nat} {L : List Nat} (h : w.heap[g]? = some (rowO L)) (i : Nat) : w.frozen? ⟨g, i, none⟩ = false := froz_blk h i
theorem row_set {w : World} {g : Nat} {L : List Nat} (h : w.heap[g]? = some (rowO L)) (k v : Nat) : (w.setCell ⟨g, k, none⟩ (.int .i64 v)).heap[g]? = some (rowO (L.set k v)) := by
  simp only [World.setCell, Array.getElem?_modify, h]
  simp [icells, List.map_set]
theorem row_owns {w : World} {g base : Nat} {L : List Nat} (h : w.heap[g]? = some (rowO L)) (hb : base ≤ g) (hl : L.length ≤ maxLen) : OwnL base w (.slice (some ⟨g, 0, none⟩) L.length L.length) L := by
  refine ⟨by rw [icells_len]; omega, .inr ⟨g, L.length, _, rfl, hb, h, Nat.le_refl _, hl, by simp [icells_len], ?_⟩⟩
  rw [List.take_of_length_le]
  simp [icells_len]
theorem row_limbs {w : World} {g : Nat} {L : List Nat} (h : w.heap[g]? = some (rowO L)) (hl : L.length ≤ maxLen) : LimbAt w.heap.size w (.slice (some ⟨g, 0, none⟩) L.length L.length) L := (row_owns h (Nat.zero_le _) hl).at_
def zeros (n : Nat) : List Nat := List.replicate n 0
theorem zeros_len (n : Nat) : (zeros n).length = n := by simp [zeros]
theorem zeros_lt (b n : Nat) (hb : 0 < b) : Lt b (zeros n) := fun x hx => by
  rw [List.eq_of_mem_replicate hx]
  exact hb
theorem make_ints (n : Nat) (hn : n ≤ 1000000) (W : World) :
    (Instr.makeSlice 199 (.int .i64 (n : Int)) (.int .i64 (n : Int))).run Tryz.prog W = .ok (.slice (some ⟨W.heap.size, 0, none⟩) n n) (W.alloc (rowO (zeros n))) := by
  obtain ⟨i0, hi0, hz0, hz1, hz2⟩ := info_parts info3
  have hr := run_make (P := Tryz.prog) W 199 3 i0 (.int .i64 0) Tryz.underlying199 hi0 hz0 .i64 .i64 n n (by omega) (Int.le_refl _) (by rw [hz2]; omega) (by omega)
  simp only [Int.toNat_natCast, hz1] at hr
  rw [hr]
  have e : madeCells (Value.int .i64 0).cells (n * 1) = (icells (zeros n)).toArray := by
    simp [madeCells, Value.cells, icells, zeros]
    apply Array.ext
    · simp
    · intro i h1 h2
      simp [Nat.mod_one]
  rw [e]
theorem times_step {b i k o c c2 n v q x y V T : Nat} (h : o + b ^ (i + k) * c = V + x * T * b ^ i) (h1 : n + b ^ (i + k) * q = o + b ^ (i + k) * v) (h2 : q + x * y + c = v + b * c2) :
    n + b ^ (i + (k + 1)) * c2 = V + x * (T + b ^ k * y) * b ^ i := by
  have e1 : b ^ (i + (k + 1)) = b ^ (i + k) * b := by rw [← Nat.add_assoc, Nat.pow_succ]
  have e2 : b ^ (i + k) = b ^ i * b ^ k := Nat.pow_add b i k
  have h3 : b ^ (i + k) * (q + x * y + c) = b ^ (i + k) * (v + b * c2) := by rw [h2]
  rw [e1]
  have h4 : x * (T + b ^ k * y) * b ^ i = x * T * b ^ i + b ^ (i + k) * (x * y) := by rw [e2]; grind
  rw [h4]
  have h5 : b ^ (i + k) * (q + x * y + c) = b ^ (i + k) * q + b ^ (i + k) * (x * y) + b ^ (i + k) * c := by grind
  have h6 : b ^ (i + k) * (v + b * c2) = b ^ (i + k) * v + b ^ (i + k) * b * c2 := by grind
  omega
theorem times_total {b : Nat} {x y L0 : List Nat} {i k X : Nat} (h : lv b L0 = lvT b x i * lv b y) (hX : X = lat x i) (hk : y.length ≤ k) : lv b L0 + X * lvT b y k * b ^ i = lvT b x (i + 1) * lv b y := by
  rw [h, lvT_succ, lvT_all hk, hX]
  grind
theorem times_zero {b : Nat} (h0 : 0 < b) {x y L : List Nat} {i k C : Nat} (hx : Lt b x) (hy : Lt b y) (hk : k = y.length + 1) (h : lv b L + b ^ (i + k) * C = lvT b x (i + 1) * lv b y) : C = 0 := by
  have h1 := lvT_lt h0 hx (i + 1)
  have h2 := lv_lt hy
  have h4 : lvT b x (i + 1) * lv b y < b ^ (i + k) := by
    have e : b ^ (i + k) = b ^ (i + 1) * b ^ y.length := by
      rw [← Nat.pow_add]
      congr 1
      omega
    rw [e]
    exact Nat.mul_lt_mul'' h1 h2
  rcases Nat.eq_zero_or_pos C with h5 | h5
  · exact h5
  · exfalso
    have : b ^ (i + k) * 1 ≤ b ^ (i + k) * C := Nat.mul_le_mul_left _ h5
    omega
theorem mul_lt_sq {x y : Nat} (hx : x < 1000000000) (hy : y < 1000000000) : x * y ≤ 999999998000000001 := by
  have : x * y ≤ 999999999 * 999999999 := Nat.mul_le_mul (by omega) (by omega)
  omega
theorem limb_same (v : Value) (l : List Nat) (i : Nat) (B : Nat) (w : World) (h : LimbAt B w v l) (hi : i ≤ 1000000) :
    Calls Tryz.prog 221 #[v, .int .i64 i] w fun e w' => e = .returned (.int .i64 (lat l i)) ∧ w' = w := (limb_any v l i B w h hi).mono fun _ _ ⟨h1, h2⟩ => ⟨h1, h2.symm⟩
theorem times_any (va vb : Value) (x y : List Nat) (B : Nat) (w : World) (ha : LimbAt B w va x) (hb : LimbAt B w vb y) (hB : B ≤ w.heap.size) (hx : Lt 1000000000 x) (hy : Lt 1000000000 y) (lx : x.length ≤ 100000) (ly : y.length ≤ 100000) :
    Calls Tryz.prog 184 #[va, vb] w fun e w' => ∃ l, LimbsRet w l e w' ∧ Norm 1000000000 l ∧ lv 1000000000 l = lv 1000000000 x * lv 1000000000 y ∧ l.length ≤ x.length + y.length + 1 := by
  obtain ⟨a0, c0, hva⟩ := ha.form
  obtain ⟨a1, c1, hvb⟩ := hb.form
  subst hva; subst hvb
  obtain ⟨n, hn⟩ : ∃ n, n = x.length + y.length + 1 := ⟨_, rfl⟩
  have hn2 : (x.length : Int) + (y.length : Int) + 1 = (n : Int) := by omega
  have hmk := make_ints n (by omega)
  have HA := hide ha; have HB := hide hb; have HX := hide hx; have HY := hide hy; have HN := hide hn
  have hnb : n ≤ 200001 := by omega
  clear ha hb hx hy hn
  go_enter Tryz.func184, Tryz.ntmps184
  go_wp2_with fail
  clear hmk
  have H0 := hide (heap_alloc_new w (rowO (zeros n))); have HB0 := hide ((Below.refl w.heap.size w).alloc (Nat.le_refl _) (rowO (zeros n)))
  go_loopw [20] (fun i wr => ∃ k : Nat, k ≤ x.length ∧ i = .int .i64 k ∧ Hid (∃ L : List Nat, L.length = n ∧ Lt 1000000000 L ∧ lv 1000000000 L = lvT 1000000000 x k * lv 1000000000 y ∧ wr.heap[w.heap.size]? = some (rowO L) ∧ Below w.heap.size w wr)) (fun i _ => x.length - (intOf i).toNat)
  case atStart =>
    refine ⟨0, Nat.zero_le _, rfl, zeros n, zeros_len n, zeros_lt _ _ (by omega), ?_, H0.out, HB0.out⟩
    rw [lvT_zero, zeros, lv_zeros]
    simp
  case round =>
    obtain ⟨i, hi, rfl, hin⟩ := hrel
    obtain ⟨L0, hL0n, hL0t, hL0v, hL0b, hL0w⟩ := hin.out
    have hsz := lt_blk hL0b
    by_cases hlt : i < x.length
    · have e3 : (i : Int) < (x.length : Int) := by omega
      rcases (HA.out.below hL0w hB).cases with ⟨_, _, _, hnil⟩ | ⟨b, o, cap, hv, hbb, hcl⟩
      · rw [hnil] at hlt
        simp at hlt
      injection hv with hv1 hv2 hv3
      subst hv1; subst hv3
      have hcell := hcl i hlt
      have hxi := lat_lt (by omega) HX.out i
      obtain ⟨X, hX⟩ : ∃ X, X = lat x i := ⟨_, rfl⟩
      rw [← hX] at hcell hxi
      have HXE := hide hX; have HL0 := hide hL0b; have HW0 := hide hL0w; have HV0 := hide hL0v; have HN0 := hide hL0n; have HT0 := hide hL0t
      clear hcl hv2 hX hL0n hL0t hL0v hL0b hL0w hin
      obtain ⟨wo, hwo⟩ : ∃ wo, wo = wr := ⟨_, rfl⟩
      subst hwo
      go_wp2_with fail
      go_loopw [8, 28] (fun c j wr => ∃ (k C : Nat), k ≤ y.length + 1 ∧ j = .int .i64 k ∧ c = .int .i64 C ∧ C < 1000000000 ∧ Hid (∃ L : List Nat, L.length = n ∧ Lt 1000000000 L ∧ lv 1000000000 L + 1000000000 ^ (i + k) * C = lv 1000000000 L0 + X * lvT 1000000000 y k * 1000000000 ^ i ∧ wr.heap[w.heap.size]? = some (rowO L) ∧ Below w.heap.size w wr)) (fun _ j _ => y.length + 1 - (intOf j).toNat)
      case atStart =>
        refine ⟨0, 0, Nat.zero_le _, rfl, rfl, by omega, L0, HN0.out, HT0.out, ?_, HL0.out, HW0.out⟩
        rw [lvT_zero]
        simp
      case round =>
        obtain ⟨k, C, hk, rfl, rfl, hC, hin⟩ := hrel
        obtain ⟨L, hLn, hLt, hLv, hLb, hLw⟩ := hin.out
        have hsz2 := lt_blk hLb
        by_cases hlt2 : k < y.length + 1
        · have e4 : (k : Int) < (y.length : Int) + 1 := by omega
          have hik : i + k < L.length := by rw [hLn, HN.out]; omega
          have q1 := row_cell hLb hik
          have q2 := row_froz hLb (i + k)
          have hyk := lat_lt (by omega) HY.out k
          have hlk := lat_lt (by omega) hLt (i + k)
          have hlim := hide (fun m : Nat => limb_same (.slice a1 y.length c1) y k B (wr.drewN m) (HB.out.below (below_drewN hLw m) hB) (by omega))
          obtain ⟨Y, hY⟩ : ∃ Y, Y = lat y k := ⟨_, rfl⟩
          obtain ⟨Q, hQ⟩ : ∃ Q, Q = lat L (i + k) := ⟨_, rfl⟩
          rw [← hY] at hyk hlim
          rw [← hQ] at hlk q1
          have hm := mul_lt_sq hxi hyk
          have p0 : (0 : Int) ≤ (X : Int) * (Y : Int) := Int.mul_nonneg (by omega) (by omega)
          have p1 : (X : Int) * (Y : Int) ≤ 999999998000000001 := by
            have : ((X * Y : Nat) : Int) ≤ 999999998000000001 := by omega
            rwa [Int.natCast_mul] at this
          have w1 : IntKind.i64.wrap ((i : Int) + (k : Int)) = (i : Int) + (k : Int) := IntWalk.i64_in _ (by omega)
          have w2 : IntKind.i64.wrap ((X : Int) * (Y : Int)) = (X : Int) * (Y : Int) := IntWalk.i64_in _ (by omega)
          have w3 : IntKind.i64.wrap ((Q : Int) + (X : Int) * (Y : Int)) = (Q : Int) + (X : Int) * (Y : Int) := IntWalk.i64_in _ (by omega)
          have w4 : IntKind.i64.wrap ((Q : Int) + (X : Int) * (Y : Int) + (C : Int)) = (Q : Int) + (X : Int) * (Y : Int) + (C : Int) := IntWalk.i64_in _ (by omega)
          have j0 : (0 : Int) ≤ (i : Int) + (k : Int) := by omega
          have j1 : (i : Int) + (k : Int) < (n : Int) := by omega
          have j2 : ((i : Int) + (k : Int)).toNat = i + k := by omega
          have HLv := hide hLv; have HLt := hide hLt; have HLn := hide hLn; have HLb := hide hLb; have HLw := hide hLw; have HYE := hide hY; have HQE := hide hQ; have HIK := hide hik
          clear hLv hLt hLn hLb hLw hY hQ hik hin
          go_wp2_with fail
          go_quiet ((go_at_call 221; exact Calls.quiet_of_same (hlim.out _)))
          clear w1 w2 w3 w4
          go_wp2_with fail
          have hdm := Nat.div_add_mod (Q + X * Y + C) 1000000000
          have hml := Nat.mod_lt (Q + X * Y + C) (show 0 < 1000000000 by omega)
          go_roundw
          case rel =>
            refine ⟨k + 1, (Q + X * Y + C) / 1000000000, by omega, by go_num, by simp, by omega, L.set (i + k) ((Q + X * Y + C) % 1000000000), by rw [List.length_set]; exact HLn.out, lt_set HLt.out hml, ?_, ?_, ?_⟩
            · rw [lvT_succ, ← HYE.out]
              have h1 := lv_set (b := 1000000000) ((Q + X * Y + C) % 1000000000) HIK.out
              rw [← HQE.out] at h1
              exact times_step HLv.out h1 (by omega)
            · exact row_set (w := wr.drewN nq) HLb.out (i + k) _
            · exact (below_drewN HLw.out nq).setCell (p := ⟨w.heap.size, i + k, none⟩) (Nat.le_refl _) _
          case measure => simp [intOf]; omega
        · have e4 : ¬ (k : Int) < (y.length : Int) + 1 := by omega
          have hk1 : k = y.length + 1 := by omega
          have htot := hLv.trans (times_total HV0.out (X := X) HXE.out (k := k) (by omega))
          have hC0 := times_zero (by omega) HX.out HY.out hk1 htot
          have HLE := hide (show lv 1000000000 L = lvT 1000000000 x (i + 1) * lv 1000000000 y by
            rw [hC0] at htot
            simpa using htot)
          clear htot
          have HLt := hide hLt; have HLn := hide hLn; have HLb := hide hLb; have HLw := hide hLw
          clear hLv hLt hLn hLb hLw hk1 hC0 hin
          go_wp2_with fail
          go_roundw
          case rel => exact ⟨i + 1, by omega, by go_num, L, HLn.out, HLt.out, HLE.out, HLb.out, HLw.out⟩
          case measure => simp [intOf]; omega
    · have e3 : ¬ (i : Int) < (x.length : Int) := by omega
      have HE := hide (show lv 1000000000 L0 = lv 1000000000 x * lv 1000000000 y by rw [hL0v, lvT_all (l := x) (i := i) (by omega)])
      have HT := hide (trim_any (some ⟨w.heap.size, 0, none⟩) n L0 wr.heap.size wr (by
        have := row_limbs hL0b (by unfold maxLen; omega)
        rw [hL0n] at this ⊢
        exact this) (by omega) (by omega))
      rw [hL0n] at HT
      have HO := hide (row_owns hL0b (Nat.le_refl _) (by unfold maxLen; omega))
      have HLn := hide hL0n; have HLw := hide hL0w; have HLt := hide hL0t
      clear hL0n hL0t hL0v hL0b hL0w hin
      go_wp2_with fail
      refine HT.out.mono ?_
      rintro e w1 ⟨rfl, rfl⟩
      go_wp2_with fail
      go_ret
      refine ⟨trimL L0, ⟨_, rfl, HLw.out, ?_⟩, trimL_norm HLt.out, by rw [trimL_lv, HE.out], ?_⟩
      · have hc := HO.out.cut (k := trimTo L0 n) (by rw [HLn.out]; exact trimTo_le _ _)
        rw [HLn.out] at hc
        unfold trimL
        rw [HLn.out]
        exact hc
      · rw [trimL_len]
        have := trimTo_le L0 L0.length
        have := HLn.out
        have := HN.out
        omega
end Go.Proofs.YtklgpilgalfckaaGreatDoor
namespace Go.KP
open Go Go.RowKit

def IterOn (P : Program) (gf : Nat) (lb : Array Value) (encs : Nat → Array Value) (N : Nat) (Ke : Nat → World → Prop) : Prop :=
  ∀ (l : Nat) (J : Nat → (Nat → Prop) → World → Prop) (Jx : (Nat → Prop) → World → Prop) (W : World),
    (∀ k, Stays W.heap.size (J k)) → Stays W.heap.size Jx → (∀ k S W1, J k S W1 → ∀ b, S b → b < W1.heap.size) → (∀ k S W1, k ≤ N → J k S W1 → Ke k W1) →
    (∀ k S W1, k < N → J k S W1 → W.heap.size ≤ W1.heap.size →
      YieldAt Fence.wide 0 P l (encs k) W1 fun e W2 => ∃ S', Upd W.heap.size S S' W1 W2 ∧
        ((e = .returned (.bool true) ∧ J (k + 1) S' W2) ∨ (e = .returned (.bool false) ∧ Jx S' W2))) →
    J 0 (fun _ => False) W →
    CallsIn Fence.wide 0 P gf (#[.func (.yield l) #[] #[]] ++ lb) W fun e W2 => (∃ v, e = .returned v) ∧ ∃ S, J N S W2 ∨ Jx S W2

def bodyEndOn (B : Nat) (I : (Nat → Prop) → World → Prop) (Ix : Code → (Nat → Prop) → World → Prop) (S : Nat → Prop) (W : World) : Exit → Act → World → Prop
  | .normal, _, W2 => ∃ S', Upd B S S' W W2 ∧ I S' W2
  | .ret, _, W2 => ∃ S', Upd B S S' W W2 ∧ Ix .ret S' W2
  | .exit id, _, W2 => ∃ S', Upd B S S' W W2 ∧ Ix (.exit id) S' W2
  | .goto t, _, W2 => ∃ S', Upd B S S' W W2 ∧ Ix (.goto t) S' W2
  | .panic _, _, _ => False
  | .outgrown, _, _ => False
variable {P : Program}
theorem wp_iter_on {g : Operand} {ps : Array Tmp} {assign body : Code} {Q : Exit → Act → World → Prop} {a : Act} {w : World}
    {gf : Nat} {lb : Array Value} (hg : a.eval g = .func (.func gf) #[] lb) (eg : ∀ args w, (callFunc gf args).run P w = .ok (.enter gf args) w)
    {encs : Nat → Array Value} {N : Nat} {Ke : Nat → World → Prop} (hseq : IterOn P gf lb encs N Ke) (hps : ∀ k, (encs k).size = ps.size)
    (I : Nat → (Nat → Prop) → World → Prop) (Ix : Code → (Nat → Prop) → World → Prop) (hI : ∀ k, Stays w.heap.size (I k)) (hIx : ∀ c, Stays w.heap.size (Ix c)) (h0 : I 0 (fun _ => False) w) (hke : ∀ k S W, k ≤ N → I k S W → Ke k W)
    (Ax : Nat → (Nat → Prop) → Act → World → Prop)
    (hAx : ∀ k S a1 W l r r2, Ax k S a1 W → W.heap[l]? = some (.loop r) → Ax k S a1 (W.putObj l (.loop r2)))
    (hassign : ∀ (l k : Nat) (S : Nat → Prop) (W : World) (K : Act → World → Prop), w.heap.size ≤ W.heap.size → (∀ b, S b → b < W.heap.size) → (∀ a1 W1, Quiet w.heap.size S W W1 → Upd w.heap.size S S W W1 → Ax k S a1 W1 → K a1 W1) →
      assign.wpIn (Fence.wide.inRound l) 0 P (Exit.then K (fun _ _ _ => False)) { tmps := (ps.zip (encs k)).foldl (fun t (p, v) => t.setIfInBounds p v) a.tmps, defers := [] } W)
    (hS : ∀ k S W, I k S W → ∀ b, S b → b < W.heap.size)
    (hbody : ∀ (l k : Nat) (S : Nat → Prop) (a1 : Act) (W : World), k < N → I k S W → Ax k S a1 W → w.heap.size ≤ W.heap.size →
      body.wpIn (Fence.wide.inRound l) 0 P (bodyEndOn w.heap.size (I (k + 1)) Ix S W) a1 W)
    (hdone : ∀ (D : Nat) (S : Nat → Prop) (W : World), w.heap.size ≤ D → I N S W → W.heap[D]? = some (.deferred (some [])) → Q .normal { a with defers := { target := .collected D, args := #[] } :: a.defers } W)
    (hstop : ∀ (D : Nat) (c : Code) (S : Nat → Prop) (W : World), w.heap.size ≤ D → Ix c S W → W.heap[D]? = some (.deferred (some [])) → c.wpIn Fence.wide 0 P Q { a with defers := { target := .collected D, args := #[] } :: a.defers } W) :
    (Code.rangeFunc g ps assign body).wpIn Fence.wide 0 P Q a w := by
  refine wpIn_rangeFunc ?_
  intro fn _
  obtain ⟨rec, hrec⟩ : ∃ rec : LoopState → Option Code → Loop, rec = fun st pe => { state := st, pending := pe, fn, tmps := a.tmps, params := ps, assign, body, defers := w.heap.size } := ⟨_, rfl⟩
  obtain ⟨W1, hW1⟩ : ∃ W1, (w.alloc (.deferred (some []))).alloc (.loop (rec .ready none)) = W1 := ⟨_, rfl⟩
  have hL1 : W1.heap[w.heap.size + 1]? = some (.loop (rec .ready none)) := by
    rw [← hW1]; have h := World.alloc_heap_new (w.alloc (.deferred (some []))) (.loop (rec .ready none)); rwa [World.size_alloc] at h
  have hK1 : W1.heap[w.heap.size]? = some (.deferred (some [])) := by
    rw [← hW1]; exact (Below.heap_alloc _ _ _ (by simp)).trans (World.alloc_heap_new w _)
  have hq1 : Quiet w.heap.size (fun _ => False) w W1 := by rw [← hW1]; exact ((Quiet.refl _ _ w).alloc _).alloc _
  have hs1 : W1.heap.size = w.heap.size + 2 := by rw [← hW1]; simp
  have inner : ∀ (i : Nat) (S S' : Nat → Prop) (W W2 : World), w.heap.size ≤ i → i < w.heap.size + 2 → i < W.heap.size → ¬ S i → Upd w.heap.size S S' W W2 → W2.heap[i]? = W.heap[i]? ∧ ¬ S' i := fun i S S' W W2 h1 _ h3 h4 hu => hu.block i h1 h3 h4
  refine ⟨w.heap.size + 1, [{ target := .collected w.heap.size, args := #[] }], W1, { target := .fn (.func gf) lb, args := #[.func (.yield (w.heap.size + 1)) #[] #[]] }, W1, gf,
    #[.func (.yield (w.heap.size + 1)) #[] #[]] ++ lb, W1, ?_, ?_, ?_, ?_, fun h => by simp [Fence.wide] at h, ?_⟩
  · rw [← hW1, hrec]; exact run_enterLoop_outer _ _ _ _ _
  · simp only [resolve, hg]
    simp [go_sem]
  · exact fun _ _ => trivial
  · simp [invoke, go_sem, eg]
  · refine (hseq (w.heap.size + 1)
      (fun k S W => I k S W ∧ ¬ S w.heap.size ∧ ¬ S (w.heap.size + 1) ∧ W1.heap.size ≤ W.heap.size ∧ W.heap[w.heap.size + 1]? = some (.loop (rec .ready none)) ∧ W.heap[w.heap.size]? = some (.deferred (some [])))
      (fun S W => ∃ c, Ix c S W ∧ ¬ S w.heap.size ∧ ¬ S (w.heap.size + 1) ∧ W1.heap.size ≤ W.heap.size ∧ W.heap[w.heap.size + 1]? = some (.loop (rec .done (some c))) ∧ W.heap[w.heap.size]? = some (.deferred (some [])))
      W1 ?_ ?_ (fun k S W1 h => hS k S W1 h.1) (fun k S W1 hk h => hke k S W1 hk h.1) ?_ ⟨hI 0 _ _ _ h0 hq1, fun h => h, fun h => h, Nat.le_refl _, hL1, hK1⟩).mono ?_
    · rintro k S W W2 ⟨hi, n1, n2, hsz, hl, hk⟩ hq
      have hw : w.heap.size + 1 < W.heap.size := (Array.getElem?_eq_some_iff.1 hl).1
      exact ⟨hI k _ _ _ hi ⟨hq.os, hq.tape, hq.output, hq.size, fun b hb hlt => hq.block b (hb.imp (fun h => by omega) id) hlt⟩, n1, n2, Nat.le_trans hsz hq.size,
        (hq.block _ (.inl (by omega)) hw).trans hl, (hq.block _ (.inl (by omega)) (by omega)).trans hk⟩
    · rintro S W W2 ⟨c, hi, n1, n2, hsz, hl, hk⟩ hq
      have hw : w.heap.size + 1 < W.heap.size := (Array.getElem?_eq_some_iff.1 hl).1
      exact ⟨c, hIx c _ _ _ hi ⟨hq.os, hq.tape, hq.output, hq.size, fun b hb hlt => hq.block b (hb.imp (fun h => by omega) id) hlt⟩, n1, n2, Nat.le_trans hsz hq.size,
        (hq.block _ (.inl (by omega)) hw).trans hl, (hq.block _ (.inl (by omega)) (by omega)).trans hk⟩
    · rintro k S W hkN ⟨hi, n1, n2, hsz, hl, hk⟩ _
      have hlt : w.heap.size + 1 < W.heap.size := (Array.getElem?_eq_some_iff.1 hl).1
      have hy := run_yield (P := P) (args := encs k) hl (by rw [hrec]; exact hps k)
      rw [hrec] at hy
      refine ⟨fn, _, assign, body, hy, roundIn_of_wpIn trivial (hassign _ k S W _ (by omega) (hS k S W hi) ?_)⟩
      intro a1 Wa hqa hua hax
      have hla := (inner (w.heap.size + 1) _ _ _ _ (by omega) (by omega) hlt n2 hua).1.trans hl
      have hka := (inner w.heap.size _ _ _ _ (by omega) (by omega) (by omega) n1 hua).1.trans hk
      have hsa := hua.size
      refine ⟨_, run_beginRound hla (by rw [hrec]), ?_⟩
      have hlt2 : w.heap.size + 1 < Wa.heap.size := by omega
      have hia := hI k _ _ _ hi hqa
      obtain ⟨W2, hW2⟩ : ∃ W2, Wa.putObj (w.heap.size + 1) (.loop { rec .ready none with state := .busy }) = W2 := ⟨_, rfl⟩
      have hq2 : Quiet w.heap.size S Wa W2 := by rw [← hW2]; exact putObj_quiet _ _ _ (by omega) n2
      have hax2 : Ax k S a1 W2 := by rw [← hW2]; exact hAx _ _ _ _ _ _ _ hax hla
      have hl2 : W2.heap[w.heap.size + 1]? = some (.loop { rec .ready none with state := .busy }) := by rw [← hW2]; exact World.putObj_heap_same hlt2
      have hk2 : W2.heap[w.heap.size]? = some (.deferred (some [])) := by rw [← hW2]; exact (World.putObj_heap_other (by omega)).trans hka
      have hs2 : W2.heap.size = Wa.heap.size := by rw [← hW2]; simp
      rw [hW2]
      refine wpIn_mono (hbody _ k S a1 W2 hkN (hI k _ _ _ hia hq2) hax2 (by omega)) ?_
      have fin : ∀ (jump : Option Code) (S' : Nat → Prop) (W3 : World), Upd w.heap.size S S' W2 W3 →
          ∃ W4, (Instr.endRound (w.heap.size + 1) jump).run P W3 = .ok (.bool jump.isNone) W4 ∧ Upd W1.heap.size S S' W W4 ∧ Quiet w.heap.size S' W3 W4 ∧
            ¬ S' w.heap.size ∧ ¬ S' (w.heap.size + 1) ∧ W1.heap.size ≤ W4.heap.size ∧
            W4.heap[w.heap.size + 1]? = some (.loop (rec (if jump.isNone then .ready else .done) jump)) ∧ W4.heap[w.heap.size]? = some (.deferred (some [])) := fun jump S' W3 hu => by
        have hl3 := (inner (w.heap.size + 1) _ _ _ _ (by omega) (by omega) (by omega) n2 hu)
        have hk3 := (inner w.heap.size _ _ _ _ (by omega) (by omega) (by omega) n1 hu)
        have hl4 := hl3.1.trans hl2
        have hs3 := hu.size
        have hr := run_endRound (P := P) jump hl4
        have e : ({ rec .ready none with state := if jump.isNone then LoopState.ready else LoopState.done, pending := jump } : Loop) = rec (if jump.isNone then .ready else .done) jump := by rw [hrec]
        simp only at hr
        rw [e] at hr
        have hq4 : Quiet w.heap.size S' W3 (W3.putObj (w.heap.size + 1) (.loop (rec (if jump.isNone then .ready else .done) jump))) := putObj_quiet _ _ _ (by omega) hl3.2
        refine ⟨_, hr, ⟨by simp; omega, fun b hB hlt' hs' => ?_⟩, hq4, hk3.2, hl3.2, by simp; omega, World.putObj_heap_same (by omega), (World.putObj_heap_other (by omega)).trans (hk3.1.trans hk2)⟩
        · obtain ⟨g1, g2⟩ := hua.block b (by omega) hlt' hs'
          obtain ⟨g3, g4⟩ := hu.block b (by omega) (by omega) g2
          refine ⟨(World.putObj_heap_other (by omega)).trans (g3.trans ?_), g4⟩
          rw [← hW2, World.putObj_heap_other (by omega)]
          exact g1
      rintro e a3 W3 hp
      cases e with
      | normal =>
        obtain ⟨S', hu, hi3⟩ := hp
        obtain ⟨W4, hr, hu4, hq4, m1, m2, m3, hl4, hk4⟩ := fin none S' W3 hu
        exact ⟨_, _, hr, S', hu4, .inl ⟨rfl, hI _ _ _ _ hi3 hq4, m1, m2, m3, hl4, hk4⟩⟩
      | ret =>
        obtain ⟨S', hu, hi3⟩ := hp
        obtain ⟨W4, hr, hu4, hq4, m1, m2, m3, hl4, hk4⟩ := fin (some .ret) S' W3 hu
        exact ⟨_, _, hr, S', hu4, .inr ⟨rfl, .ret, hIx _ _ _ _ hi3 hq4, m1, m2, m3, hl4, hk4⟩⟩
      | exit id =>
        obtain ⟨S', hu, hi3⟩ := hp
        obtain ⟨W4, hr, hu4, hq4, m1, m2, m3, hl4, hk4⟩ := fin (some (.exit id)) S' W3 hu
        exact ⟨_, _, hr, S', hu4, .inr ⟨rfl, .exit id, hIx _ _ _ _ hi3 hq4, m1, m2, m3, hl4, hk4⟩⟩
      | goto t =>
        obtain ⟨S', hu, hi3⟩ := hp
        obtain ⟨W4, hr, hu4, hq4, m1, m2, m3, hl4, hk4⟩ := fin (some (.goto t)) S' W3 hu
        exact ⟨_, _, hr, S', hu4, .inr ⟨rfl, .goto t, hIx _ _ _ _ hi3 hq4, m1, m2, m3, hl4, hk4⟩⟩
      | panic ch => exact hp.elim
      | outgrown => exact hp.elim
    · rintro e W2 ⟨⟨v, rfl⟩, S, (⟨hi, n1, n2, hsz, hl, hk⟩ | ⟨c, hi, n1, n2, hsz, hl, hk⟩)⟩
      · refine ⟨none, _, by have h := run_endLoop (P := P) hl (by rw [hrec]; simp); rw [hrec] at h; exact h, ?_⟩
        exact hdone _ S _ (Nat.le_refl _) (hI _ _ _ _ hi (putObj_quiet _ _ _ (by omega) n2)) ((World.putObj_heap_other (by omega)).trans hk)
      · refine ⟨some c, _, by have h := run_endLoop (P := P) hl (by rw [hrec]; simp); rw [hrec] at h; exact h, ?_⟩
        exact hstop _ c S _ (Nat.le_refl _) (hIx _ _ _ _ hi (putObj_quiet _ _ _ (by omega) n2)) ((World.putObj_heap_other (by omega)).trans hk)

end Go.KP
namespace Go.Proofs.YtklgpilgalfckaaGreatDoor
open Go.RowKit Go.KP Go.KI Go.Shelf
attribute [local go_sem] Oper.semAt_some

theorem backward_any (a : Option Addr) (n c : Nat) (w : World) :
    Calls Tryz.prog 239 #[.slice a n c] w fun e w' => e = .returned (.func (.func 269) #[] #[.pointer (some ⟨w.heap.size, 0, none⟩)]) ∧ w.alloc (.cells #[.slice a n c] 199) = w' := by
  go_enter Tryz.func239, Tryz.ntmps239
  go_wp2_with fail
  go_ret
  exact ⟨rfl, rfl⟩
theorem digits_any (s : ByteArray) (w : World) :
    Calls Tryz.prog 214 #[.string s] w fun e w' => e = .returned (.func (.func 248) #[] #[.pointer (some ⟨w.heap.size, 0, none⟩)]) ∧ w.alloc (.cells #[.string s] 9) = w' := by
  go_enter Tryz.func214, Tryz.ntmps214
  go_wp2_with fail
  go_ret
  exact ⟨rfl, rfl⟩
def BackAt (bx : Nat) (a : Option Addr) (n c : Nat) (f : Nat → Int) (k : Nat) (W : World) : Prop :=
  W.heap[bx]? = some (.cells #[.slice a n c] 199 (0, 0)) ∧ (k < n → ∃ g o, a = some ⟨g, o, none⟩ ∧ W.cell? ⟨g, o + (n - 1 - k), none⟩ = some (.int .i64 (f k)))
theorem backSeq_any (bx n c : Nat) (a : Option Addr) (f : Nat → Int) (hn : n ≤ 1000000) :
    IterOn Tryz.prog 269 #[.pointer (some ⟨bx, 0, none⟩)] (fun k => #[.int .i64 ((n : Int) - 1 - k), .int .i64 (f k)]) n (BackAt bx a n c f) := by
  intro l J Jx W hJ hJx hJS hKe hY h0
  refine callsIn_of_wp Tryz.func269 rfl trivial ?_ rfl
  simp only [Tryz.ntmps269, List.size_toArray, List.length_cons, List.length_nil, Nat.reduceAdd, Nat.reduceSub, Array.replicate_succ, Array.replicate_zero, List.push_toArray, List.append_toArray, List.nil_append, List.cons_append]
  have c0 := cell_blk (hKe 0 _ _ (Nat.zero_le _) h0).1 0
  have HJ := hide hJ; have HJx := hide hJx; have HJS := hide hJS; have HY := hide hY; have H0 := hide h0; have HK := hide hKe
  clear hJ hJx hJS hY h0 hKe
  gi_wp2
  clear c0
  gi_loopw [3] (fun i wr => ∃ (k : Nat) (S : Nat → Prop), k ≤ n ∧ i = .int .i64 ((n : Int) - 1 - k) ∧ Hid (J k S wr ∧ W.heap.size ≤ wr.heap.size)) (fun i _ => (intOf i + 1).toNat)
  case atStart => exact ⟨0, _, Nat.zero_le _, by simp, H0.out, Nat.le_refl _⟩
  case round =>
    obtain ⟨k, S, hk, rfl, hin⟩ := hrel
    obtain ⟨hbox, hcl⟩ := HK.out k S wr hk hin.out.1
    have c0 := cell_blk hbox 0
    by_cases hlt : k < n
    · obtain ⟨g, o, rfl, hcell⟩ := hcl hlt
      obtain ⟨m, hm⟩ : ∃ m : Nat, (n : Int) - 1 - (k : Int) = m := ⟨n - 1 - k, by omega⟩
      have hm2 : n - 1 - k = m := by omega
      rw [hm2] at hcell
      have hyy := HY.out k S wr hlt hin.out.1 hin.out.2
      rw [hm] at hyy ⊢
      obtain ⟨fn, tmps, assign, body, hy, hR⟩ := hyy
      have HR := hide hR
      have hm0 : (0 : Int) ≤ (m : Int) := by omega
      have hml : (m : Int) < (n : Int) := by omega
      have HM := hide hm; have HSZ := hide hin.out.2
      clear hR hm hm2 hin hcl hbox
      gi_wp2
      refine ⟨rfl, HR.out.mono ?_⟩
      rintro e W3 ⟨S3, hu3, (⟨rfl, hJ3⟩ | ⟨rfl, hJx3⟩)⟩
      · have HJ3 := hide (And.intro hJ3 (Nat.le_trans HSZ.out hu3.size))
        clear hu3 hJ3 hy HR
        gi_wp2
        go_roundw
        case rel => exact ⟨k + 1, S3, by omega, by have := HM.out; congr 1; omega, HJ3.out⟩
        case measure => simp [intOf]
      · clear hu3 hy HR
        gi_wp2
        refine bodyPost_ret (results_none rfl _ _ _) rfl ?_
        exact ⟨⟨_, rfl⟩, S3, .inr hJx3⟩
    · obtain rfl : k = n := by omega
      have hm : (k : Int) - 1 - (k : Int) = -1 := by omega
      rw [hm]
      clear hm hcl c0 hbox
      gi_wp2
      refine bodyPost_end (results_none rfl _ _ _) rfl ?_
      exact ⟨⟨_, rfl⟩, S, .inl hin.out.1⟩
def digAt (l : List UInt8) (k : Nat) : Nat := (l[l.length - 1 - k]?.getD 48).toNat - 48
theorem digitSeq_any (bx : Nat) (s : ByteArray) (hs : s.size ≤ 1000000) (hd : ∀ c ∈ s.data.toList, isDg c = true) :
    IterOn Tryz.prog 248 #[.pointer (some ⟨bx, 0, none⟩)] (fun k => #[.int .i64 k, .int .i64 (digAt s.data.toList k)]) s.size (fun _ W => W.heap[bx]? = some (.cells #[.string s] 9 (0, 0))) := by
  intro l J Jx W hJ hJx hJS hKe hY h0
  refine callsIn_of_wp Tryz.func248 rfl trivial ?_ rfl
  simp only [Tryz.ntmps248, List.size_toArray, List.length_cons, List.length_nil, Nat.reduceAdd, Nat.reduceSub, Array.replicate_succ, Array.replicate_zero, List.push_toArray, List.append_toArray, List.nil_append, List.cons_append]
  have c0 := cell_blk (hKe 0 _ _ (Nat.zero_le _) h0) 0
  have HJ := hide hJ; have HJx := hide hJx; have HJS := hide hJS; have HY := hide hY; have H0 := hide h0; have HK := hide hKe; have HD := hide hd
  clear hJ hJx hJS hY h0 hKe hd
  gi_wp2
  clear c0
  gi_loopw [6] (fun i wr => ∃ (k : Nat) (S : Nat → Prop), k ≤ s.size ∧ i = .int .i64 k ∧ Hid (J k S wr ∧ W.heap.size ≤ wr.heap.size)) (fun i _ => s.size - (intOf i).toNat)
  case atStart => exact ⟨0, _, Nat.zero_le _, rfl, H0.out, Nat.le_refl _⟩
  case round =>
    obtain ⟨k, S, hk, rfl, hin⟩ := hrel
    have c0 := cell_blk (HK.out k S wr hk hin.out.1) 0
    by_cases hlt : k < s.size
    · have e3 : (k : Int) < (s.size : Int) := by omega
      obtain ⟨m, hm⟩ : ∃ m : Nat, (s.size : Int) - 1 - (k : Int) = m := ⟨s.size - 1 - k, by omega⟩
      have hml : m < s.size := by omega
      have hmi : (m : Int) < (s.size : Int) := by omega
      have hat : s.data.toList[m]? = some (s[m]'hml) := by
        have h1 : s.data.toList[m]? = some s.data[m] := by simp
        exact h1
      have hdg := isDg_iff.1 (HD.out _ (List.mem_of_getElem? hat))
      have hda : digAt s.data.toList k = (s[m]'hml).toNat - 48 := by
        unfold digAt
        rw [bytes_len, show s.size - 1 - k = m by omega, hat]
        rfl
      have hyy := HY.out k S wr hlt hin.out.1 hin.out.2
      rw [hda] at hyy
      obtain ⟨y, hyv⟩ : ∃ y : Nat, y = (s[m]'hml).toNat := ⟨_, rfl⟩
      rw [← hyv] at hyy hdg
      have hy2 : ((y - 48 : Nat) : Int) = (y : Int) - 48 := by omega
      rw [hy2] at hyy
      obtain ⟨fn, tmps, assign, body, hy, hR⟩ := hyy
      have HR := hide hR
      have hm0 : (0 : Int) ≤ (m : Int) := by omega
      have y0 : (48 : Int) ≤ (y : Int) := by omega
      have y1 : (y : Int) ≤ 57 := by omega
      have HSZ := hide hin.out.2
      have hyv2 : (s[m]'hml).toNat = y := hyv.symm
      clear hR hin hat hda hy2 hyv hdg
      gi_wp2
      refine ⟨rfl, HR.out.mono ?_⟩
      rintro e W3 ⟨S3, hu3, (⟨rfl, hJ3⟩ | ⟨rfl, hJx3⟩)⟩
      · have HJ3 := hide (And.intro hJ3 (Nat.le_trans HSZ.out hu3.size))
        clear hu3 hJ3 hy HR
        gi_wp2
        go_roundw
        case rel => exact ⟨k + 1, S3, by omega, by go_num, HJ3.out⟩
        case measure => simp [intOf]; omega
      · clear hu3 hy HR
        gi_wp2
        refine bodyPost_ret (results_none rfl _ _ _) rfl ?_
        exact ⟨⟨_, rfl⟩, S3, .inr hJx3⟩
    · obtain rfl : k = s.size := by omega
      have e3 : ¬ (s.size : Int) < (s.size : Int) := by omega
      gi_wp2
      refine bodyPost_end (results_none rfl _ _ _) rfl ?_
      exact ⟨⟨_, rfl⟩, S, .inl hin.out.1⟩
end Go.Proofs.YtklgpilgalfckaaGreatDoor
