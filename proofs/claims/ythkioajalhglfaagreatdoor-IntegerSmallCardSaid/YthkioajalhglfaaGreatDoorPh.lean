/-
  Integers: write and result walked.
-/
import Derived.Test.YthkioajalhglfaaGreatDoorPg
import Derived.Test.YthkioajalhglfaaGreatDoorLoop3
import Derived.Shelf.Strings.BuilderK
import Derived.Lib.OthersKept
namespace Go.Proofs.YthkioajalhglfaaGreatDoor
open Go.RowKit Go.KP Go.KI Go.Shelf
attribute [local go_sem] Oper.semAt_some

set_option maxRecDepth 100000 in
set_option maxHeartbeats 1000000 in
theorem backPure_any (bx n c : Nat) (a : Option Addr) (f : Nat → Int) (hn : n ≤ 1000000) :
    IterPure Tryz.prog 102 #[.pointer (some ⟨bx, 0, none⟩)] (fun k => #[.int .i64 ((n : Int) - 1 - k), .int .i64 (f k)]) n (BackAt bx a n c f) := by
  intro l J Jx S0 W hKe hY h0
  refine callsIn_of_wp Tryz.func102 rfl trivial ?_ rfl
  simp only [Tryz.ntmps102, List.size_toArray, List.length_cons, List.length_nil, Nat.reduceAdd, Nat.reduceSub, Array.replicate_succ, Array.replicate_zero, List.push_toArray, List.append_toArray, List.nil_append, List.cons_append]
  have c0 := cell_blk (hKe 0 _ _ (Nat.zero_le _) h0).1 0
  have HY := hide hY; have H0 := hide h0; have HK := hide hKe
  clear hY h0 hKe
  gi_wp2
  clear c0
  gi_loopw [3] (fun i wr => ∃ (k : Nat) (S : Nat → Prop), k ≤ n ∧ i = .int .i64 ((n : Int) - 1 - k) ∧ Hid (J k S wr ∧ W.heap.size ≤ wr.heap.size)) (fun i _ => (intOf i + 1).toNat)
  case atStart => exact ⟨0, _, Nat.zero_le _, by simp, H0.out, Nat.le_refl _⟩
  case round =>
    obtain ⟨k, S, hk, rfl, hin⟩ := hrel
    obtain ⟨hbox, hcl⟩ := HK.out k S wr hk hin.out.1
    have c0 := cell_blk hbox 0
    by_cases hlt : k < n
    · obtain ⟨g, o, rfl, hcell⟩ := hcl hlt
      obtain ⟨m, hm⟩ : ∃ m : Nat, (n : Int) - 1 - (k : Int) = m := ⟨n - 1 - k, by omega⟩
      have hm2 : n - 1 - k = m := by omega
      rw [hm2] at hcell
      have hyy := HY.out k S wr hlt hin.out.1 hin.out.2
      rw [hm] at hyy ⊢
      obtain ⟨fn, tmps, assign, body, hy, hR⟩ := hyy
      have HR := hide hR
      have hm0 : (0 : Int) ≤ (m : Int) := by omega
      have hml : (m : Int) < (n : Int) := by omega
      have HM := hide hm; have HSZ := hide hin.out.2
      clear hR hm hm2 hin hcl hbox
      gi_wp2
      refine ⟨rfl, HR.out.mono ?_⟩
      rintro e W3 ⟨S3, hu3, (⟨rfl, hJ3⟩ | ⟨rfl, hJx3⟩)⟩
      · have HJ3 := hide (And.intro hJ3 (Nat.le_trans HSZ.out hu3.size))
        clear hu3 hJ3 hy HR
        gi_wp2
        go_roundw
        case rel => exact ⟨k + 1, S3, by omega, by have := HM.out; congr 1; omega, HJ3.out⟩
        case measure => simp [intOf]
      · clear hu3 hy HR
        gi_wp2
        refine bodyPost_ret (results_none rfl _ _ _) rfl ?_
        exact ⟨⟨_, rfl⟩, S3, .inr hJx3⟩
    · obtain rfl : k = n := by omega
      have hm : (k : Int) - 1 - (k : Int) = -1 := by omega
      rw [hm]
      clear hm hcl c0 hbox
      gi_wp2
      refine bodyPost_end (results_none rfl _ _ _) rfl ?_
      exact ⟨⟨_, rfl⟩, S, .inl hin.out.1⟩
theorem wByte (B b : Nat) (bs : List Value) (c : Int) (w : World) (h : Lib.IsBuilderF 95 5 B b bs w) (hlen : bs.length + 1 ≤ 140737488355328) (hBw : B ≤ w.heap.size) :
    Calls Tryz.prog 101 #[.pointer (some ⟨b, 0, none⟩), .int .u8 c] w fun e w' => e = .returned .nilIface ∧ (Lib.BuilderAtF 95 5 B b (.pointer (some ⟨b, 0, none⟩)) (bs ++ [.int .u8 c]) w' ∧ Below B w w' ∧ Lib.OthersKept 5 (some b) w w') := Any.Builder_WriteByte_k lays167 extra167 B b bs c w h hlen hBw
theorem wString (B b : Nat) (bs : List Value) (s : ByteArray) (w : World) (h : Lib.IsBuilderF 95 5 B b bs w) (hlen : bs.length + s.size ≤ 140737488355328) (hBw : B ≤ w.heap.size) :
    Calls Tryz.prog 84 #[.pointer (some ⟨b, 0, none⟩), .string s] w fun e w' => e = .returned (.tuple #[.int .i64 s.size, .nilIface]) ∧ (Lib.BuilderAtF 95 5 B b (.pointer (some ⟨b, 0, none⟩)) (bs ++ Lib.strCells s) w' ∧ Below B w w' ∧ Lib.OthersKept 5 (some b) w w') := Any.Builder_WriteString_k lays166 Tryz.Builder_Extra_105 B b bs s w h hlen hBw
theorem wGive (B b : Nat) (l : List UInt8) (w : World) (h : Lib.IsBuilderF 95 5 B b (Lib.byteCells l) w) (hBw : B ≤ w.heap.size) :
    Calls Tryz.prog 86 #[.pointer (some ⟨b, 0, none⟩)] w fun e w' => e = .returned (.string (strB l)) ∧ (Lib.IsBuilderF 95 5 B b (Lib.byteCells l) w' ∧ Below B w w' ∧ Lib.OthersKept 5 (some b) w w') := Any.Builder_String_any_k Tryz.lays169 Tryz.Builder_Extra_169 B b l w h hBw
/-- A builder stays where no block of its own has turned. -/
theorem builder_keep {T e : TypeId} {B b : Nat} {bs : List Value} {w w2 : World} (h : Lib.IsBuilderF T e B b bs w) (hb : ∀ (i : Nat) cs t fz, w.heap[i]? = some (Obj.cells cs t fz) → w2.heap[i]? = some (Obj.cells cs t fz)) : Lib.IsBuilderF T e B b bs w2 := by
  have key : ∀ p, Lib.BuilderAtF T e B b p bs w → Lib.BuilderAtF T e B b p bs w2 := by
    rintro p ⟨h1, v, h2, h3, h4⟩
    refine ⟨h1, v, hb _ _ _ _ h2, ⟨h3.1, h3.2.imp id ?_⟩, h4⟩
    rintro ⟨g, cap, cur, fz, hv, hg, hh, r⟩
    exact ⟨g, cap, cur, fz, hv, hg, hb _ _ _ _ hh, r⟩
  exact h.imp (key _) (key _)
theorem builder_new {w : World} {b : Nat} (h : w.heap[b]? = some (.cells #[.pointer none, .slice none 0 0] 95 (0, 0))) : Lib.IsBuilderF 95 5 b b [] w :=
  .inl ⟨Nat.le_refl _, _, h, World.ownsRowF_nil _ _ _ _, by simp [Value.ownBlock]⟩
/-- The builder, and all rows of bytes. -/
def SU (b : Nat) (W : World) : Nat → Prop := fun i => i = b ∨ ∃ cur fz, W.heap[i]? = some (.cells cur 5 fz)
theorem su_step {B b : Nat} {W W2 : World} (hs : W.heap.size ≤ W2.heap.size) (h : ∀ i o, W.heap[i]? = some o → i ≠ b → (∀ c fz, o ≠ .cells c 5 fz) → W2.heap[i]? = some o) : Upd B (SU b W) (SU b W2) W W2 := by
  refine ⟨hs, fun i _ hl hn => ?_⟩
  have h1 : W.heap[i]? = some W.heap[i] := Array.getElem?_eq_getElem hl
  have h2 := h i _ h1 (fun e => hn (.inl e)) (fun c fz e => hn (.inr ⟨c, fz, by rw [h1, e]⟩))
  refine ⟨h2.trans h1.symm, ?_⟩
  rintro (e | ⟨c, fz, hc⟩)
  · exact hn (.inl e)
  · exact hn (.inr ⟨c, fz, by rw [← hc, h2, h1]⟩)
theorem su_still {n b : Nat} {W W2 : World} (h : Still n W W2) : SU b W2 = SU b W := by
  funext i
  apply propext
  constructor
  · rintro (e | ⟨c, fz, hc⟩)
    · exact .inl e
    · exact .inr ⟨c, fz, h.new _ _ _ _ hc⟩
  · rintro (e | ⟨c, fz, hc⟩)
    · exact .inl e
    · exact .inr ⟨c, fz, h.old _ _ _ _ hc⟩
/-- The digits of the upper limbs. -/
def upText (l : List Nat) (k : Nat) : List UInt8 := if k = 0 then [] else Lib.decDigits (lv 1000000000 (l.drop (l.length - k)))
theorem up_zero (l : List Nat) : upText l 0 = [] := rfl
theorem up_all {l : List Nat} (h : l ≠ []) : upText l l.length = Lib.decDigits (lv 1000000000 l) := by
  unfold upText
  rw [if_neg (fun e => h (List.eq_nil_of_length_eq_zero e)), Nat.sub_self, List.drop_zero]
theorem drop_val {l : List Nat} {k : Nat} (hk : k < l.length) : lv 1000000000 (l.drop (l.length - (k + 1))) = lat l (l.length - 1 - k) + 1000000000 * lv 1000000000 (l.drop (l.length - k)) := by
  have h1 : l.drop (l.length - (k + 1)) = lat l (l.length - 1 - k) :: l.drop (l.length - k) := by
    rw [show l.length - (k + 1) = l.length - 1 - k by omega, List.drop_eq_getElem_cons (by omega), lat_at (by omega), show l.length - 1 - k + 1 = l.length - k by omega]
  rw [h1]
  rfl
theorem up_first {l : List Nat} (hl : 0 < l.length) : upText l 1 = Lib.decDigits (lat l (l.length - 1)) := by
  unfold upText
  rw [if_neg (by omega), drop_val hl, Nat.sub_zero, Nat.sub_zero, List.drop_length]
  rfl
theorem up_next {l : List Nat} (h : Norm 1000000000 l) {k : Nat} (hk : k < l.length) (h0 : 0 < k) :
    upText l (k + 1) = upText l k ++ (List.replicate (9 - (Lib.decDigits (lat l (l.length - 1 - k))).length) 48 ++ Lib.decDigits (lat l (l.length - 1 - k))) := by
  unfold upText
  rw [if_neg (by omega), if_neg (by omega), drop_val hk]
  have hp : 1 ≤ lv 1000000000 (l.drop (l.length - k)) := by
    have hne : l ≠ [] := fun e => by rw [e] at hk; simp at hk
    have ht := h.top.resolve_left hne
    have h1 := lv_split (b := 1000000000) (l := l.drop (l.length - k)) (i := k - 1) (by rw [List.length_drop]; omega)
    have h2 : lat (l.drop (l.length - k)) (k - 1) = lat l (l.length - 1) := by
      unfold lat
      rw [List.getElem?_drop, show l.length - k + (k - 1) = l.length - 1 by omega]
    rw [h2] at h1
    have h3 : 1000000000 ^ (k - 1) * 1 ≤ 1000000000 ^ (k - 1) * (lat l (l.length - 1) + 1000000000 * lv 1000000000 ((l.drop (l.length - k)).drop (k - 1 + 1))) := Nat.mul_le_mul_left _ (by omega)
    have h4 : 0 < 1000000000 ^ (k - 1) := Nat.pow_pos (by omega)
    omega
  have e := dec_split (q := lv 1000000000 (l.drop (l.length - k))) (r := lat l (l.length - 1 - k)) (k := 9) hp (by have := lat_lt (by omega) h.lt (l.length - 1 - k); simpa using this) (by omega)
  rw [← e]
  congr 1
  have : (10 : Nat) ^ 9 = 1000000000 := by decide
  rw [this]
  omega
end Go.Proofs.YthkioajalhglfaaGreatDoor
