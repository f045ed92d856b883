/-
  Texts laid together.
-/
import Derived.Test.YtklgpilgalfckaaGreatDoorMN3
import Derived.Test.YtklgpilgalfckaaGreatDoorMN1
import Derived.Lib.OthersKept
import Derived.Shelf.Strings.BuilderK
import Derived.BigQuiet
set_option maxRecDepth 100000
set_option maxHeartbeats 8000000
namespace Go.Proofs.YtklgpilgalfckaaGreatDoor
open Go.RowKit Go.KP Go.KI Go.Shelf
attribute [local go_sem] Oper.semAt_some

theorem backPure_any (bx n c : Nat) (a : Option Addr) (f : Nat → Int) (hn : n ≤ 1000000) :
    IterPure Tryz.prog 269 #[.pointer (some ⟨bx, 0, none⟩)] (fun k => #[.int .i64 ((n : Int) - 1 - k), .int .i64 (f k)]) n (BackAt bx a n c f) := by
  intro l J Jx S0 W hKe hY h0
  refine callsIn_of_wp Tryz.func269 rfl trivial ?_ rfl
  simp only [Tryz.ntmps269, List.size_toArray, List.length_cons, List.length_nil, Nat.reduceAdd, Nat.reduceSub, Array.replicate_succ, Array.replicate_zero, List.push_toArray, List.append_toArray, List.nil_append, List.cons_append]
  have c0 := cell_blk (hKe 0 _ _ (Nat.zero_le _) h0).1 0
  have HY := hide hY; have H0 := hide h0; have HK := hide hKe
  clear hY h0 hKe
  gi_wp2
  clear c0
  gi_loopw [3] (fun i wr => ∃ (k : Nat) (S : Nat → Prop), k ≤ n ∧ i = .int .i64 ((n : Int) - 1 - k) ∧ Hid (J k S wr ∧ W.heap.size ≤ wr.heap.size)) (fun i _ => (intOf i + 1).toNat)
  case atStart => exact ⟨0, _, Nat.zero_le _, by simp, H0.out, Nat.le_refl _⟩
  case round =>
    obtain ⟨k, S, hk, rfl, hin⟩ := hrel
    obtain ⟨hbox, hcl⟩ := HK.out k S wr hk hin.out.1
    have c0 := cell_blk hbox 0
    by_cases hlt : k < n
    · obtain ⟨g, o, rfl, hcell⟩ := hcl hlt
      obtain ⟨m, hm⟩ : ∃ m : Nat, (n : Int) - 1 - (k : Int) = m := ⟨n - 1 - k, by omega⟩
      have hm2 : n - 1 - k = m := by omega
      rw [hm2] at hcell
      have hyy := HY.out k S wr hlt hin.out.1 hin.out.2
      rw [hm] at hyy ⊢
      obtain ⟨fn, tmps, assign, body, hy, hR⟩ := hyy
      have HR := hide hR
      have hm0 : (0 : Int) ≤ (m : Int) := by omega
      have hml : (m : Int) < (n : Int) := by omega
      have HM := hide hm; have HSZ := hide hin.out.2
      clear hR hm hm2 hin hcl hbox
      gi_wp2
      refine ⟨rfl, HR.out.mono ?_⟩
      rintro e W3 ⟨S3, hu3, (⟨rfl, hJ3⟩ | ⟨rfl, hJx3⟩)⟩
      · have HJ3 := hide (And.intro hJ3 (Nat.le_trans HSZ.out hu3.size))
        clear hu3 hJ3 hy HR
        gi_wp2
        go_roundw
        case rel => exact ⟨k + 1, S3, by omega, by have := HM.out; congr 1; omega, HJ3.out⟩
        case measure => simp [intOf]
      · clear hu3 hy HR
        gi_wp2
        refine bodyPost_ret (results_none rfl _ _ _) rfl ?_
        exact ⟨⟨_, rfl⟩, S3, .inr hJx3⟩
    · obtain rfl : k = n := by omega
      have hm : (k : Int) - 1 - (k : Int) = -1 := by omega
      rw [hm]
      clear hm hcl c0 hbox
      gi_wp2
      refine bodyPost_end (results_none rfl _ _ _) rfl ?_
      exact ⟨⟨_, rfl⟩, S, .inl hin.out.1⟩
theorem wByte (B b : Nat) (bs : List Value) (c : Int) (w : World) (h : Lib.IsBuilderF 261 5 B b bs w) (hlen : bs.length + 1 ≤ 140737488355328) (hBw : B ≤ w.heap.size) :
    Calls Tryz.prog 249 #[.pointer (some ⟨b, 0, none⟩), .int .u8 c] w fun e w' => e = .returned .nilIface ∧ (Lib.BuilderAtF 261 5 B b (.pointer (some ⟨b, 0, none⟩)) (bs ++ [.int .u8 c]) w' ∧ Below B w w' ∧ Lib.OthersKept 5 (some b) w w') := Any.Builder_WriteByte_k lays167 extra167 B b bs c w h hlen hBw
theorem wString (B b : Nat) (bs : List Value) (s : ByteArray) (w : World) (h : Lib.IsBuilderF 261 5 B b bs w) (hlen : bs.length + s.size ≤ 140737488355328) (hBw : B ≤ w.heap.size) :
    Calls Tryz.prog 235 #[.pointer (some ⟨b, 0, none⟩), .string s] w fun e w' => e = .returned (.tuple #[.int .i64 s.size, .nilIface]) ∧ (Lib.BuilderAtF 261 5 B b (.pointer (some ⟨b, 0, none⟩)) (bs ++ Lib.strCells s) w' ∧ Below B w w' ∧ Lib.OthersKept 5 (some b) w w') := Any.Builder_WriteString_k lays166 Tryz.Builder_Extra_105 B b bs s w h hlen hBw
theorem wGive (B b : Nat) (l : List UInt8) (w : World) (h : Lib.IsBuilderF 261 5 B b (Lib.byteCells l) w) (hBw : B ≤ w.heap.size) :
    Calls Tryz.prog 237 #[.pointer (some ⟨b, 0, none⟩)] w fun e w' => e = .returned (.string (strB l)) ∧ (Lib.IsBuilderF 261 5 B b (Lib.byteCells l) w' ∧ Below B w w' ∧ Lib.OthersKept 5 (some b) w w') := Any.Builder_String_any_k Tryz.lays169 Tryz.Builder_Extra_169 B b l w h hBw
theorem builder_keep {T e : TypeId} {B b : Nat} {bs : List Value} {w w2 : World} (h : Lib.IsBuilderF T e B b bs w) (hb : ∀ (i : Nat) cs t fz, w.heap[i]? = some (Obj.cells cs t fz) → w2.heap[i]? = some (Obj.cells cs t fz)) : Lib.IsBuilderF T e B b bs w2 := by
  have key : ∀ p, Lib.BuilderAtF T e B b p bs w → Lib.BuilderAtF T e B b p bs w2 := by
    rintro p ⟨h1, v, h2, h3, h4⟩
    refine ⟨h1, v, hb _ _ _ _ h2, ⟨h3.1, h3.2.imp id ?_⟩, h4⟩
    rintro ⟨g, cap, cur, fz, hv, hg, hh, r⟩
    exact ⟨g, cap, cur, fz, hv, hg, hb _ _ _ _ hh, r⟩
  exact h.imp (key _) (key _)
theorem builder_new {w : World} {b : Nat} (h : w.heap[b]? = some (.cells #[.pointer none, .slice none 0 0] 261 (0, 0))) : Lib.IsBuilderF 261 5 b b [] w :=
  .inl ⟨Nat.le_refl _, _, h, World.ownsRowF_nil _ _ _ _, by simp [Value.ownBlock]⟩
def SU (b : Nat) (W : World) : Nat → Prop := fun i => i = b ∨ ∃ cur fz, W.heap[i]? = some (.cells cur 5 fz)
theorem su_step {B b : Nat} {W W2 : World} (hs : W.heap.size ≤ W2.heap.size) (h : ∀ i o, W.heap[i]? = some o → i ≠ b → (∀ c fz, o ≠ .cells c 5 fz) → W2.heap[i]? = some o) : Upd B (SU b W) (SU b W2) W W2 := by
  refine ⟨hs, fun i _ hl hn => ?_⟩
  have h1 : W.heap[i]? = some W.heap[i] := Array.getElem?_eq_getElem hl
  have h2 := h i _ h1 (fun e => hn (.inl e)) (fun c fz e => hn (.inr ⟨c, fz, by rw [h1, e]⟩))
  refine ⟨h2.trans h1.symm, ?_⟩
  rintro (e | ⟨c, fz, hc⟩)
  · exact hn (.inl e)
  · exact hn (.inr ⟨c, fz, by rw [← hc, h2, h1]⟩)
theorem su_still {n b : Nat} {W W2 : World} (h : Still n W W2) : SU b W2 = SU b W := by
  funext i
  apply propext
  constructor
  · rintro (e | ⟨c, fz, hc⟩)
    · exact .inl e
    · exact .inr ⟨c, fz, h.new _ _ _ _ hc⟩
  · rintro (e | ⟨c, fz, hc⟩)
    · exact .inl e
    · exact .inr ⟨c, fz, h.old _ _ _ _ hc⟩
def upText (l : List Nat) (k : Nat) : List UInt8 := if k = 0 then [] else Lib.decDigits (lv 1000000000 (l.drop (l.length - k)))
theorem up_zero (l : List Nat) : upText l 0 = [] := rfl
theorem up_all {l : List Nat} (h : l ≠ []) : upText l l.length = Lib.decDigits (lv 1000000000 l) := by
  unfold upText
  rw [if_neg (fun e => h (List.eq_nil_of_length_eq_zero e)), Nat.sub_self, List.drop_zero]
theorem drop_val {l : List Nat} {k : Nat} (hk : k < l.length) : lv 1000000000 (l.drop (l.length - (k + 1))) = lat l (l.length - 1 - k) + 1000000000 * lv 1000000000 (l.drop (l.length - k)) := by
  have h1 : l.drop (l.length - (k + 1)) = lat l (l.length - 1 - k) :: l.drop (l.length - k) := by
    rw [show l.length - (k + 1) = l.length - 1 - k by omega, List.drop_eq_getElem_cons (by omega), lat_at (by omega), show l.length - 1 - k + 1 = l.length - k by omega]
  rw [h1]
  rfl
theorem up_first {l : List Nat} (hl : 0 < l.length) : upText l 1 = Lib.decDigits (lat l (l.length - 1)) := by
  unfold upText
  rw [if_neg (by omega), drop_val hl, Nat.sub_zero, Nat.sub_zero, List.drop_length]
  rfl
theorem up_next {l : List Nat} (h : Norm 1000000000 l) {k : Nat} (hk : k < l.length) (h0 : 0 < k) :
    upText l (k + 1) = upText l k ++ (List.replicate (9 - (Lib.decDigits (lat l (l.length - 1 - k))).length) 48 ++ Lib.decDigits (lat l (l.length - 1 - k))) := by
  unfold upText
  rw [if_neg (by omega), if_neg (by omega), drop_val hk]
  have hp : 1 ≤ lv 1000000000 (l.drop (l.length - k)) := by
    have hne : l ≠ [] := fun e => by rw [e] at hk; simp at hk
    have ht := h.top.resolve_left hne
    have h1 := lv_split (b := 1000000000) (l := l.drop (l.length - k)) (i := k - 1) (by rw [List.length_drop]; omega)
    have h2 : lat (l.drop (l.length - k)) (k - 1) = lat l (l.length - 1) := by
      unfold lat
      rw [List.getElem?_drop, show l.length - k + (k - 1) = l.length - 1 by omega]
    rw [h2] at h1
    have h3 : 1000000000 ^ (k - 1) * 1 ≤ 1000000000 ^ (k - 1) * (lat l (l.length - 1) + 1000000000 * lv 1000000000 ((l.drop (l.length - k)).drop (k - 1 + 1))) := Nat.mul_le_mul_left _ (by omega)
    have h4 : 0 < 1000000000 ^ (k - 1) := Nat.pow_pos (by omega)
    omega
  have e := dec_split (q := lv 1000000000 (l.drop (l.length - k))) (r := lat l (l.length - 1 - k)) (k := 9) hp (by have := lat_lt (by omega) h.lt (l.length - 1 - k); simpa using this) (by omega)
  rw [← e]
  congr 1
  have : (10 : Nat) ^ 9 = 1000000000 := by decide
  rw [this]
  omega
open Go.RowKit Go.KP Go.KI Go.Shelf
attribute [local go_sem] Oper.semAt_some

theorem dec9 {n : Nat} (h : n < 1000000000) : (Lib.decDigits n).length ≤ 9 := (dec_len_le (by omega)).2 (by simpa using h)
theorem up_len {l : List Nat} (h : Norm 1000000000 l) : ∀ k, k ≤ l.length → (upText l k).length ≤ 9 * k := by
  intro k
  induction k with
  | zero => intro _; simp [up_zero]
  | succ k ih =>
    intro hk
    have h9 := dec9 (lat_lt (by omega) h.lt (l.length - 1 - k))
    rcases Nat.eq_zero_or_pos k with h0 | h0
    · subst h0
      rw [up_first (by omega)]
      have : l.length - 1 - 0 = l.length - 1 := by omega
      rw [this] at h9
      omega
    · rw [up_next h (by omega) h0]
      have := ih (by omega)
      simp only [List.length_append, List.length_replicate]
      omega
theorem repeat48 (c : Nat) : Lib.repeatL [48] c = List.replicate c 48 := by
  induction c with
  | zero => rfl
  | succ n ih => simp [Lib.repeatL, ih, List.replicate_succ]
theorem valS_itoa {m : Bool} {n : Nat} (h : 1 ≤ n) : Lib.itoa (valS m n) = (if m then [45] else []) ++ Lib.decDigits n := by
  cases m
  · show Lib.itoa (n : Int) = _
    rw [Lib.itoa_nonneg]
    rfl
  · show Lib.itoa (-(n : Int)) = _
    rw [Lib.itoa_neg n h]
    rfl
theorem byteCells_app (a b : List UInt8) : Lib.byteCells a ++ Lib.strCells (strB b) = Lib.byteCells (a ++ b) := by
  rw [show Lib.strCells (strB b) = Lib.byteCells b from rfl]
  simp [Lib.byteCells]
theorem byteCells_len (a : List UInt8) : (Lib.byteCells a).length = a.length := by simp [Lib.byteCells]
theorem strCells_len (s : ByteArray) : (Lib.strCells s).length = s.size := by
  show (Lib.byteCells s.data.toList).length = _
  rw [byteCells_len, bytes_len]
theorem builder_lt {T e : TypeId} {B b : Nat} {bs : List Value} {w : World} (h : Lib.IsBuilderF T e B b bs w) : b < w.heap.size := by
  rcases h with ⟨_, v, h2, _⟩ | ⟨_, v, h2, _⟩ <;> exact lt_blk h2
theorem ok_box {bb i : Nat} {W W2 : World} {cs : Array Value} (h : Lib.OthersKept 5 (some bb) W W2) (hi : i ≠ bb) (hb : W.heap[i]? = some (.cells cs 199 (0, 0))) : W2.heap[i]? = some (.cells cs 199 (0, 0)) :=
  h i _ hb (fun e => hi (Option.some.inj e)) (fun c fz e => by injection e with _ e _; exact absurd e (by decide))
theorem write_any (m : Bool) (v : Value) (l : List Nat) (B : Nat) (w : World) (h : LimbAt B w v l) (hB : B ≤ w.heap.size) (hn : Norm 1000000000 l) (hl : l.length ≤ 100000) (hT : P10 B w) :
    Calls Tryz.prog 216 #[numV m v] w (Ret w (.string (strB (Lib.itoa (valS m (lv 1000000000 l)))))) := by
  obtain ⟨a0, c0, hv⟩ := h.form
  subst hv
  have HL := hide h; have HN := hide hn; have HT := hide hT
  clear h hn hT
  obtain ⟨n, hnn⟩ : ∃ n, n = l.length := ⟨_, rfl⟩
  have HNN := hide hnn
  rw [← hnn] at hl ⊢
  clear hnn
  obtain ⟨b0, bs0, bb0⟩ := heap1 w (.cells #[.bool m, .slice a0 n c0] 207)
  refine (callsIn_wide (n := 0)).1 ?_
  refine callsIn_of_wp_marks Tryz.func216 rfl trivial ?_ rfl
  simp only [Tryz.ntmps216, List.size_toArray, List.length_cons, List.length_nil, Nat.reduceAdd, Nat.reduceSub, Array.replicate_succ, Array.replicate_zero, List.push_toArray, List.append_toArray, List.nil_append, List.cons_append]
  by_cases h0 : n = 0
  · have hnil : l = [] := List.eq_nil_of_length_eq_zero (HNN.out.symm.trans h0)
    have hq : ((n : Int) == 0) = true := by rw [h0]; rfl
    have HE := hide (show Lib.itoa (valS m (lv 1000000000 l)) = [48] by
      rw [hnil, lv_nil]
      cases m <;> exact itoa_zero)
    have BB := hide bb0
    clear h0 hnil b0 bs0 bb0
    gi_wp2_with fail
    rw [HE.out]
    exact ⟨_, results_tmp rfl _ _ _, rfl, BB.out⟩
  · have hq : ((n : Int) == 0) = false := by simpa using h0
    obtain ⟨b1, bs1, bb1⟩ := heap1 (w.alloc (.cells #[.bool m, .slice a0 n c0] 207)) (.cells #[.pointer none, .slice none 0 0] 261)
    obtain ⟨w1, hw1⟩ : ∃ w1, (w.alloc (.cells #[.bool m, .slice a0 n c0] 207)).alloc (.cells #[.pointer none, .slice none 0 0] 261) = w1 := ⟨_, rfl⟩
    have e0 := below_blk bb1 b0 (by omega)
    have eb := bb0.trans (bb1.mono (by omega))
    rw [hw1] at b1 bs1 e0 eb
    rw [bs0] at b1 bs1
    have E0 := hide e0; have E1 := hide (builder_new b1); have EB := hide eb
    have c1 := cell_blk e0 0
    have c2 := cell_blk e0 1
    have hs1 : w.heap.size + 2 ≤ w1.heap.size := by omega
    clear b0 bs0 bb0 b1 bs1 bb1 e0 eb
    obtain ⟨pre, hpre⟩ : ∃ pre : List UInt8, pre = if m then [45] else [] := ⟨_, rfl⟩
    have HPRE := hide hpre
    have hne : l ≠ [] := fun e => h0 (by rw [HNN.out, e]; rfl)
    have hpos : 1 ≤ lv 1000000000 l := by
      have h1 := HN.out.ge hne
      have h2 : 0 < 1000000000 ^ (l.length - 1) := Nat.pow_pos (by omega)
      omega
    have HTX := hide (show Lib.itoa (valS m (lv 1000000000 l)) = pre ++ upText l n by rw [valS_itoa hpos, ← hpre, HNN.out, up_all hne])
    clear hpos hne
    have hpl : pre.length ≤ 1 := by rw [hpre]; cases m <;> simp
    clear hpre
    cases m
    case' true =>
      gi_wp2_with fail
      refine ⟨trivial, rfl, (callsIn_wide.2 (wByte (w.heap.size + 1) (w.heap.size + 1) [] 45 w1 E1.out (by simp) (by omega))).mono ?_⟩
      rintro e w2 ⟨rfl, hb2, bl2, ok2⟩
      have E0' := hide (show w2.heap[w.heap.size]? = some (.cells #[.bool true, .slice a0 n c0] 207 (0, 0)) from below_blk bl2 E0.out (by omega))
      have E1' := hide (show Lib.IsBuilderF 261 5 (w.heap.size + 1) (w.heap.size + 1) (Lib.byteCells pre) w2 by rw [HPRE.out]; exact .inr hb2)
      have EB' := hide (EB.out.trans (bl2.mono (by omega)))
      have hs1' : w.heap.size + 2 ≤ w2.heap.size := by have := bl2.size; omega
      clear hb2 bl2 ok2 E0 E1 EB c1 c2 hs1 hw1
      obtain ⟨w1, rfl⟩ : ∃ x, x = w2 := ⟨_, rfl⟩
      have E0 := E0'; have E1 := E1'; have EB := EB'; have hs1 := hs1'
      clear E0' E1' EB' hs1'
      have c1 := cell_blk E0.out 0
      have c2 := cell_blk E0.out 1
      gi_wp2_with fail
    case' false =>
      have E1' := hide (show Lib.IsBuilderF 261 5 (w.heap.size + 1) (w.heap.size + 1) (Lib.byteCells pre) w1 by rw [HPRE.out]; exact E1.out)
      clear E1
      have E1 := E1'
      clear E1'
      gi_wp2_with fail
      clear hw1
    all_goals
      refine ⟨trivial, rfl, (callsIn_wide.2 (backward_any a0 n c0 w1)).mono ?_⟩
      rintro e w3 ⟨rfl, hw3⟩
      obtain ⟨b3, bs3, bb3⟩ := heap1 w1 (.cells #[.slice a0 n c0] 199)
      rw [hw3] at b3 bs3 bb3
      have F0 := hide (below_blk bb3 E0.out (by omega))
      have F1 := hide (show Lib.IsBuilderF 261 5 (w.heap.size + 1) (w.heap.size + 1) (Lib.byteCells pre) w3 from builder_keep E1.out (fun i cs t fz h => below_blk bb3 h (lt_blk h)))
      have F2 := hide b3; have FB := hide (EB.out.trans (bb3.mono (by omega)))
      have hs3 : w1.heap.size < w3.heap.size := by omega
      clear b3 bs3 bb3 E0 E1 EB c1 c2
      gi_wp2_with fail
    case neg.false =>
      refine wp_iter_pure (gf := 269) (lb := #[.pointer (some ⟨w1.heap.size, 0, none⟩)]) rfl (enters_of Tryz.func269 (by kernel_rfl) rfl) (backPure_any w1.heap.size n c0 a0 (fun k => (lat l (n - 1 - k) : Nat)) (by omega)) (fun _ => rfl)
        (fun k S W => S = SU (w.heap.size + 1) W ∧ Lib.IsBuilderF 261 5 (w.heap.size + 1) (w.heap.size + 1) (Lib.byteCells (pre ++ upText l k)) W ∧ W.heap[w.heap.size]? = some (.cells #[.bool false, .slice a0 n c0] 207 (0, 0)) ∧ W.heap[w1.heap.size]? = some (.cells #[.slice a0 n c0] 199 (0, 0)) ∧ Below w.heap.size w W)
        (fun _ _ _ => False) ?hI (fun _ _ _ _ h _ => h) (S0 := SU (w.heap.size + 1) w3) ?h0 ?hke
        (fun k S a1' W => a1' = { tmps := #[numV false (.slice a0 n c0), .pointer (some ⟨w.heap.size, 0, none⟩), .string ⟨#[]⟩, .pointer (some ⟨w.heap.size + 1, 0, none⟩), .int .i64 ((n : Int) - 1 - k), .int .i64 (lat l (n - 1 - k)), undef, .pointer (some ⟨w.heap.size, 1, none⟩), .slice a0 n c0, .int .i64 n, .bool false, .pointer (some ⟨w.heap.size, 0, none⟩), .bool false, undef, .pointer (some ⟨w.heap.size, 1, none⟩), .slice a0 n c0, .func (.func 269) #[] #[.pointer (some ⟨w1.heap.size, 0, none⟩)], .int .i64 ((n : Int) - 1 - k), .int .i64 (lat l (n - 1 - k)), undef, undef, undef, undef, undef, undef, undef, undef, undef, undef, undef, undef, undef, undef, undef, undef], defers := [] })
        ?hAx ?hassign ?hS ?hbody ?hdone ?hstop
      case hI =>
        rintro k S W W2 ⟨rfl, h1, h2, h3, h4⟩ hq
        exact ⟨(su_still hq).symm, builder_keep h1 hq.old, hq.old _ _ _ _ h2, hq.old _ _ _ _ h3, ⟨h4.os.symm ▸ hq.os, h4.tape.symm ▸ hq.tape, h4.output.symm ▸ hq.output, Nat.le_trans h4.size hq.size, fun j hj => (hq.kept j (by omega) (by have := h4.size; omega)).trans (h4.block j hj)⟩⟩
      case h0 =>
        refine ⟨rfl, ?_, F0.out, F2.out, FB.out⟩
        rw [up_zero, List.append_nil]
        exact F1.out
      case hke =>
        rintro k S W hk ⟨rfl, h1, h2, h3, h4⟩
        refine ⟨h3, fun hlt => ?_⟩
        have hL := HL.out
        rw [← HNN.out] at hL
        rcases LimbAt.cases (l := l) (by rw [HNN.out] at hL; exact hL) with ⟨a, c, e1, e2⟩ | ⟨g, o, cap, e1, e2, e3⟩
        · subst e2
          have := HNN.out
          simp at this
          omega
        · injection e1 with e1 _ _
          refine ⟨g, o, e1, ?_⟩
          have h5 := e3 (n - 1 - k) (by rw [← HNN.out]; omega)
          have h6 : W.heap[g]? = w.heap[g]? := h4.block g (by omega)
          rw [← h5]
          simp [World.cell?, h6]
      case hAx =>
        rintro k S a1' W l r r2 h _
        exact h
      case hassign =>
        intro lp k S W K hsz hSlt hK
        have HK := hide hK
        clear hK
        gi_wp2
        exact HK.out _ rfl
      case hS =>
        rintro k S W ⟨rfl, h1, _⟩ b (rfl | ⟨cur, fz, hb⟩)
        · exact builder_lt h1
        · exact lt_blk hb
      case hstop =>
        intro D c S W _ h
        exact h.elim
      case hbody =>
        rintro lp k S a1' W hk ⟨rfl, h1, h2, h3, h4⟩ rfl hsz
        obtain ⟨d, hd⟩ : ∃ d, d = lat l (n - 1 - k) := ⟨_, rfl⟩
        rw [← hd]
        have hdl : d < 1000000000 := by rw [hd]; exact lat_lt (by omega) HN.out.lt _
        obtain ⟨t, ht⟩ : ∃ t, t = strB (Lib.itoa d) := ⟨_, rfl⟩
        have htb : strB (Lib.decDigits d) = t := by rw [ht, Lib.itoa_nonneg]
        have hts : t.size ≤ 9 := by rw [← htb, strB_size]; exact dec9 hdl
        have hlen : (Lib.byteCells (pre ++ upText l k)).length ≤ 1 + 9 * k := by
          rw [byteCells_len, List.length_append]
          have := up_len HN.out k (by rw [← HNN.out]; omega)
          omega
        have hTW : P10 B W := fun w' hb => HT.out w' ((h4.mono hB).trans hb)
        have hsz1 : w.heap.size + 1 < W.heap.size := by omega
        have c1 := cell_blk h2 0
        have c2 := cell_blk h2 1
        have G1 := hide h1; have G2 := hide h2; have G3 := hide h3; have G4 := hide h4; have HTW := hide hTW; have HD := hide hd; have HTT := hide ht; have HTB := hide htb; have HLN := hide hlen
        clear h1 h2 h3 h4 hTW hd ht htb F0 F1 F2 FB hw3 hlen
        gi_wp2_with fail
        refine ⟨trivial, rfl, (CallsIn.inRound lp (callsIn_wide.2 (itoa_any d (by omega) (by omega) B W HTW.out))).mono ?_⟩
        rw [← HTT.out]
        rintro e W2 ⟨rfl, hb2⟩
        have K1 := hide (builder_keep G1.out (fun i cs t fz h => below_blk hb2 h (lt_blk h)))
        have K2 := hide (below_blk hb2 G2.out (lt_blk G2.out)); have K3 := hide (below_blk hb2 G3.out (lt_blk G3.out)); have K4 := hide (G4.out.trans (hb2.mono (by omega)))
        have hsz2 : W.heap.size ≤ W2.heap.size := hb2.size
        have KB := hide hb2
        have c1 := cell_blk K2.out 0
        have c2 := cell_blk K2.out 1
        clear hb2 G1 G2 G3 G4 HTW
        by_cases hk0 : k = 0
        · have hte : ((n : Int) - 1 - (k : Int) < (n : Int) - 1) = False := eq_false (by omega)
          gi_wp2_with fail
          refine ⟨trivial, rfl, (CallsIn.inRound lp (callsIn_wide.2 (wString (w.heap.size + 1) (w.heap.size + 1) _ t W2 K1.out (by have := HLN.out; omega) (by omega)))).mono ?_⟩
          rintro e W4 ⟨rfl, hf, bl4, ok4⟩
          have HF := hide hf; have BL := hide bl4; have OK := hide ok4
          clear hf bl4 ok4
          gi_wp2_with fail
          refine ⟨_, su_step (b := w.heap.size + 1) (Nat.le_trans hsz2 BL.out.size) (fun i o hi hib hio => OK.out i o (below_blk KB.out hi (lt_blk hi)) (by intro e; injection e with e; exact hib e) hio), rfl, ?_, below_blk BL.out K2.out (by omega), ok_box OK.out (by omega) K3.out, K4.out.trans (BL.out.mono (by omega))⟩
          have h1 := HF.out
          rw [← HTB.out, byteCells_app, hk0, up_zero, List.append_nil, HD.out, hk0] at h1
          rw [hk0, up_first (by rw [← HNN.out]; omega), ← HNN.out]
          exact .inr h1
        · have hte : (n : Int) - 1 - (k : Int) < (n : Int) - 1 := by omega
          obtain ⟨q, hq9⟩ : ∃ q : Nat, (9 : Int) - (t.size : Int) = (q : Int) := ⟨9 - t.size, by omega⟩
          have HQ := hide (show q = 9 - t.size by omega)
          have hqs : q ≤ 9 := by omega
          gi_wp2_with fail
          clear hq9
          refine ⟨trivial, rfl, (CallsIn.inRound lp (callsIn_wide.2 (repeat_any ⟨#[48]⟩ q W2 (by omega) (by decide)))).mono ?_⟩
          rw [show (⟨#[48]⟩ : ByteArray).data.toList = [48] from rfl, repeat48]
          rintro e W3 ⟨rfl, hb3⟩
          have L1 := hide (builder_keep K1.out (fun i cs t fz h => below_blk hb3 h (lt_blk h)))
          have L2 := hide (below_blk hb3 K2.out (lt_blk K2.out)); have L3 := hide (below_blk hb3 K3.out (lt_blk K3.out)); have L4 := hide (K4.out.trans (hb3.mono (by omega)))
          have hsz3 : W2.heap.size ≤ W3.heap.size := hb3.size
          have LB := hide hb3
          obtain ⟨z, hz⟩ : ∃ z, z = strB (List.replicate q 48) := ⟨_, rfl⟩
          rw [← hz]
          have hzs : z.size ≤ 9 := by rw [hz, strB_size]; simp; omega
          have HZ := hide hz
          clear hb3 K1 K2 K3 K4 c1 c2 hz
          gi_wp2_with fail
          refine ⟨trivial, rfl, (CallsIn.inRound lp (callsIn_wide.2 (wString (w.heap.size + 1) (w.heap.size + 1) _ z W3 L1.out (by have := HLN.out; omega) (by omega)))).mono ?_⟩
          rintro e W4 ⟨rfl, hf, bl4, ok4⟩
          have HF := hide (show Lib.IsBuilderF 261 5 (w.heap.size + 1) (w.heap.size + 1) _ W4 from .inr hf); have BL := hide bl4; have OK := hide ok4
          have hsz4 : W3.heap.size ≤ W4.heap.size := bl4.size
          clear hf bl4 ok4
          gi_wp2_with fail
          refine ⟨trivial, rfl, (CallsIn.inRound lp (callsIn_wide.2 (wString (w.heap.size + 1) (w.heap.size + 1) _ t W4 HF.out (by have := HLN.out; rw [List.length_append, strCells_len z]; omega) (by omega)))).mono ?_⟩
          rintro e W5 ⟨rfl, hf, bl5, ok5⟩
          have HF2 := hide hf; have BL5 := hide bl5; have OK5 := hide ok5
          clear hf bl5 ok5
          gi_wp2_with fail
          refine ⟨_, su_step (b := w.heap.size + 1) (Nat.le_trans hsz2 (Nat.le_trans hsz3 (Nat.le_trans hsz4 BL5.out.size))) (fun i o hi hib hio => OK5.out i o (OK.out i o (below_blk LB.out (below_blk KB.out hi (lt_blk hi)) (by have := lt_blk hi; omega)) (by intro e; injection e with e; exact hib e) hio) (by intro e; injection e with e; exact hib e) hio), rfl, ?_, below_blk BL5.out (below_blk BL.out L2.out (by omega)) (by omega), ok_box OK5.out (by omega) (ok_box OK.out (by omega) L3.out), L4.out.trans ((BL.out.mono (by omega)).trans (BL5.out.mono (by omega)))⟩
          have h1 := HF2.out
          rw [HZ.out, byteCells_app, ← HTB.out, byteCells_app, HQ.out, ← HTB.out, strB_size, HD.out, HNN.out] at h1
          rw [up_next HN.out (by rw [← HNN.out]; omega) (by omega)]
          rw [List.append_assoc, List.append_assoc] at h1
          exact .inr h1
      case hdone =>
        rintro D S W hD ⟨rfl, h1, h2, h3, h4⟩ hDf
        have G1 := hide h1; have G4 := hide h4; have GD := hide hDf
        have hsz1 : w.heap.size + 1 < W.heap.size := by have := lt_blk hDf; omega
        clear h1 h2 h3 h4 hDf F0 F1 F2 FB hw3
        gi_wp2_with fail
        refine ⟨trivial, rfl, (callsIn_wide.2 (wGive (w.heap.size + 1) (w.heap.size + 1) (pre ++ upText l n) W G1.out (by omega))).mono ?_⟩
        rintro e W2 ⟨rfl, hf, bl, ok⟩
        have BL := hide bl
        have GD2 := hide (ok D _ GD.out (by intro e; injection e with e; omega) (fun c fz e => by cases e))
        clear hf bl ok
        gi_wp2_with fail
        refine ⟨by simp, .inl ⟨_, _, rfl, run_takeDeferred GD2.out, ?_⟩⟩
        refine ⟨_, results_tmp rfl _ _ _, ?_, ?_⟩
        · rw [HTX.out]
          rfl
        · exact G4.out.trans ((BL.out.mono (by omega)).trans (belowK_b (w := w) (Nat.le_refl _) _ D _ _ (by omega) GD2.out rfl rfl))
    case neg.true =>
      refine wp_iter_pure (gf := 269) (lb := #[.pointer (some ⟨w1.heap.size, 0, none⟩)]) rfl (enters_of Tryz.func269 (by kernel_rfl) rfl) (backPure_any w1.heap.size n c0 a0 (fun k => (lat l (n - 1 - k) : Nat)) (by omega)) (fun _ => rfl)
        (fun k S W => S = SU (w.heap.size + 1) W ∧ Lib.IsBuilderF 261 5 (w.heap.size + 1) (w.heap.size + 1) (Lib.byteCells (pre ++ upText l k)) W ∧ W.heap[w.heap.size]? = some (.cells #[.bool true, .slice a0 n c0] 207 (0, 0)) ∧ W.heap[w1.heap.size]? = some (.cells #[.slice a0 n c0] 199 (0, 0)) ∧ Below w.heap.size w W)
        (fun _ _ _ => False) ?hI (fun _ _ _ _ h _ => h) (S0 := SU (w.heap.size + 1) w3) ?h0 ?hke
        (fun k S a1' W => a1' = { tmps := #[numV true (.slice a0 n c0), .pointer (some ⟨w.heap.size, 0, none⟩), .string ⟨#[]⟩, .pointer (some ⟨w.heap.size + 1, 0, none⟩), .int .i64 ((n : Int) - 1 - k), .int .i64 (lat l (n - 1 - k)), undef, .pointer (some ⟨w.heap.size, 1, none⟩), .slice a0 n c0, .int .i64 n, .bool false, .pointer (some ⟨w.heap.size, 0, none⟩), .bool true, .nilIface, .pointer (some ⟨w.heap.size, 1, none⟩), .slice a0 n c0, .func (.func 269) #[] #[.pointer (some ⟨w1.heap.size, 0, none⟩)], .int .i64 ((n : Int) - 1 - k), .int .i64 (lat l (n - 1 - k)), undef, undef, undef, undef, undef, undef, undef, undef, undef, undef, undef, undef, undef, undef, undef, undef], defers := [] })
        ?hAx ?hassign ?hS ?hbody ?hdone ?hstop
      case hI =>
        rintro k S W W2 ⟨rfl, h1, h2, h3, h4⟩ hq
        exact ⟨(su_still hq).symm, builder_keep h1 hq.old, hq.old _ _ _ _ h2, hq.old _ _ _ _ h3, ⟨h4.os.symm ▸ hq.os, h4.tape.symm ▸ hq.tape, h4.output.symm ▸ hq.output, Nat.le_trans h4.size hq.size, fun j hj => (hq.kept j (by omega) (by have := h4.size; omega)).trans (h4.block j hj)⟩⟩
      case h0 =>
        refine ⟨rfl, ?_, F0.out, F2.out, FB.out⟩
        rw [up_zero, List.append_nil]
        exact F1.out
      case hke =>
        rintro k S W hk ⟨rfl, h1, h2, h3, h4⟩
        refine ⟨h3, fun hlt => ?_⟩
        have hL := HL.out
        rw [← HNN.out] at hL
        rcases LimbAt.cases (l := l) (by rw [HNN.out] at hL; exact hL) with ⟨a, c, e1, e2⟩ | ⟨g, o, cap, e1, e2, e3⟩
        · subst e2
          have := HNN.out
          simp at this
          omega
        · injection e1 with e1 _ _
          refine ⟨g, o, e1, ?_⟩
          have h5 := e3 (n - 1 - k) (by rw [← HNN.out]; omega)
          have h6 : W.heap[g]? = w.heap[g]? := h4.block g (by omega)
          rw [← h5]
          simp [World.cell?, h6]
      case hAx =>
        rintro k S a1' W l r r2 h _
        exact h
      case hassign =>
        intro lp k S W K hsz hSlt hK
        have HK := hide hK
        clear hK
        gi_wp2
        exact HK.out _ rfl
      case hS =>
        rintro k S W ⟨rfl, h1, _⟩ b (rfl | ⟨cur, fz, hb⟩)
        · exact builder_lt h1
        · exact lt_blk hb
      case hstop =>
        intro D c S W _ h
        exact h.elim
      case hbody =>
        rintro lp k S a1' W hk ⟨rfl, h1, h2, h3, h4⟩ rfl hsz
        obtain ⟨d, hd⟩ : ∃ d, d = lat l (n - 1 - k) := ⟨_, rfl⟩
        rw [← hd]
        have hdl : d < 1000000000 := by rw [hd]; exact lat_lt (by omega) HN.out.lt _
        obtain ⟨t, ht⟩ : ∃ t, t = strB (Lib.itoa d) := ⟨_, rfl⟩
        have htb : strB (Lib.decDigits d) = t := by rw [ht, Lib.itoa_nonneg]
        have hts : t.size ≤ 9 := by rw [← htb, strB_size]; exact dec9 hdl
        have hlen : (Lib.byteCells (pre ++ upText l k)).length ≤ 1 + 9 * k := by
          rw [byteCells_len, List.length_append]
          have := up_len HN.out k (by rw [← HNN.out]; omega)
          omega
        have hTW : P10 B W := fun w' hb => HT.out w' ((h4.mono hB).trans hb)
        have hsz1 : w.heap.size + 1 < W.heap.size := by omega
        have c1 := cell_blk h2 0
        have c2 := cell_blk h2 1
        have G1 := hide h1; have G2 := hide h2; have G3 := hide h3; have G4 := hide h4; have HTW := hide hTW; have HD := hide hd; have HTT := hide ht; have HTB := hide htb; have HLN := hide hlen
        clear h1 h2 h3 h4 hTW hd ht htb F0 F1 F2 FB hw3 hlen
        gi_wp2_with fail
        refine ⟨trivial, rfl, (CallsIn.inRound lp (callsIn_wide.2 (itoa_any d (by omega) (by omega) B W HTW.out))).mono ?_⟩
        rw [← HTT.out]
        rintro e W2 ⟨rfl, hb2⟩
        have K1 := hide (builder_keep G1.out (fun i cs t fz h => below_blk hb2 h (lt_blk h)))
        have K2 := hide (below_blk hb2 G2.out (lt_blk G2.out)); have K3 := hide (below_blk hb2 G3.out (lt_blk G3.out)); have K4 := hide (G4.out.trans (hb2.mono (by omega)))
        have hsz2 : W.heap.size ≤ W2.heap.size := hb2.size
        have KB := hide hb2
        have c1 := cell_blk K2.out 0
        have c2 := cell_blk K2.out 1
        clear hb2 G1 G2 G3 G4 HTW
        by_cases hk0 : k = 0
        · have hte : ((n : Int) - 1 - (k : Int) < (n : Int) - 1) = False := eq_false (by omega)
          gi_wp2_with fail
          refine ⟨trivial, rfl, (CallsIn.inRound lp (callsIn_wide.2 (wString (w.heap.size + 1) (w.heap.size + 1) _ t W2 K1.out (by have := HLN.out; omega) (by omega)))).mono ?_⟩
          rintro e W4 ⟨rfl, hf, bl4, ok4⟩
          have HF := hide hf; have BL := hide bl4; have OK := hide ok4
          clear hf bl4 ok4
          gi_wp2_with fail
          refine ⟨_, su_step (b := w.heap.size + 1) (Nat.le_trans hsz2 BL.out.size) (fun i o hi hib hio => OK.out i o (below_blk KB.out hi (lt_blk hi)) (by intro e; injection e with e; exact hib e) hio), rfl, ?_, below_blk BL.out K2.out (by omega), ok_box OK.out (by omega) K3.out, K4.out.trans (BL.out.mono (by omega))⟩
          have h1 := HF.out
          rw [← HTB.out, byteCells_app, hk0, up_zero, List.append_nil, HD.out, hk0] at h1
          rw [hk0, up_first (by rw [← HNN.out]; omega), ← HNN.out]
          exact .inr h1
        · have hte : (n : Int) - 1 - (k : Int) < (n : Int) - 1 := by omega
          obtain ⟨q, hq9⟩ : ∃ q : Nat, (9 : Int) - (t.size : Int) = (q : Int) := ⟨9 - t.size, by omega⟩
          have HQ := hide (show q = 9 - t.size by omega)
          have hqs : q ≤ 9 := by omega
          gi_wp2_with fail
          clear hq9
          refine ⟨trivial, rfl, (CallsIn.inRound lp (callsIn_wide.2 (repeat_any ⟨#[48]⟩ q W2 (by omega) (by decide)))).mono ?_⟩
          rw [show (⟨#[48]⟩ : ByteArray).data.toList = [48] from rfl, repeat48]
          rintro e W3 ⟨rfl, hb3⟩
          have L1 := hide (builder_keep K1.out (fun i cs t fz h => below_blk hb3 h (lt_blk h)))
          have L2 := hide (below_blk hb3 K2.out (lt_blk K2.out)); have L3 := hide (below_blk hb3 K3.out (lt_blk K3.out)); have L4 := hide (K4.out.trans (hb3.mono (by omega)))
          have hsz3 : W2.heap.size ≤ W3.heap.size := hb3.size
          have LB := hide hb3
          obtain ⟨z, hz⟩ : ∃ z, z = strB (List.replicate q 48) := ⟨_, rfl⟩
          rw [← hz]
          have hzs : z.size ≤ 9 := by rw [hz, strB_size]; simp; omega
          have HZ := hide hz
          clear hb3 K1 K2 K3 K4 c1 c2 hz
          gi_wp2_with fail
          refine ⟨trivial, rfl, (CallsIn.inRound lp (callsIn_wide.2 (wString (w.heap.size + 1) (w.heap.size + 1) _ z W3 L1.out (by have := HLN.out; omega) (by omega)))).mono ?_⟩
          rintro e W4 ⟨rfl, hf, bl4, ok4⟩
          have HF := hide (show Lib.IsBuilderF 261 5 (w.heap.size + 1) (w.heap.size + 1) _ W4 from .inr hf); have BL := hide bl4; have OK := hide ok4
          have hsz4 : W3.heap.size ≤ W4.heap.size := bl4.size
          clear hf bl4 ok4
          gi_wp2_with fail
          refine ⟨trivial, rfl, (CallsIn.inRound lp (callsIn_wide.2 (wString (w.heap.size + 1) (w.heap.size + 1) _ t W4 HF.out (by have := HLN.out; rw [List.length_append, strCells_len z]; omega) (by omega)))).mono ?_⟩
          rintro e W5 ⟨rfl, hf, bl5, ok5⟩
          have HF2 := hide hf; have BL5 := hide bl5; have OK5 := hide ok5
          clear hf bl5 ok5
          gi_wp2_with fail
          refine ⟨_, su_step (b := w.heap.size + 1) (Nat.le_trans hsz2 (Nat.le_trans hsz3 (Nat.le_trans hsz4 BL5.out.size))) (fun i o hi hib hio => OK5.out i o (OK.out i o (below_blk LB.out (below_blk KB.out hi (lt_blk hi)) (by have := lt_blk hi; omega)) (by intro e; injection e with e; exact hib e) hio) (by intro e; injection e with e; exact hib e) hio), rfl, ?_, below_blk BL5.out (below_blk BL.out L2.out (by omega)) (by omega), ok_box OK5.out (by omega) (ok_box OK.out (by omega) L3.out), L4.out.trans ((BL.out.mono (by omega)).trans (BL5.out.mono (by omega)))⟩
          have h1 := HF2.out
          rw [HZ.out, byteCells_app, ← HTB.out, byteCells_app, HQ.out, ← HTB.out, strB_size, HD.out, HNN.out] at h1
          rw [up_next HN.out (by rw [← HNN.out]; omega) (by omega)]
          rw [List.append_assoc, List.append_assoc] at h1
          exact .inr h1
      case hdone =>
        rintro D S W hD ⟨rfl, h1, h2, h3, h4⟩ hDf
        have G1 := hide h1; have G4 := hide h4; have GD := hide hDf
        have hsz1 : w.heap.size + 1 < W.heap.size := by have := lt_blk hDf; omega
        clear h1 h2 h3 h4 hDf F0 F1 F2 FB hw3
        gi_wp2_with fail
        refine ⟨trivial, rfl, (callsIn_wide.2 (wGive (w.heap.size + 1) (w.heap.size + 1) (pre ++ upText l n) W G1.out (by omega))).mono ?_⟩
        rintro e W2 ⟨rfl, hf, bl, ok⟩
        have BL := hide bl
        have GD2 := hide (ok D _ GD.out (by intro e; injection e with e; omega) (fun c fz e => by cases e))
        clear hf bl ok
        gi_wp2_with fail
        refine ⟨by simp, .inl ⟨_, _, rfl, run_takeDeferred GD2.out, ?_⟩⟩
        refine ⟨_, results_tmp rfl _ _ _, ?_, ?_⟩
        · rw [HTX.out]
          rfl
        · exact G4.out.trans ((BL.out.mono (by omega)).trans (belowK_b (w := w) (Nat.le_refl _) _ D _ _ (by omega) GD2.out rfl rfl))
open Go.RowKit Go.KP Go.KI Go.Shelf
attribute [local go_sem] Oper.semAt_some

theorem P10.on {B n : Nat} {w w2 : World} (h : P10 B w) (hb : Below n w w2) (hB : B ≤ n) : P10 B w2 := fun w' h2 => h w' ((hb.mono hB).trans h2)
theorem fits_limbs {m : Bool} {l : List Nat} (h : Norm 1000000000 l) (hf : fits (valS m (lv 1000000000 l))) : l.length ≤ 40 := by
  rcases Nat.lt_or_ge 40 l.length with hl | hl
  · exfalso
    have hne : l ≠ [] := fun e => by rw [e] at hl; simp at hl
    have h1 := h.ge hne
    have h2 : lv 1000000000 l < lim := by
      have : (valS m (lv 1000000000 l)).natAbs = lv 1000000000 l := by cases m <;> simp [valS]
      rw [← this]
      exact hf
    have h3 : lim ≤ 1000000000 ^ (l.length - 1) := by
      have e1 : (1000000000 : Nat) ^ (l.length - 1) = 10 ^ (9 * (l.length - 1)) := by rw [Nat.pow_mul]
      rw [e1]
      exact Nat.pow_le_pow_right (by omega) (by rw [most_eq]; omega)
    omega
  · exact hl
theorem digs_size (z : Int) : (strB (digs (Lib.itoa z))).size = (Lib.decDigits z.natAbs).length := by rw [strB_size, digs_itoa]
theorem resS_yes {z : Int} (h : ¬ 300 < (Lib.decDigits z.natAbs).length) : resS z = Lib.itoa z ∧ resE z = 0 := by
  have : fits z := fits_len.2 (by omega)
  exact ⟨if_pos this, if_pos this⟩
theorem resS_no {z : Int} (h : 300 < (Lib.decDigits z.natAbs).length) : resS z = [] ∧ resE z = 4 := by
  have : ¬ fits z := fun hf => by have := fits_len.1 hf; omega
  exact ⟨if_neg this, if_neg this⟩
abbrev pairV (s : List UInt8) (e : Int) : Value := .tuple #[.string (strB s), .int .i64 e]
theorem result_any (m : Bool) (v : Value) (l : List Nat) (B : Nat) (w : World) (h : LimbAt B w v l) (hB : B ≤ w.heap.size) (hn : Norm 1000000000 l) (hl : l.length ≤ 100000) (hT : P10 B w) :
    Calls Tryz.prog 170 #[numV m v] w (Ret w (pairV (resS (valS m (lv 1000000000 l))) (resE (valS m (lv 1000000000 l))))) := by
  obtain ⟨a0, c0, hv⟩ := h.form
  subst hv
  have HW := hide (fun w2 (hb : Below w.heap.size w w2) => write_any m _ l B w2 (h.below hb hB) (by have := hb.size; omega) hn hl (hT.on hb hB))
  clear h hn hT
  obtain ⟨n, hnn⟩ : ∃ n, n = l.length := ⟨_, rfl⟩
  rw [← hnn] at hl HW ⊢
  clear hnn
  obtain ⟨z, hz⟩ : ∃ z, z = valS m (lv 1000000000 l) := ⟨_, rfl⟩
  rw [← hz] at HW ⊢
  clear hz
  obtain ⟨b0, bs0, bb0⟩ := heap1 w (.cells #[.bool m, .slice a0 n c0] 207)
  have B0 := hide b0; have BB := hide bb0
  have c0' := cell_blk b0 0
  have c1' := cell_blk b0 1
  clear b0 bs0 bb0
  have hd := digs_size z
  obtain ⟨t, ht⟩ : ∃ t, t = strB (Lib.itoa z) := ⟨_, rfl⟩
  obtain ⟨u, hu⟩ : ∃ u, u = strB (digs (Lib.itoa z)) := ⟨_, rfl⟩
  have HU := hide (fun w => trimPrefix_any t w)
  have HT2 := hide ht
  rw [show digs t.data.toList = digs (Lib.itoa z) by rw [ht, strB_list], ← hu] at HU
  rw [← ht] at HW
  rw [← hu] at hd
  by_cases h3 : 300 < (Lib.decDigits z.natAbs).length
  · obtain ⟨e1, e2⟩ := resS_no h3
    rw [e1, e2]
    have hc : (300 : Int) < (u.size : Int) := by omega
    have HT3 := hide ht
    clear h3 hd ht hu e1 e2
    go_enter Tryz.func170, Tryz.ntmps170
    go_wp2_with fail
    refine (HW.out _ BB.out).mono ?_
    rintro e w1 ⟨rfl, hb1⟩
    have HB1 := hide (BB.out.trans (hb1.mono (by have := BB.out.size; omega)))
    clear hb1 HW c0' c1' BB B0
    go_wp2_with fail
    refine (HU.out _).mono ?_
    rintro e w2 ⟨rfl, rfl⟩
    clear HU
    go_wp2_with fail
    refine bodyPost_ret (results_tmp2 rfl _ _ _) rfl ?_
    exact ⟨rfl, HB1.out⟩
  · obtain ⟨e1, e2⟩ := resS_yes h3
    rw [e1, e2]
    have hc : ((300 : Int) < (u.size : Int)) = False := eq_false (by omega)
    have HT3 := hide ht
    clear h3 hd ht hu e1 e2
    go_enter Tryz.func170, Tryz.ntmps170
    go_wp2_with fail
    refine (HW.out _ BB.out).mono ?_
    rintro e w1 ⟨rfl, hb1⟩
    have HB1 := hide (BB.out.trans (hb1.mono (by have := BB.out.size; omega)))
    clear hb1 HW c0' c1' BB B0
    go_wp2_with fail
    refine (HU.out _).mono ?_
    rintro e w2 ⟨rfl, rfl⟩
    clear HU
    go_wp2_with fail
    refine bodyPost_ret (results_tmp2 rfl _ _ _) rfl ?_
    exact ⟨by rw [HT2.out]; rfl, HB1.out⟩
open Go.RowKit Go.KP Go.KI Go.Shelf
attribute [local go_sem] Oper.semAt_some

theorem op2_bad {f : Int → Int → Int} {a b : List UInt8} (h : bothI a b ≠ 0) : op2S f a b = [] ∧ op2E f a b = bothI a b := by
  unfold bothI at h ⊢
  unfold op2S op2E
  by_cases h1 : chkI a = 0
  · rw [if_pos h1] at h ⊢
    rw [if_neg (by simp [h1]), if_pos h, if_neg (by simp [h1]), if_pos h]
    exact ⟨rfl, rfl⟩
  · rw [if_neg h1] at h ⊢
    rw [if_pos h1, if_pos h1]
    exact ⟨rfl, rfl⟩
theorem op2_good {f : Int → Int → Int} {a b : List UInt8} (h : bothI a b = 0) : chkI a = 0 ∧ chkI b = 0 ∧ op2S f a b = resS (f (valI a) (valI b)) ∧ op2E f a b = resE (f (valI a) (valI b)) := by
  unfold bothI at h
  by_cases h1 : chkI a = 0
  · rw [if_pos h1] at h
    unfold op2S op2E
    rw [if_neg (by simp [h1]), if_neg (by simp [h]), if_neg (by simp [h1]), if_neg (by simp [h])]
    exact ⟨h1, h, rfl, rfl⟩
  · rw [if_neg h1] at h
    exact absurd h h1
theorem chk_digs {l : List UInt8} (h : chkI l = 0) : (∀ c ∈ digs l, isDg c = true) ∧ l.length ≤ 301 := by
  obtain ⟨h1, h2⟩ := chk_ok h
  have hf := fits_len.1 h2
  have he : digs l = Lib.decDigits (valI l).natAbs := by
    have := digs_itoa (valI l)
    rw [← h1] at this
    exact this
  refine ⟨by rw [he]; exact decDigits_dg _, ?_⟩
  rcases itoa_cases (valI l) with ⟨_, e⟩ | ⟨_, e⟩
  · rw [h1, e, List.length_cons]
    omega
  · rw [h1, e]
    omega
theorem read_good (s : ByteArray) (h : chkI s.data.toList = 0) (w : World) :
    Calls Tryz.prog 169 #[.string s] w fun e w2 => ∃ (m : Bool) (v : Value) (l : List Nat), e = .returned (numV m v) ∧ Below w.heap.size w w2 ∧ OwnL 0 w2 v l ∧ Norm 1000000000 l ∧ valS m (lv 1000000000 l) = valI s.data.toList ∧ l.length ≤ 40 := by
  obtain ⟨h1, h2⟩ := chk_digs h
  rw [bytes_len] at h2
  refine (read_any s (by omega) h1 w).mono ?_
  rintro e w2 ⟨_, rfl, hb, m, v, l, rfl, ho, hn, hv, _⟩
  exact ⟨m, v, l, rfl, hb, ho, hn, hv, fits_limbs hn (by rw [hv]; exact (chk_ok h).2)⟩
theorem LimbAt.of_own {base : Nat} {w : World} {v : Value} {l : List Nat} (h : OwnL base w v l) : LimbAt w.heap.size w v l := SlAt.of_owns h
theorem result_own (m : Bool) (v : Value) (l : List Nat) (base B : Nat) (w : World) (h : OwnL base w v l) (hn : Norm 1000000000 l) (hl : l.length ≤ 100000) (hT : P10 B w) (hB : B ≤ w.heap.size) :
    Calls Tryz.prog 170 #[numV m v] w (Ret w (pairV (resS (valS m (lv 1000000000 l))) (resE (valS m (lv 1000000000 l))))) :=
  result_any m v l w.heap.size w (.of_own h) (Nat.le_refl _) hn hl (hT.mono hB)
theorem pow18 : (10 : Nat) ^ 18 = 1000000000000000000 := by decide
theorem resS_small {z : Int} (h : z.natAbs < 10 ^ 40) : resS z = Lib.itoa z ∧ resE z = 0 := by
  have : fits z := fits_small (n := 40) (by rw [most_eq]; omega) h
  exact ⟨if_pos this, if_pos this⟩
open Go.RowKit Go.KP Go.KI Go.Shelf
attribute [local go_sem] Oper.semAt_some

theorem qgcd_any (a b : Nat) (ha : a < 1000000000000000000) (hb : b < 1000000000000000000) (w : World) :
    Calls Tryz.prog 181 #[.int .i64 a, .int .i64 b] w (Ret w (.int .i64 (Nat.gcd a b : Nat))) := by
  obtain ⟨G, hG⟩ : ∃ G, G = Nat.gcd a b := ⟨_, rfl⟩
  rw [← hG]
  have HG := hide hG
  clear hG
  go_enter Tryz.func181, Tryz.ntmps181
  go_wp2_with fail
  go_loopw [0, 1] (fun x y wr => ∃ p q : Nat, x = .int .i64 p ∧ y = .int .i64 q ∧ p < 1000000000000000000 ∧ q < 1000000000000000000 ∧ Hid (Nat.gcd p q = G ∧ Below w.heap.size w wr)) (fun _ y _ => (intOf y).toNat)
  case atStart => exact ⟨a, b, rfl, rfl, ha, hb, HG.out.symm, Below.refl _ _⟩
  case round =>
    obtain ⟨p, q, rfl, rfl, hp, hq, hin⟩ := hrel
    have IN := hide hin.out
    clear hin
    by_cases hq0 : q = 0
    · subst hq0
      have hqq : (((0 : Nat) : Int) != 0) = false := rfl
      have hG : p = G := by have := IN.out.1; simpa using this
      have GG := hide hG
      clear hq hG
      go_wp2_with fail
      go_ret
      rw [← GG.out]
      exact ⟨rfl, IN.out.2⟩
    · have hqq : ((q : Int) != 0) = true := by
        have : (q : Int) ≠ 0 := by omega
        simpa using this
      have hqz : ((q : Int) == 0) = false := by
        have : (q : Int) ≠ 0 := by omega
        simpa using this
      obtain ⟨r, hr⟩ : ∃ r, r = p % q := ⟨_, rfl⟩
      have hri : (p : Int) % (q : Int) = (r : Int) := by rw [hr, Int.natCast_emod]
      have hrl : r < q := by rw [hr]; exact Nat.mod_lt _ (by omega)
      have HR := hide hr; have HRI := hide hri
      clear hq0 hr
      go_wp2_with fail
      go_quiet (fail)
      have HB := hide (below_drewN IN.out.2 nq)
      clear hqq hqz
      go_wp2_with fail
      go_roundw
      case rel =>
        refine ⟨q, r, rfl, by first | rfl | rw [HRI.out], by omega, by omega, ?_, HB.out⟩
        rw [HR.out, ← IN.out.1, Nat.gcd_comm q, ← Nat.gcd_rec, Nat.gcd_comm]
      case measure => simp [intOf]; omega
open Go.RowKit Go.KP Go.KI Go.Shelf
attribute [local go_sem] Oper.semAt_some

theorem valS_not (m : Bool) (n : Nat) : valS (!m) n = - valS m n := by cases m <;> simp [valS]
theorem Sub_any (s t : ByteArray) (B : Nat) (w : World) (hs : s.size ≤ 1000000) (ht : t.size ≤ 1000000) (hB : B ≤ w.heap.size) (hT : P10 B w) :
    Calls Tryz.prog 116 #[.string s, .string t] w (Ret w (pairV (op2S (· - ·) s.data.toList t.data.toList) (op2E (· - ·) s.data.toList t.data.toList))) := by
  have H1 := hide (both_any s t hs ht w)
  have HT := hide hT
  by_cases hE : bothI s.data.toList t.data.toList = 0
  · obtain ⟨c1, c2, e1, e2⟩ := op2_good (f := (· - ·)) hE
    rw [e1, e2]
    have C1 := hide c1; have C2 := hide c2
    rw [hE] at H1
    clear e1 e2 hE hT hs ht
    by_cases hsm : s.size ≤ 18 ∧ t.size ≤ 18
    · have H2 := hide (fun w => small_yes s t c1 c2 hsm.1 hsm.2 w)
      have v1 := short_val (n := 18) c1 (by rw [bytes_len]; exact hsm.1) (by omega)
      have v2 := short_val (n := 18) c2 (by rw [bytes_len]; exact hsm.2) (by omega)
      rw [pow18] at v1 v2
      obtain ⟨x, hx⟩ : ∃ x, x = valI s.data.toList := ⟨_, rfl⟩
      obtain ⟨y, hy⟩ : ∃ y, y = valI t.data.toList := ⟨_, rfl⟩
      rw [← hx, ← hy] at H2 ⊢
      rw [← hx] at v1
      rw [← hy] at v2
      obtain ⟨z, hz⟩ : ∃ z, z = x - y := ⟨_, rfl⟩
      have hw : IntKind.i64.wrap (x - y) = z := by rw [hz]; exact IntWalk.i64_in _ (by omega)
      obtain ⟨e3, e4⟩ := resS_small (z := z) (Nat.lt_of_lt_of_le (m := 10 ^ 19) (by omega) (Nat.pow_le_pow_right (by omega) (by omega)))
      have hz1 : -9223372036854775808 ≤ z := by omega
      have hz2 : z ≤ 9223372036854775807 := by omega
      show Calls _ _ _ _ (Ret w (pairV (resS (x - y)) (resE (x - y))))
      rw [← hz, e3, e4]
      clear c1 c2 hsm hx hy hz e3 e4
      go_enter Tryz.func116, Tryz.ntmps116
      go_wp2_with fail
      refine H1.out.mono ?_
      rintro e w1 ⟨rfl, hb1⟩
      have HB1 := hide hb1
      clear hb1 H1
      go_wp2_with fail
      refine (H2.out _).mono ?_
      rintro e w2 ⟨rfl, hb2⟩
      have HB2 := hide (HB1.out.trans (hb2.mono HB1.out.size))
      clear hb2 H2 HB1
      go_wp2_with fail
      refine (itoa_any z hz1 hz2 B w2 (HT.out.on HB2.out hB)).mono ?_
      rintro e w3 ⟨rfl, hb3⟩
      have HB3 := hide (HB2.out.trans (hb3.mono HB2.out.size))
      clear hb3 HB2
      go_wp2_with fail
      refine bodyPost_ret (results_tmp2 rfl _ _ _) rfl ?_
      exact ⟨rfl, HB3.out⟩
    · have H2 := hide (fun w => small_no s t hsm w)
      have R1 := hide (fun w => read_good s c1 w)
      have R2 := hide (fun w => read_good t c2 w)
      clear c1 c2 hsm
      go_enter Tryz.func116, Tryz.ntmps116
      go_wp2_with fail
      refine H1.out.mono ?_
      rintro e w1 ⟨rfl, hb1⟩
      have HB1 := hide hb1
      clear hb1 H1
      go_wp2_with fail
      refine (H2.out _).mono ?_
      rintro e w2 ⟨rfl, hb2⟩
      have HB2 := hide (HB1.out.trans (hb2.mono HB1.out.size))
      clear hb2 H2 HB1
      go_wp2_with fail
      refine (R2.out _).mono ?_
      rintro e w3 ⟨m2, a2, l2, rfl, hb3, o2, n2, q2, k2⟩
      obtain ⟨av, cv, hvf, _, _⟩ := o2.form
      subst hvf
      obtain ⟨g0, gs0, gb0⟩ := heap1 w3 (.cells #[.bool m2, .slice av l2.length cv] 207)
      have c0 := cell_blk g0 0
      have c1 := cell_blk g0 1
      have f0 := froz_blk g0 0
      have HB3 := hide (HB2.out.trans (hb3.mono HB2.out.size))
      have O2 := hide o2; have N2 := hide n2; have Q2 := hide q2
      clear hb3 HB2 R2 o2 n2 q2 g0 gs0 gb0
      go_wp2_with fail
      clear c0 c1 f0
      obtain ⟨g0, gs0, gb0⟩ := heap1 w3 (.cells #[.bool (!m2), .slice av l2.length cv] 207)
      obtain ⟨w4, hw4⟩ : ∃ w4, w3.alloc (.cells #[.bool (!m2), .slice av l2.length cv] 207) = w4 := ⟨_, rfl⟩
      rw [hw4] at g0 gs0 gb0 ⊢
      have c0 := cell_blk g0 0
      have c1 := cell_blk g0 1
      have O4 := hide (OwnL.keep O2.out gb0)
      have HB4 := hide (HB3.out.trans (gb0.mono HB3.out.size)); have G0 := hide g0
      have hs4 : w3.heap.size < w4.heap.size := by omega
      obtain ⟨nb, hnb⟩ : ∃ nb, nb = w3.heap.size := ⟨_, rfl⟩
      rw [← hnb] at c0 c1 G0 hs4 ⊢
      clear g0 gs0 gb0 hw4 O2 HB3 hnb
      go_region_held3 (fun w' => w'.cell? ⟨nb, 0, none⟩ = some (.bool (!m2)) ∧ w'.cell? ⟨nb, 1, none⟩ = some (.slice av l2.length cv)) (first | exact ⟨c0, c1⟩ | exact ⟨d0, d1⟩ | exact ⟨x0, x1⟩ | exact ⟨y0, y1⟩)
        (first
          | (go_at_call 169
             refine (R1.out _).mono ?_
             rintro e w5 ⟨m1, a1, l1, rfl, hb5, o1, n1, q1, k1⟩
             obtain ⟨d0, d1⟩ : w5.cell? ⟨nb, 0, none⟩ = some (.bool (!m2)) ∧ w5.cell? ⟨nb, 1, none⟩ = some (.slice av l2.length cv) := ⟨cell_blk (below_blk hb5 G0.out hs4) 0, cell_blk (below_blk hb5 G0.out hs4) 1⟩
             have D0 := hide (below_blk hb5 G0.out hs4)
             have D2 := hide (show OwnL 0 w5 (.slice av l2.length cv) l2 from OwnL.keep (show OwnL 0 w4.drew (.slice av l2.length cv) l2 from O4.out.drew) hb5)
             have DB := hide (show Below w.heap.size w w5 from (HB4.out.drew).trans (hb5.mono HB4.out.size))
             have hs5 : nb < w5.heap.size := Nat.lt_of_lt_of_le hs4 hb5.size
             have O1 := hide o1; have N1 := hide n1; have Q1 := hide q1
             clear hb5 o1 n1 q1)
          | (go_at_call 171
             refine (add_any m1 (!m2) a1 _ l1 l2 w5.heap.size w5 (.of_own O1.out) (.of_own D2.out) (Nat.le_refl _) N1.out N2.out (by omega) (by omega)).mono ?_
             rintro e w6 ⟨_, rfl, hb6, m3, a3, l3, rfl, o3, n3, q3, k3⟩
             obtain ⟨x0, x1⟩ : w6.cell? ⟨nb, 0, none⟩ = some (.bool (!m2)) ∧ w6.cell? ⟨nb, 1, none⟩ = some (.slice av l2.length cv) := ⟨cell_blk (below_blk hb6 D0.out hs5) 0, cell_blk (below_blk hb6 D0.out hs5) 1⟩
             have X0 := hide (below_blk hb6 D0.out hs5)
             have hs6 : nb < w6.heap.size := Nat.lt_of_lt_of_le hs5 hb6.size
             have XB := hide (DB.out.trans (hb6.mono DB.out.size))
             have O3 := hide o3; have N3 := hide n3; have Q3 := hide q3
             clear hb6 o3 n3 q3)
          | (go_at_call 170
             refine (result_own m3 a3 l3 0 B w6 O3.out N3.out (by omega) (HT.out.on XB.out hB) (Nat.le_trans hB XB.out.size)).mono ?_
             rintro e w7 ⟨rfl, hb7⟩
             obtain ⟨y0, y1⟩ : w7.cell? ⟨nb, 0, none⟩ = some (.bool (!m2)) ∧ w7.cell? ⟨nb, 1, none⟩ = some (.slice av l2.length cv) := ⟨cell_blk (below_blk hb7 X0.out hs6) 0, cell_blk (below_blk hb7 X0.out hs6) 1⟩
             have YB := hide (XB.out.trans (hb7.mono XB.out.size))
             clear hb7)
          | fail)
      have hz : valS m3 (lv 1000000000 l3) = valI s.data.toList - valI t.data.toList := by
        rw [Q3.out, Q1.out, valS_not, Q2.out]
        omega
      rw [hz]
      clear hz c0 c1 d0 d1 x0 x1 y0 y1
      go_wp2_with fail
      refine bodyPost_ret (results_tmp2 rfl _ _ _) rfl ?_
      exact ⟨rfl, YB.out⟩
  · obtain ⟨e1, e2⟩ := op2_bad (f := (· - ·)) hE
    rw [e1, e2]
    have hne : (bothI s.data.toList t.data.toList != 0) = true := by simpa using hE
    obtain ⟨E, hEE⟩ : ∃ E, E = bothI s.data.toList t.data.toList := ⟨_, rfl⟩
    rw [← hEE] at H1 hne ⊢
    clear e1 e2 hE hEE hT
    go_enter Tryz.func116, Tryz.ntmps116
    go_wp2_with fail
    refine H1.out.mono ?_
    rintro e w1 ⟨rfl, hb1⟩
    have HB1 := hide hb1
    clear hb1 H1
    go_wp2_with fail
    refine bodyPost_ret (results_tmp2 rfl _ _ _) rfl ?_
    exact ⟨rfl, HB1.out⟩
open Go.RowKit Go.KP Go.KI Go.Shelf
attribute [local go_sem] Oper.semAt_some

theorem chk_pos {l : List UInt8} (h : chkI l = 0) : 1 ≤ l.length := by
  cases l with
  | nil =>
    unfold chkI at h
    rw [if_pos (.inl rfl)] at h
    cases h
  | cons c r => simp
theorem valS_mul (m1 m2 : Bool) (a b : Nat) : valS (!(m1 == m2)) (a * b) = valS m1 a * valS m2 b := by cases m1 <;> cases m2 <;> simp [valS, Int.mul_neg, Int.neg_mul]
theorem Mul_any (s t : ByteArray) (B : Nat) (w : World) (hs : s.size ≤ 1000000) (ht : t.size ≤ 1000000) (hB : B ≤ w.heap.size) (hT : P10 B w) :
    Calls Tryz.prog 132 #[.string s, .string t] w (Ret w (pairV (op2S (· * ·) s.data.toList t.data.toList) (op2E (· * ·) s.data.toList t.data.toList))) := by
  have H1 := hide (both_any s t hs ht w)
  have HT := hide hT
  by_cases hE : bothI s.data.toList t.data.toList = 0
  · obtain ⟨c1, c2, e1, e2⟩ := op2_good (f := (· * ·)) hE
    rw [e1, e2]
    have C1 := hide c1; have C2 := hide c2
    rw [hE] at H1
    clear e1 e2 hE hT
    by_cases hsm : s.size + t.size ≤ 18
    · have H2 := hide (fun w => small_yes s t c1 c2 (by omega) (by omega) w)
      have z1 := chk_pos c1
      have z2 := chk_pos c2
      rw [bytes_len] at z1 z2
      have v1 := short_val (n := s.size) c1 (by rw [bytes_len]; exact Nat.le_refl _) z1
      have v2 := short_val (n := t.size) c2 (by rw [bytes_len]; exact Nat.le_refl _) z2
      obtain ⟨x, hx⟩ : ∃ x, x = valI s.data.toList := ⟨_, rfl⟩
      obtain ⟨y, hy⟩ : ∃ y, y = valI t.data.toList := ⟨_, rfl⟩
      rw [← hx, ← hy] at H2 ⊢
      rw [← hx] at v1
      rw [← hy] at v2
      obtain ⟨z, hz⟩ : ∃ z, z = x * y := ⟨_, rfl⟩
      have hzz : z.natAbs < 1000000000000000000 := by
        rw [hz, Int.natAbs_mul, ← pow18]
        refine Nat.lt_of_lt_of_le (Nat.mul_lt_mul'' v1 v2) ?_
        rw [← Nat.pow_add]
        exact Nat.pow_le_pow_right (by omega) hsm
      have hw : IntKind.i64.wrap (x * y) = z := by rw [← hz]; exact IntWalk.i64_in _ (by omega)
      obtain ⟨e3, e4⟩ := resS_small (z := z) (Nat.lt_of_lt_of_le (m := 10 ^ 19) (by omega) (Nat.pow_le_pow_right (by omega) (by omega)))
      have hz1 : -9223372036854775808 ≤ z := by omega
      have hz2 : z ≤ 9223372036854775807 := by omega
      have hle : (s.size : Int) + (t.size : Int) ≤ 18 := by omega
      show Calls _ _ _ _ (Ret w (pairV (resS (x * y)) (resE (x * y))))
      rw [← hz, e3, e4]
      clear v1 v2 z1 z2 hzz
      clear c1 c2 hsm hx hy hz e3 e4
      go_enter Tryz.func132, Tryz.ntmps132
      go_wp2_with fail
      refine H1.out.mono ?_
      rintro e w1 ⟨rfl, hb1⟩
      have HB1 := hide hb1
      clear hb1 H1
      go_wp2_with fail
      refine (H2.out _).mono ?_
      rintro e w2 ⟨rfl, hb2⟩
      have HB2 := hide (HB1.out.trans (hb2.mono HB1.out.size))
      clear hb2 H2 HB1
      go_wp2_with fail
      refine (itoa_any z hz1 hz2 B w2 (HT.out.on HB2.out hB)).mono ?_
      rintro e w3 ⟨rfl, hb3⟩
      have HB3 := hide (HB2.out.trans (hb3.mono HB2.out.size))
      clear hb3 HB2
      go_wp2_with fail
      refine bodyPost_ret (results_tmp2 rfl _ _ _) rfl ?_
      exact ⟨rfl, HB3.out⟩
    · have hgt : ((s.size : Int) + (t.size : Int) ≤ 18) = False := eq_false (by omega)
      have R1 := hide (fun w => read_good s c1 w)
      have R2 := hide (fun w => read_good t c2 w)
      clear c1 c2 hsm
      go_enter Tryz.func132, Tryz.ntmps132
      go_wp2_with fail
      refine H1.out.mono ?_
      rintro e w1 ⟨rfl, hb1⟩
      have HB1 := hide hb1
      clear hb1 H1
      go_wp2_with fail
      refine (R1.out _).mono ?_
      rintro e w2 ⟨m1, a1, l1, rfl, hb2, o1, n1, q1, k1⟩
      have HB2 := hide (HB1.out.trans (hb2.mono HB1.out.size))
      have O1 := hide o1; have N1 := hide n1; have Q1 := hide q1
      clear hb2 HB1 R1 o1 n1 q1
      go_wp2_with fail
      refine (R2.out _).mono ?_
      rintro e w3 ⟨m2, a2, l2, rfl, hb3, o2, n2, q2, k2⟩
      have HB3 := hide (HB2.out.trans (hb3.mono HB2.out.size))
      have O1' := hide (O1.out.keep hb3)
      have O2 := hide o2; have N2 := hide n2; have Q2 := hide q2
      clear hb3 HB2 R2 o2 n2 q2 O1
      obtain ⟨av1, cv1, hvf, _, _⟩ := O1'.out.form
      subst hvf
      obtain ⟨av2, cv2, hvf, _, _⟩ := O2.out.form
      subst hvf
      go_wp2_with fail
      obtain ⟨g0, g1, gs0, gb0⟩ := heap2 w3 (.cells #[.bool m1, .slice av1 l1.length cv1] 207) (.cells #[.bool m2, .slice av2 l2.length cv2] 207)
      obtain ⟨w4, hw4⟩ : ∃ w4, (w3.alloc (.cells #[.bool m1, .slice av1 l1.length cv1] 207)).alloc (.cells #[.bool m2, .slice av2 l2.length cv2] 207) = w4 := ⟨_, rfl⟩
      rw [hw4] at g0 g1 gs0 gb0 ⊢
      have c0 := cell_blk g0 0
      have c1 := cell_blk g0 1
      have c2 := cell_blk g1 0
      have c3 := cell_blk g1 1
      have O3 := hide (OwnL.keep O1'.out gb0); have O4 := hide (OwnL.keep O2.out gb0)
      have HB4 := hide (HB3.out.trans (gb0.mono HB3.out.size)); have G0 := hide g0; have G1 := hide g1
      have hs4 : w3.heap.size + 1 < w4.heap.size := by omega
      obtain ⟨nb, hnb⟩ : ∃ nb, nb = w3.heap.size := ⟨_, rfl⟩
      rw [← hnb] at c0 c1 c2 c3 G0 G1 hs4 ⊢
      clear g0 g1 gs0 gb0 hw4 O1' O2 HB3 hnb
      have hlen := l1.length
      go_region_held3 (fun w' => w'.cell? ⟨nb, 0, none⟩ = some (.bool m1) ∧ w'.cell? ⟨nb, 1, none⟩ = some (.slice av1 l1.length cv1) ∧ w'.cell? ⟨nb + 1, 0, none⟩ = some (.bool m2) ∧ w'.cell? ⟨nb + 1, 1, none⟩ = some (.slice av2 l2.length cv2)) (first | exact ⟨c0, c1, c2, c3⟩ | exact ⟨d0, d1, d2, d3⟩ | exact ⟨x0, x1, x2, x3⟩)
        (first
          | (go_at_call 184
             refine (times_any _ _ l1 l2 w4.heap.size w4.drew (.of_own (show OwnL 0 w4.drew _ l1 from O3.out.drew)) (.of_own (show OwnL 0 w4.drew _ l2 from O4.out.drew)) (Nat.le_refl _) N1.out.lt N2.out.lt (by omega) (by omega)).mono ?_
             rintro e w5 ⟨l3, ⟨v3, rfl, hb5, o3⟩, n3, q3, k3⟩
             obtain ⟨av3, cv3, hvf, _, _⟩ := o3.form
             subst hvf
             have D0 := hide (below_blk hb5 G0.out (by show nb < w4.heap.size; omega))
             have D1 := hide (below_blk hb5 G1.out (by show nb + 1 < w4.heap.size; omega))
             obtain ⟨d0, d1, d2, d3⟩ : w5.cell? ⟨nb, 0, none⟩ = some (.bool m1) ∧ w5.cell? ⟨nb, 1, none⟩ = some (.slice av1 l1.length cv1) ∧ w5.cell? ⟨nb + 1, 0, none⟩ = some (.bool m2) ∧ w5.cell? ⟨nb + 1, 1, none⟩ = some (.slice av2 l2.length cv2) := ⟨cell_blk D0.out 0, cell_blk D0.out 1, cell_blk D1.out 0, cell_blk D1.out 1⟩
             have DB := hide (show Below w.heap.size w w5 from (HB4.out.drew).trans (hb5.mono HB4.out.size))
             have hs5 : nb + 1 < w5.heap.size := Nat.lt_of_lt_of_le hs4 hb5.size
             have O5 := hide o3; have N3 := hide n3; have Q3 := hide q3
             clear hb5 o3 n3 q3)
          | (go_at_call 170
             refine (result_own (!(m1 == m2)) _ l3 _ B w5 O5.out N3.out (by omega) (HT.out.on DB.out hB) (Nat.le_trans hB DB.out.size)).mono ?_
             rintro e w7 ⟨rfl, hb7⟩
             have X0 := hide (below_blk hb7 D0.out (by omega))
             have X1 := hide (below_blk hb7 D1.out (by omega))
             obtain ⟨x0, x1, x2, x3⟩ : w7.cell? ⟨nb, 0, none⟩ = some (.bool m1) ∧ w7.cell? ⟨nb, 1, none⟩ = some (.slice av1 l1.length cv1) ∧ w7.cell? ⟨nb + 1, 0, none⟩ = some (.bool m2) ∧ w7.cell? ⟨nb + 1, 1, none⟩ = some (.slice av2 l2.length cv2) := ⟨cell_blk X0.out 0, cell_blk X0.out 1, cell_blk X1.out 0, cell_blk X1.out 1⟩
             have YB := hide (DB.out.trans (hb7.mono DB.out.size))
             clear hb7)
          | fail)
      have hz : valS (!(m1 == m2)) (lv 1000000000 l3) = valI s.data.toList * valI t.data.toList := by
        rw [Q3.out, valS_mul, Q1.out, Q2.out]
      rw [hz]
      clear hz c0 c1 c2 c3 d0 d1 d2 d3 x0 x1 x2 x3
      go_wp2_with fail
      refine bodyPost_ret (results_tmp2 rfl _ _ _) rfl ?_
      exact ⟨rfl, YB.out⟩
  · obtain ⟨e1, e2⟩ := op2_bad (f := (· * ·)) hE
    rw [e1, e2]
    have hne : (bothI s.data.toList t.data.toList != 0) = true := by simpa using hE
    obtain ⟨E, hEE⟩ : ∃ E, E = bothI s.data.toList t.data.toList := ⟨_, rfl⟩
    rw [← hEE] at H1 hne ⊢
    clear e1 e2 hE hEE hT
    go_enter Tryz.func132, Tryz.ntmps132
    go_wp2_with fail
    refine H1.out.mono ?_
    rintro e w1 ⟨rfl, hb1⟩
    have HB1 := hide hb1
    clear hb1 H1
    go_wp2_with fail
    refine bodyPost_ret (results_tmp2 rfl _ _ _) rfl ?_
    exact ⟨rfl, HB1.out⟩
open Go.RowKit Go.KP Go.KI Go.Shelf
attribute [local go_sem] Oper.semAt_some

def cmpV (a b : List UInt8) : Int := if bothI a b = 0 then Lib.compareInt (valI a) (valI b) else 0
theorem Compare_any (s t : ByteArray) (w : World) (hs : s.size ≤ 1000000) (ht : t.size ≤ 1000000) :
    Calls Tryz.prog 129 #[.string s, .string t] w (Ret w (.tuple #[.int .i64 (cmpV s.data.toList t.data.toList), .int .i64 (bothI s.data.toList t.data.toList)])) := by
  have H1 := hide (both_any s t hs ht w)
  by_cases hE : bothI s.data.toList t.data.toList = 0
  · have e1 : cmpV s.data.toList t.data.toList = Lib.compareInt (valI s.data.toList) (valI t.data.toList) := if_pos hE
    obtain ⟨c1, c2, _, _⟩ := op2_good (f := (· + ·)) hE
    rw [e1, hE]
    have C1 := hide c1; have C2 := hide c2
    rw [hE] at H1
    clear e1 hE hs ht
    by_cases hsm : s.size ≤ 18 ∧ t.size ≤ 18
    · have H2 := hide (fun w => small_yes s t c1 c2 hsm.1 hsm.2 w)
      obtain ⟨x, hx⟩ : ∃ x, x = valI s.data.toList := ⟨_, rfl⟩
      obtain ⟨y, hy⟩ : ∃ y, y = valI t.data.toList := ⟨_, rfl⟩
      rw [← hx, ← hy] at H2 ⊢
      clear c1 c2 hsm hx hy
      go_enter Tryz.func129, Tryz.ntmps129
      go_wp2_with fail
      refine H1.out.mono ?_
      rintro e w1 ⟨rfl, hb1⟩
      have HB1 := hide hb1
      clear hb1 H1
      go_wp2_with fail
      refine (H2.out _).mono ?_
      rintro e w2 ⟨rfl, hb2⟩
      have HB2 := hide (HB1.out.trans (hb2.mono HB1.out.size))
      clear hb2 H2 HB1
      go_wp2_with fail
      refine (Tryz.cmp_Compare_int x y w2).mono ?_
      rintro e w3 ⟨rfl, rfl⟩
      go_wp2_with fail
      refine bodyPost_ret (results_tmp2 rfl _ _ _) rfl ?_
      exact ⟨rfl, HB2.out⟩
    · have H2 := hide (fun w => small_no s t hsm w)
      have R1 := hide (fun w => read_good s c1 w)
      have R2 := hide (fun w => read_good t c2 w)
      clear c1 c2 hsm
      go_enter Tryz.func129, Tryz.ntmps129
      go_wp2_with fail
      refine H1.out.mono ?_
      rintro e w1 ⟨rfl, hb1⟩
      have HB1 := hide hb1
      clear hb1 H1
      go_wp2_with fail
      refine (H2.out _).mono ?_
      rintro e w1 ⟨rfl, hb2⟩
      have HB1' := hide (HB1.out.trans (hb2.mono HB1.out.size))
      clear hb2 H2 HB1
      go_wp2_with fail
      refine (R1.out _).mono ?_
      rintro e w2 ⟨m1, a1, l1, rfl, hb2, o1, n1, q1, k1⟩
      have HB2 := hide (HB1'.out.trans (hb2.mono HB1'.out.size))
      have O1 := hide o1; have N1 := hide n1; have Q1 := hide q1
      clear hb2 HB1' R1 o1 n1 q1
      go_wp2_with fail
      refine (R2.out _).mono ?_
      rintro e w3 ⟨m2, a2, l2, rfl, hb3, o2, n2, q2, k2⟩
      have HB3 := hide (HB2.out.trans (hb3.mono HB2.out.size))
      have O1' := hide (O1.out.keep hb3)
      have O2 := hide o2; have N2 := hide n2; have Q2 := hide q2
      clear hb3 HB2 R2 o2 n2 q2 O1
      obtain ⟨av1, cv1, hvf, _, _⟩ := O1'.out.form
      subst hvf
      obtain ⟨av2, cv2, hvf, _, _⟩ := O2.out.form
      subst hvf
      obtain ⟨g0, g1, gs0, gb0⟩ := heap2 w3 (.cells #[.bool m1, .slice av1 l1.length cv1] 207) (.cells #[.bool m2, .slice av2 l2.length cv2] 207)
      have c0 := cell_blk g0 0
      have c1 := cell_blk g0 1
      have c2 := cell_blk g1 0
      have c3 := cell_blk g1 1
      have f2 := froz_blk g1 0
      obtain ⟨h0, h1, hs0, hb0⟩ := heap2 w3 (.cells #[.bool m1, .slice av1 l1.length cv1] 207) (.cells #[.bool (!m2), .slice av2 l2.length cv2] 207)
      have H0 := hide h0; have H1 := hide h1; have HS0 := hide hs0; have HB0 := hide hb0
      clear g0 g1 gs0 gb0 h0 h1 hs0 hb0
      go_wp2_with fail
      clear c0 c1 c2 c3 f2
      obtain ⟨w4, hw4⟩ : ∃ w4, (w3.alloc (.cells #[.bool m1, .slice av1 l1.length cv1] 207)).alloc (.cells #[.bool (!m2), .slice av2 l2.length cv2] 207) = w4 := ⟨_, rfl⟩
      rw [hw4] at H0 H1 HS0 HB0 ⊢
      have O3 := OwnL.keep O1'.out HB0.out
      have O4 := OwnL.keep O2.out HB0.out
      have HB4 := hide (HB3.out.trans (HB0.out.mono HB3.out.size))
      refine (add_any m1 (!m2) _ _ l1 l2 w4.heap.size w4 (.of_own O3) (.of_own O4) (Nat.le_refl _) N1.out N2.out (by omega) (by omega)).mono ?_
      rintro e w5 ⟨_, rfl, hb5, m3, a3, l3, rfl, o3, n3, q3, k3⟩
      obtain ⟨av3, cv3, hvf, _, _⟩ := o3.form
      subst hvf
      have hz : valS m3 (lv 1000000000 l3) = valI s.data.toList - valI t.data.toList := by
        rw [q3, Q1.out, valS_not, Q2.out]
        omega
      have HZ := hide hz
      have HB5 := hide (HB4.out.trans (hb5.mono HB4.out.size))
      obtain ⟨g0, gs0, gb0⟩ := heap1 w5 (.cells #[.bool m3, .slice av3 l3.length cv3] 207)
      have c0 := cell_blk g0 0
      have c1 := cell_blk g0 1
      have HB6 := hide (HB5.out.trans (gb0.mono HB5.out.size))
      obtain ⟨n3l, hn3l⟩ : ∃ n, n = l3.length := ⟨_, rfl⟩
      have hnorm := n3.zero (by omega)
      rw [← hn3l] at c0 c1 g0 gb0 HB6 ⊢
      have h30 : n3l = 0 ↔ lv 1000000000 l3 = 0 := by
        rw [hnorm, hn3l]
        exact ⟨List.eq_nil_of_length_eq_zero, fun e => by rw [e]; rfl⟩
      clear g0 gs0 gb0 hb5 o3 n3 q3 O3 O4 hw4 H0 H1 HS0 HB0 O1' O2 hnorm hn3l HB3 HB4 HB5 hz
      by_cases hl : n3l = 0
      · have hq : ((n3l : Int) == 0) = true := by rw [hl]; rfl
        have hv : Lib.compareInt (valI s.data.toList) (valI t.data.toList) = 0 := by
          have h2 := HZ.out
          rw [h30.1 hl] at h2
          have h3 : valI s.data.toList = valI t.data.toList := by
            cases m3 <;> simp [valS] at h2 <;> omega
          unfold Lib.compareInt
          rw [if_neg (by omega), if_neg (by omega)]
        have HV := hide hv
        clear hv h30 hl
        go_wp2_with fail
        refine bodyPost_ret (results_tmp2 rfl _ _ _) rfl ?_
        exact ⟨by rw [HV.out]; rfl, HB6.out⟩
      · have hq : ((n3l : Int) == 0) = false := by simpa using hl
        have hp : 0 < lv 1000000000 l3 := Nat.pos_of_ne_zero (fun e => hl (h30.2 e))
        clear hl h30
        cases m3
        · have hv : Lib.compareInt (valI s.data.toList) (valI t.data.toList) = 1 := by
            have h2 := HZ.out
            simp only [valS, Bool.false_eq_true, if_false] at h2
            unfold Lib.compareInt
            rw [if_neg (by omega), if_pos (by omega)]
          have HV := hide hv
          clear hv
          go_wp2_with fail
          refine bodyPost_ret (results_tmp2 rfl _ _ _) rfl ?_
          exact ⟨by rw [HV.out]; rfl, HB6.out⟩
        · have hv : Lib.compareInt (valI s.data.toList) (valI t.data.toList) = -1 := by
            have h2 := HZ.out
            simp only [valS, if_true] at h2
            unfold Lib.compareInt
            rw [if_pos (by omega)]
          have HV := hide hv
          clear hv
          go_wp2_with fail
          refine bodyPost_ret (results_tmp2 rfl _ _ _) rfl ?_
          exact ⟨by rw [HV.out]; rfl, HB6.out⟩
  · have e1 : cmpV s.data.toList t.data.toList = 0 := if_neg hE
    rw [e1]
    have hne : (bothI s.data.toList t.data.toList != 0) = true := by simpa using hE
    obtain ⟨E, hEE⟩ : ∃ E, E = bothI s.data.toList t.data.toList := ⟨_, rfl⟩
    rw [← hEE] at H1 hne ⊢
    clear e1 hE hEE
    go_enter Tryz.func129, Tryz.ntmps129
    go_wp2_with fail
    refine H1.out.mono ?_
    rintro e w1 ⟨rfl, hb1⟩
    have HB1 := hide hb1
    clear hb1 H1
    go_wp2_with fail
    refine bodyPost_ret (results_tmp2 rfl _ _ _) rfl ?_
    exact ⟨rfl, HB1.out⟩
open Go.RowKit Go.KP Go.KI Go.Shelf
attribute [local go_sem] Oper.semAt_some

theorem natAbs_tmod_lt (x : Int) {y : Int} (hy : y ≠ 0) : (x.tmod y).natAbs < y.natAbs := by
  rw [Int.natAbs_tmod]
  exact Nat.mod_lt _ (by omega)
theorem natAbs_tdiv_le (x y : Int) : (x.tdiv y).natAbs ≤ x.natAbs := by
  rw [Int.natAbs_tdiv]
  exact Nat.div_le_self _ _
theorem floor_same {x y : Int} (hy : y ≠ 0) (h : x.tmod y = 0 ∨ (x.tmod y < 0 ↔ y < 0)) : x.tdiv y = x.fdiv y ∧ x.tmod y = x.fmod y := by
  have h1 := Int.mul_tdiv_add_tmod x y
  have h2 := natAbs_tmod_lt x hy
  rcases Int.lt_or_gt_of_ne hy with hn | hp
  · have := (Int.fdiv_fmod_unique' (a := x) (r := x.tmod y) (q := x.tdiv y) hn).2 ⟨by omega, by omega, by omega⟩
    exact ⟨this.1.symm, this.2.symm⟩
  · have := (Int.fdiv_fmod_unique (a := x) (r := x.tmod y) (q := x.tdiv y) hp).2 ⟨by omega, by omega, by omega⟩
    exact ⟨this.1.symm, this.2.symm⟩
theorem floor_less {x y : Int} (hy : y ≠ 0) (h0 : x.tmod y ≠ 0) (h : ¬ (x.tmod y < 0 ↔ y < 0)) : x.tdiv y - 1 = x.fdiv y ∧ x.tmod y + y = x.fmod y := by
  have h1 := Int.mul_tdiv_add_tmod x y
  have h2 := natAbs_tmod_lt x hy
  have h3 : y * (x.tdiv y - 1) = y * x.tdiv y - y := by rw [Int.mul_sub, Int.mul_one]
  rcases Int.lt_or_gt_of_ne hy with hn | hp
  · have := (Int.fdiv_fmod_unique' (a := x) (r := x.tmod y + y) (q := x.tdiv y - 1) hn).2 ⟨by omega, by omega, by omega⟩
    exact ⟨this.1.symm, this.2.symm⟩
  · have := (Int.fdiv_fmod_unique (a := x) (r := x.tmod y + y) (q := x.tdiv y - 1) hp).2 ⟨by omega, by omega, by omega⟩
    exact ⟨this.1.symm, this.2.symm⟩
abbrev tripV (s r : List UInt8) (e : Int) : Value := .tuple #[.string (strB s), .string (strB r), .int .i64 e]
theorem results_tmp3' {fn : Func} {t u v : Tmp} (h : fn.results = #[.tmp t, .tmp u, .tmp v]) (tmps : Array Value) (P : Program) (w : World) :
    (results fn tmps).run P w = .ok (.tuple #[tmps.getD t undef, tmps.getD u undef, tmps.getD v undef]) w := by
  simp [results, h, go_sem]
theorem Divide_small (s t : ByteArray) (B : Nat) (w : World) (c1 : chkI s.data.toList = 0) (c2 : chkI t.data.toList = 0) (hs : s.size ≤ 18) (ht : t.size ≤ 18) (h0 : t.data.toList ≠ [48]) (hB : B ≤ w.heap.size) (hT : P10 B w) :
    Calls Tryz.prog 179 #[.string s, .string t] w (Ret w (tripV (Lib.itoa ((valI s.data.toList).fdiv (valI t.data.toList))) (Lib.itoa ((valI s.data.toList).fmod (valI t.data.toList))) 0)) := by
  have H1 := hide (both_any s t (by omega) (by omega) w)
  have hb0 : bothI s.data.toList t.data.toList = 0 := by unfold bothI; rw [if_pos c1, c2]
  rw [hb0] at H1
  have HT := hide hT
  have H2 := hide (fun w => small_yes s t c1 c2 hs ht w)
  have v1 := short_val (n := 18) c1 (by rw [bytes_len]; exact hs) (by omega)
  have v2 := short_val (n := 18) c2 (by rw [bytes_len]; exact ht) (by omega)
  rw [pow18] at v1 v2
  have hy0 : valI t.data.toList ≠ 0 := by
    intro e
    have := (chk_ok c2).1
    rw [e, itoa_zero] at this
    exact h0 this
  have hq : (t.toList == [48]) = false := by rw [ByteArray.toList_eq]; simpa using h0
  obtain ⟨x, hx⟩ : ∃ x, x = valI s.data.toList := ⟨_, rfl⟩
  obtain ⟨y, hy⟩ : ∃ y, y = valI t.data.toList := ⟨_, rfl⟩
  rw [← hx, ← hy] at H2 ⊢
  rw [← hx] at v1
  rw [← hy] at v2 hy0
  have r1 := natAbs_tmod_lt x hy0
  have q1 := natAbs_tdiv_le x y
  have hyq : (y == 0) = false := by simpa using hy0
  clear c1 c2 hs ht h0 hT hx hy hb0
  go_enter Tryz.func179, Tryz.ntmps179
  go_wp2_with fail
  refine H1.out.mono ?_
  rintro e w1 ⟨rfl, hb1⟩
  have HB1 := hide hb1
  clear hb1 H1
  go_wp2_with fail
  refine (H2.out _).mono ?_
  rintro e w2 ⟨rfl, hb2⟩
  have HB2 := hide (HB1.out.trans (hb2.mono HB1.out.size))
  clear hb2 H2 HB1
  go_wp2_with fail
  go_quiet (fail)
  obtain ⟨w3, hw3⟩ : ∃ w3, w3 = w2.drewN nq := ⟨_, rfl⟩
  rw [← hw3]
  have HB3 := hide (show Below w.heap.size w w3 by rw [hw3]; exact ⟨HB2.out.os, HB2.out.tape, HB2.out.output, HB2.out.size, HB2.out.block⟩)
  clear hw3 HB2
  have FS := hide (floor_same (x := x) hy0); have FL := hide (floor_less (x := x) hy0)
  obtain ⟨q, hq2⟩ : ∃ q, q = x.tdiv y := ⟨_, rfl⟩
  obtain ⟨r, hr2⟩ : ∃ r, r = x.tmod y := ⟨_, rfl⟩
  rw [← hq2] at q1
  rw [← hr2] at r1
  rw [← hq2, ← hr2] at FS FL ⊢
  clear hq2 hr2 hyq hy0 hq
  obtain ⟨g, hg⟩ : ∃ g, g = x.fdiv y := ⟨_, rfl⟩
  obtain ⟨h, hh⟩ : ∃ h, h = x.fmod y := ⟨_, rfl⟩
  rw [← hg, ← hh] at FS FL
  have HG := hide hg; have HH := hide hh
  clear hg hh
  by_cases hr0 : r = 0
  · obtain ⟨f1, f2⟩ := FS.out (.inl hr0)
    have t1 : (r != 0) = false := by simp [hr0]
    have F1 := hide (f1.trans HG.out); have F2 := hide (f2.trans HH.out)
    clear hr0 f1 f2
    go_wp2_with fail
    refine (itoa_any q (by omega) (by omega) B _ (HT.out.on HB3.out hB)).mono ?_
    rintro e w4 ⟨rfl, hb4⟩
    have HB4 := hide (HB3.out.trans (hb4.mono HB3.out.size))
    clear hb4 HB3
    go_wp2_with fail
    refine (itoa_any r (by omega) (by omega) B _ (HT.out.on HB4.out hB)).mono ?_
    rintro e w5 ⟨rfl, hb5⟩
    have HB5 := hide (HB4.out.trans (hb5.mono HB4.out.size))
    clear hb5 HB4
    go_wp2_with fail
    refine bodyPost_ret (results_tmp3' rfl _ _ _) rfl ?_
    exact ⟨by rw [← F1.out, ← F2.out]; rfl, HB5.out⟩
  · have t1 : (r != 0) = true := by simpa using hr0
    by_cases h1 : r < 0
    · by_cases h2 : y < 0
      · obtain ⟨f1, f2⟩ := FS.out (.inr ⟨fun _ => h2, fun _ => h1⟩)
        have F1 := hide (f1.trans HG.out); have F2 := hide (f2.trans HH.out)
        clear hr0 f1 f2
        go_wp2_with fail
        refine (itoa_any q (by omega) (by omega) B _ (HT.out.on HB3.out hB)).mono ?_
        rintro e w4 ⟨rfl, hb4⟩
        have HB4 := hide (HB3.out.trans (hb4.mono HB3.out.size))
        clear hb4 HB3
        go_wp2_with fail
        refine (itoa_any r (by omega) (by omega) B _ (HT.out.on HB4.out hB)).mono ?_
        rintro e w5 ⟨rfl, hb5⟩
        have HB5 := hide (HB4.out.trans (hb5.mono HB4.out.size))
        clear hb5 HB4
        go_wp2_with fail
        refine bodyPost_ret (results_tmp3' rfl _ _ _) rfl ?_
        exact ⟨by rw [← F1.out, ← F2.out]; rfl, HB5.out⟩
      · obtain ⟨f1, f2⟩ := FL.out hr0 (fun e => h2 (e.1 h1))
        have F1 := hide (f1.trans HG.out); have F2 := hide (f2.trans HH.out)
        have t2 : (y < 0) = False := eq_false h2
        clear hr0 f1 f2 h2
        go_wp2_with fail
        refine (itoa_any (q-1) (by omega) (by omega) B _ (HT.out.on HB3.out hB)).mono ?_
        rintro e w4 ⟨rfl, hb4⟩
        have HB4 := hide (HB3.out.trans (hb4.mono HB3.out.size))
        clear hb4 HB3
        go_wp2_with fail
        refine (itoa_any (r+y) (by omega) (by omega) B _ (HT.out.on HB4.out hB)).mono ?_
        rintro e w5 ⟨rfl, hb5⟩
        have HB5 := hide (HB4.out.trans (hb5.mono HB4.out.size))
        clear hb5 HB4
        go_wp2_with fail
        refine bodyPost_ret (results_tmp3' rfl _ _ _) rfl ?_
        exact ⟨by rw [← F1.out, ← F2.out]; rfl, HB5.out⟩
    · by_cases h2 : y < 0
      · obtain ⟨f1, f2⟩ := FL.out hr0 (fun e => h1 (e.2 h2))
        have F1 := hide (f1.trans HG.out); have F2 := hide (f2.trans HH.out)
        have t2 : (r < 0) = False := eq_false h1
        clear hr0 f1 f2 h1
        go_wp2_with fail
        refine (itoa_any (q-1) (by omega) (by omega) B _ (HT.out.on HB3.out hB)).mono ?_
        rintro e w4 ⟨rfl, hb4⟩
        have HB4 := hide (HB3.out.trans (hb4.mono HB3.out.size))
        clear hb4 HB3
        go_wp2_with fail
        refine (itoa_any (r+y) (by omega) (by omega) B _ (HT.out.on HB4.out hB)).mono ?_
        rintro e w5 ⟨rfl, hb5⟩
        have HB5 := hide (HB4.out.trans (hb5.mono HB4.out.size))
        clear hb5 HB4
        go_wp2_with fail
        refine bodyPost_ret (results_tmp3' rfl _ _ _) rfl ?_
        exact ⟨by rw [← F1.out, ← F2.out]; rfl, HB5.out⟩
      · obtain ⟨f1, f2⟩ := FS.out (.inr ⟨fun e => absurd e h1, fun e => absurd e h2⟩)
        have F1 := hide (f1.trans HG.out); have F2 := hide (f2.trans HH.out)
        have t2 : (r < 0) = False := eq_false h1
        have t3 : (y < 0) = False := eq_false h2
        clear hr0 f1 f2 h1 h2
        go_wp2_with fail
        refine (itoa_any q (by omega) (by omega) B _ (HT.out.on HB3.out hB)).mono ?_
        rintro e w4 ⟨rfl, hb4⟩
        have HB4 := hide (HB3.out.trans (hb4.mono HB3.out.size))
        clear hb4 HB3
        go_wp2_with fail
        refine (itoa_any r (by omega) (by omega) B _ (HT.out.on HB4.out hB)).mono ?_
        rintro e w5 ⟨rfl, hb5⟩
        have HB5 := hide (HB4.out.trans (hb5.mono HB4.out.size))
        clear hb5 HB4
        go_wp2_with fail
        refine bodyPost_ret (results_tmp3' rfl _ _ _) rfl ?_
        exact ⟨by rw [← F1.out, ← F2.out]; rfl, HB5.out⟩
end Go.Proofs.YtklgpilgalfckaaGreatDoor
namespace Go.KI
open Go
theorem lead_le (l : List UInt8) : (lead l).length ≤ l.length := by
  have := congrArg List.length (lead_eq l).1
  rw [List.length_append] at this
  omega
theorem lead_at {l : List UInt8} {k : Nat} (h : k < (lead l).length) : ∃ c, l[k]? = some c ∧ isDg c = true := by
  obtain ⟨e1, e2, _⟩ := lead_eq l
  refine ⟨(lead l)[k], ?_, e2 _ (List.getElem_mem h)⟩
  have h2 := congrArg (fun m : List UInt8 => m[k]?) e1
  rw [h2, List.getElem?_append_left h]
  exact List.getElem?_eq_getElem h
theorem lead_end {l : List UInt8} {c : UInt8} (h : l[(lead l).length]? = some c) : isDg c = false := by
  obtain ⟨_, _, e3⟩ := lead_eq l
  refine e3 c ?_
  rw [List.head?_drop]
  exact h
theorem lead_take {l : List UInt8} : l.take (lead l).length = lead l := by
  obtain ⟨e1, _, _⟩ := lead_eq l
  have h := congrArg (List.take (lead l).length) e1
  rw [List.take_left] at h
  exact h
end Go.KI
namespace Go.Proofs.YtklgpilgalfckaaGreatDoor
open Go.RowKit Go.KP Go.KI Go.Shelf
attribute [local go_sem] Oper.semAt_some

theorem ext_drop (s : ByteArray) (k : Nat) : s.extract k s.size = strB (s.data.toList.drop k) := by
  apply bytes_eq
  rw [strB_list]
  simp
  rw [List.take_of_length_le]
  rw [List.length_drop, bytes_len]
  omega
def natIV (l : List UInt8) : Value := match natI l with
  | none => .tuple #[.int .i64 0, .string ⟨#[]⟩, .bool false]
  | some (n, rest) => .tuple #[.int .i64 n, .string (strB rest), .bool true]
theorem natIV_none {l : List UInt8} (h : (lead l).length = 0 ∨ 8 < (lead l).length ∨ (1 < (lead l).length ∧ l.head? = some 48)) : natIV l = .tuple #[.int .i64 0, .string ⟨#[]⟩, .bool false] := by
  unfold natIV natI
  rw [if_pos h]
theorem natIV_some {l : List UInt8} (h : ¬ ((lead l).length = 0 ∨ 8 < (lead l).length ∨ (1 < (lead l).length ∧ l.head? = some 48))) : natIV l = .tuple #[.int .i64 (dv (lead l) : Nat), .string (strB (l.drop (lead l).length)), .bool true] := by
  unfold natIV natI
  rw [if_neg h]
theorem nativeInt_any (s : ByteArray) (hs : s.size ≤ 1000000) (w : World) :
    Calls Tryz.prog 180 #[.string s] w (Ret w (natIV s.data.toList)) := by
  obtain ⟨L, hL⟩ : ∃ L, L = (lead s.data.toList).length := ⟨_, rfl⟩
  have hLs : L ≤ s.size := by rw [hL, ← bytes_len]; exact lead_le _
  have HLE := hide hL
  clear hL
  go_enter Tryz.func180, Tryz.ntmps180
  go_wp2_with fail
  go_loopw [5, 6] (fun n i wr => ∃ k A : Nat, k ≤ 9 ∧ k ≤ L ∧ i = .int .i64 k ∧ n = .int .i64 A ∧ Hid (A = dv (s.data.toList.take k)) ∧ wr = w) (fun _ i _ => 9 - (intOf i).toNat)
  case atStart => exact ⟨0, 0, by omega, by omega, rfl, rfl, rfl, rfl⟩
  case round =>
    obtain ⟨k, A, hk9, hkL, rfl, rfl, hA, rfl⟩ := hrel
    have hAl : A < 1000000000 := by
      have h1 := dv_lt (s.data.toList.take k) (fun c hc => by
        have h2 : s.data.toList.take k = (lead s.data.toList).take k := by
          conv => lhs; rw [(lead_eq s.data.toList).1]
          rw [List.take_append_of_le_length (by rw [← HLE.out]; exact hkL)]
        rw [h2] at hc
        exact (lead_eq s.data.toList).2.1 c (List.mem_of_mem_take hc))
      rw [← hA.out] at h1
      have h3 : (s.data.toList.take k).length ≤ 9 := by rw [List.length_take]; omega
      have h4 : (10 : Nat) ^ (s.data.toList.take k).length ≤ 10 ^ 9 := Nat.pow_le_pow_right (by omega) h3
      have h5 : (10 : Nat) ^ 9 = 1000000000 := by decide
      omega
    by_cases hgo : k < L ∧ k ≤ 8
    · obtain ⟨hkl, hk8⟩ := hgo
      have hlt : k < s.size := by omega
      have hki : (k : Int) < (s.size : Int) := by omega
      have hk8i : (k : Int) ≤ 8 := by omega
      have hk0 : (0 : Int) ≤ (k : Int) := by omega
      obtain ⟨c, hc, hcd⟩ := lead_at (l := s.data.toList) (k := k) (by rw [← HLE.out]; exact hkl)
      have hat : s.data.toList[k]? = some (s[k]'hlt) := by
        have h1 : s.data.toList[k]? = some s.data[k] := by simp
        exact h1
      obtain ⟨y, hyv⟩ : ∃ y : Nat, y = (s[k]'hlt).toNat := ⟨_, rfl⟩
      have hyv2 : (s[k]'hlt).toNat = y := hyv.symm
      have hdg : 48 ≤ y ∧ y ≤ 57 := by
        rw [hat] at hc
        injection hc with hc
        rw [hyv, hc]
        exact isDg_iff.1 hcd
      have hnew : dv (s.data.toList.take (k + 1)) = A * 10 + (y - 48) := by
        rw [List.take_add_one, hat]
        show dv (_ ++ [s[k]'hlt]) = _
        rw [dv_snoc, hyv2, hA.out]
      have HN := hide hnew.symm
      have y0 : (48 : Int) ≤ (y : Int) := by omega
      have y1 : (y : Int) ≤ 57 := by omega
      have a1 : (A : Int) < 1000000000 := by omega
      have HC := hide (show 10 * (A : Int) + ((y : Int) - 48) = ((A * 10 + (y - 48) : Nat) : Int) by omega)
      clear hat hyv hdg hnew hA hc hcd hAl
      go_wp2_with fail
      go_roundw
      case rel => exact ⟨k + 1, A * 10 + (y - 48), by omega, by omega, by go_num, by rw [← HC.out], HN, trivial⟩
      case measure => simp [intOf]; omega
    · have hstop : ((k : Int) < (s.size : Int)) = False ∨ ((k : Int) < (s.size : Int) ∧ ((k : Int) ≤ 8) = False) ∨
          (∃ h : k < s.size, (k : Int) ≤ 8 ∧ ∃ y : Nat, (s[k]'h).toNat = y ∧ (y < 48 ∨ 57 < y)) := by
        by_cases h1 : k < s.size
        · by_cases h2 : k ≤ 8
          · have hkL2 : k = L := by omega
            obtain ⟨c, hc⟩ : ∃ c, s[k]'h1 = c := ⟨_, rfl⟩
            have hat : s.data.toList[k]? = some c := by
              have h3 : s.data.toList[k]? = some s.data[k] := by simp
              rw [h3]
              exact congrArg some hc
            have hat2 : s.data.toList[(lead s.data.toList).length]? = some c := by rw [← HLE.out, ← hkL2]; exact hat
            have h4 := lead_end hat2
            have h5 : ¬ (48 ≤ c.toNat ∧ c.toNat ≤ 57) := fun h => by
              have h6 := isDg_iff.2 h
              rw [h4] at h6
              cases h6
            exact .inr (.inr ⟨h1, by omega, c.toNat, by rw [hc], by omega⟩)
          · exact .inr (.inl ⟨by omega, eq_false (by omega)⟩)
        · exact .inl (eq_false (by omega))
      have hres : (((k : Int) == 0) = true ∧ natIV s.data.toList = .tuple #[.int .i64 0, .string ⟨#[]⟩, .bool false]) ∨ (((k : Int) == 0) = false ∧ (8 : Int) < (k : Int) ∧ natIV s.data.toList = .tuple #[.int .i64 0, .string ⟨#[]⟩, .bool false]) ∨
          (∃ h : 0 < s.size, ((k : Int) == 0) = false ∧ ((8 : Int) < (k : Int)) = False ∧ (1 : Int) < (k : Int) ∧ (((s[0]'h).toNat : Int) == 48) = true ∧ natIV s.data.toList = .tuple #[.int .i64 0, .string ⟨#[]⟩, .bool false]) ∨
          (∃ h : 0 < s.size, ((k : Int) == 0) = false ∧ ((8 : Int) < (k : Int)) = False ∧ (1 : Int) < (k : Int) ∧ (((s[0]'h).toNat : Int) == 48) = false ∧ natIV s.data.toList = .tuple #[.int .i64 A, .string (s.extract k s.size), .bool true]) ∨
          (((k : Int) == 0) = false ∧ ((8 : Int) < (k : Int)) = False ∧ ((1 : Int) < (k : Int)) = False ∧ natIV s.data.toList = .tuple #[.int .i64 A, .string (s.extract k s.size), .bool true]) := by
        have hz : k ≠ 0 → ((k : Int) == 0) = false := fun h => by
          simp only [beq_eq_false_iff_ne, ne_eq]
          omega
        rcases (show k = 0 ∨ 8 < k ∨ (1 < k ∧ k ≤ 8) ∨ k = 1 by omega) with h | h | ⟨h, h8⟩ | h
        · exact .inl ⟨by rw [h]; rfl, natIV_none (.inl (by rw [← HLE.out]; omega))⟩
        · exact .inr (.inl ⟨hz (by omega), by omega, natIV_none (.inr (.inl (by rw [← HLE.out]; omega)))⟩)
        · have hkL2 : k = L := by omega
          have hp : 0 < s.size := by omega
          have hh : s.data.toList.head? = some (s[0]'hp) := by
            have h3 : s.data.toList[0]? = some s.data[0] := by simp
            rw [List.head?_eq_getElem?]
            exact h3
          by_cases h48 : s[0]'hp = 48
          · refine .inr (.inr (.inl ⟨hp, hz (by omega), eq_false (by omega), by omega, by rw [h48]; rfl, natIV_none (.inr (.inr ⟨by rw [← HLE.out]; omega, by rw [hh, h48]⟩))⟩))
          · refine .inr (.inr (.inr (.inl ⟨hp, hz (by omega), eq_false (by omega), by omega, ?_, ?_⟩)))
            · have : (s[0]'hp).toNat ≠ 48 := fun e => h48 (UInt8.toNat_inj.1 e)
              simp only [beq_eq_false_iff_ne, ne_eq]
              omega
            · rw [natIV_some, hA.out, ext_drop, hkL2, HLE.out, lead_take]
              rintro (h1 | h1 | ⟨_, h1⟩)
              · rw [← HLE.out] at h1; omega
              · rw [← HLE.out] at h1; omega
              · rw [hh] at h1
                injection h1 with h1
                exact h48 h1
        · have hkL2 : k = L := by omega
          refine .inr (.inr (.inr (.inr ⟨hz (by omega), eq_false (by omega), eq_false (by omega), ?_⟩)))
          rw [natIV_some, hA.out, ext_drop, hkL2, HLE.out, lead_take]
          rintro (h1 | h1 | ⟨h1, _⟩)
          · rw [← HLE.out] at h1; omega
          · rw [← HLE.out] at h1; omega
          · rw [← HLE.out] at h1; omega
      clear hA hgo
      have hsk : k ≤ s.size := by omega
      have hk0 : (0 : Int) ≤ (k : Int) := by omega
      have hski : (k : Int) ≤ (s.size : Int) := by omega
      rcases hstop with h1 | ⟨h1, h2⟩ | ⟨h1, h2, y, hy, h3⟩
      case' inr.inr =>
        have h1i : (k : Int) < (s.size : Int) := by omega
        rcases h3 with h3 | h3
        case' inl => have h4 : ((48 : Int) ≤ (y : Int)) = False := eq_false (by omega)
        case' inr =>
          have h4 : (48 : Int) ≤ (y : Int) := by omega
          have h5 : ((y : Int) ≤ 57) = False := eq_false (by omega)
      all_goals
        rcases hres with ⟨r0, r2⟩ | ⟨r0, r8, r2⟩ | ⟨hp, r0, r8, r1, r3, r2⟩ | ⟨hp, r0, r8, r1, r3, r2⟩ | ⟨r0, r8, r1, r2⟩
      all_goals have HR := hide r2
      all_goals clear r2
      all_goals first | (exfalso; omega) | skip
      all_goals
        go_wp2_with fail
        first
          | (refine bodyPost_ret (results_tmp3' rfl _ _ _) rfl ?_
             rw [HR.out]
             exact ⟨rfl, Below.refl _ _⟩)
          | (go_quiet (fail)
             go_wp2_with fail
             refine bodyPost_ret (results_tmp3' rfl _ _ _) rfl ?_
             rw [HR.out]
             exact ⟨rfl, below_drewN (Below.refl _ _) _⟩)
end Go.Proofs.YtklgpilgalfckaaGreatDoor
