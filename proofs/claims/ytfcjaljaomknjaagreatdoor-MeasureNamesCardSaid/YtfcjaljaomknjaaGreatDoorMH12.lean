/-
  Texts laid together.
-/
import Derived.Test.YtfcjaljaomknjaaGreatDoorMH11
import Derived.Test.YtfcjaljaomknjaaGreatDoorMH1
import Derived.Ground.GgwProg
import Derived.Ground.SlgfProg
import Derived.Shelf.Bits.Mul64
import Derived.Shelf.GgClosure.StringsIndexFunc
import Derived.Shelf.GgClosure.StringsIndexFuncTop
import Derived.Shelf.LaysC
import Derived.Shelf.LaysM
import Derived.Shelf.SlicesE.IndexFunc
import Derived.Shelf.Small.Strs
import Derived.Shelf.Small.Utf8
import Derived.Shelf.Small.Wraps
import Derived.Shelf.Strconv.Atoi
import Derived.Shelf.Strconv.AtoiAll
import Derived.Shelf.Strconv.AtoiErrFast
import Derived.Shelf.Strconv.AtoiFail
import Derived.Shelf.Strconv.AtoiInnerAll
import Derived.Shelf.Strconv.AtoiLong
import Derived.Shelf.Strconv.Clone
import Derived.Shelf.Strconv.ErrVarAll
import Derived.Shelf.Strconv.Itoa0
import Derived.Shelf.Strconv.Itoa1
import Derived.Shelf.Strconv.Itoa2
import Derived.Shelf.Strconv.Itoa3
import Derived.Shelf.Strconv.Lower
import Derived.Shelf.Strconv.ParseInt10
import Derived.Shelf.Strconv.ParseIntEmpty
import Derived.Shelf.Strconv.ParseUint10
import Derived.Shelf.Strconv.ParseUint10Any
import Derived.Shelf.Strconv.ParseUint10Empty
import Derived.Shelf.Strconv.ParseUint10b16
import Derived.Shelf.Strconv.ParseUint10b32
import Derived.Shelf.Strconv.ParseUint10b64
import Derived.Shelf.Strconv.ParseUint10b8
import Derived.Shelf.Strconv.ParseUintEmpty
import Derived.Shelf.Strconv.RangeError
import Derived.Shelf.Strconv.SyntaxError
import Derived.Shelf.Strconv.ToError
import Derived.Shelf.Strconv.ToErrorRange
import Derived.Shelf.Strings.AsciiSet
import Derived.Shelf.Strings.Builder1
import Derived.Shelf.Strings.Builder2
import Derived.Shelf.Strings.Builder2Cap
import Derived.Shelf.Strings.BuilderF
import Derived.Shelf.Strings.BuilderK
import Derived.Shelf.Strings.Cut
import Derived.Shelf.Strings.OnBuilder
import Derived.Shelf.Strings.Prefix
import Derived.Shelf.Strings.Repeat
import Derived.Shelf.Strings.Runes
import Derived.Shelf.Strings.Search1
import Derived.Shelf.Strings.Search2
import Derived.Shelf.Strings.Search3
import Derived.Shelf.Strings.Shaped
import Derived.Shelf.Strings.Trim
import Derived.Shelf.Unicode.CaseConvert
import Derived.Shelf.Unicode.CaseLaid
import Derived.Shelf.Unicode.CaseLookup
import Derived.Shelf.Unicode.CaseTo
import Derived.Shelf.Unicode.Decode
import Derived.Shelf.Unicode.DecodeAny
import Derived.Shelf.Unicode.DecodeSlow
import Derived.Shelf.Unicode.Latin
import Derived.Test.YtfcjaljaomknjaaGreatDoorProg
set_option maxRecDepth 100000
set_option maxHeartbeats 16000000
namespace Go.Proofs.YtfcjaljaomknjaaGreatDoor
open Go.RowKit Go.KP Go.KI Go.Shelf
attribute [local go_sem] Oper.semAt_some

abbrev boxW (s : ByteArray) : Obj := .cells #[.string s] 9
theorem mwords_any (s : ByteArray) (w : World) :
    Calls Tryz.prog 61 #[.string s] w (fun e w' => e = .returned (.func (.func 113) #[] #[.pointer (some ⟨w.heap.size, 0, none⟩)]) ∧ w' = w.alloc (boxW s)) := by
  go_enter Tryz.func61, Tryz.ntmps61
  go_wp2_with fail
  go_ret
  exact ⟨rfl, rfl⟩
def boxLen (bx : Nat) (W : World) : Nat := match W.heap[bx]? with | some (.cells cs _ _) => (match cs[0]? with | some (Value.string s) => s.size | _ => 0) | _ => 0
theorem boxLen_of {bx : Nat} {W : World} {r : List UInt8} (h : W.heap[bx]? = some (boxW (strB r))) : boxLen bx W = r.length := by
  unfold boxLen
  rw [h]
  simp [strB_size]
theorem boxW_set {bx : Nat} {W : World} {s : ByteArray} (h : W.heap[bx]? = some (boxW s)) (t : ByteArray) : (W.setCell ⟨bx, 0, none⟩ (.string t)).heap[bx]? = some (boxW t) := by
  simp only [World.setCell, Array.getElem?_modify, h, Option.map_some, if_true]
  rfl
theorem strB_nil (r : List UInt8) : ((strB r).toList == []) = decide (r = []) := by
  rw [ByteArray.toList_eq, strB_list]
  by_cases h : r = []
  · rw [h]; rfl
  · rw [decide_eq_false h]
    exact beq_false_of_ne h
theorem behind_less {c : UInt8} {l : List UInt8} (h : c ∈ l) : (KI.behind c l).length < l.length := by
  have := congrArg List.length (split_eq h)
  rw [List.length_append, List.length_cons] at this
  omega
def WSt (l : List UInt8) (bx : Nat) (J : Nat → (Nat → Prop) → World → Prop) (n0 : Nat) (k : Nat) (r : List UInt8) (S : Nat → Prop) (wr : World) : Prop :=
  k ≤ (wordsL l).length ∧ (wordsL l).drop k = wordsL r ∧ r.length ≤ l.length ∧ J k S wr ∧ bx < wr.heap.size ∧ wr.heap[bx]? = some (boxW (strB r)) ∧ n0 ≤ wr.heap.size
theorem wordsSeq_any (l : List UInt8) (hl : l.length ≤ 65536) (bx : Nat) (B : Nat) (w : World) (hb : w.heap[bx]? = some (boxW (strB l))) :
    IterOwn Tryz.prog 113 #[.pointer (some ⟨bx, 0, none⟩)] (fun k => #[.string (strB ((wordsL l).getD k []))]) (wordsL l).length (fun _ W => PQ B W) (fun b => b = bx) w := by
  intro lp J Jx W hown hJ hJx hJS hKe hY h0
  refine callsIn_of_wp Tryz.func113 rfl trivial ?_ rfl
  simp only [Tryz.ntmps113, List.size_toArray, List.length_cons, List.length_nil, Nat.reduceAdd, Nat.reduceSub, Array.replicate_succ, Array.replicate_zero, List.push_toArray, List.append_toArray, List.nil_append, List.cons_append]
  have HBX := hide (show bx < W.heap.size ∧ W.heap[bx]? = some (boxW (strB l)) from ⟨(hown bx rfl).1, (hown bx rfl).2.trans hb⟩)
  have HJ := hide hJ; have HJx := hide hJx; have HJS := hide hJS; have HY := hide hY; have H0 := hide h0; have HK := hide hKe
  clear hJ hJx hJS hY h0 hKe hb hown
  gi_wp2
  gi_loopw [3, 4, 5] (fun _ _ _ wr => ∃ (k : Nat) (r : List UInt8) (S : Nat → Prop), Hid (WSt l bx J W.heap.size k r S wr)) (fun _ _ _ wr => boxLen bx wr)
  case atStart => exact ⟨0, l, _, Nat.zero_le _, rfl, Nat.le_refl _, H0.out, HBX.out.1, HBX.out.2, Nat.le_refl _⟩
  case round =>
    obtain ⟨k, r, S, hin⟩ := hrel
    have IN := hide hin.out
    clear hin
    obtain ⟨i1, i2, i3, i4, i5, i6, i7⟩ := IN.out
    have c0 := cell_blk i6 0
    have l0 := i5
    by_cases hr : r = []
    · have he : ((strB r).toList == []) = true := by rw [strB_nil, decide_eq_true hr]
      have he2 : ((strB r).toList != []) = false := by simp only [bne, he]; rfl
      have HE := hide (show k = (wordsL l).length from drop_none i1 (by rw [i2, hr]; rfl))
      clear i1 i2 i3 i4 i5 i6 i7 hr
      gi_wp2
      refine bodyPost_end (results_none rfl _ _ _) rfl ?_
      exact ⟨⟨_, rfl⟩, S, .inl (by rw [← HE.out]; exact IN.out.2.2.2.1)⟩
    have he : ((strB r).toList == []) = false := by rw [strB_nil, decide_eq_false hr]
    have he2 : ((strB r).toList != []) = true := by simp only [bne, he]; rfl
    have HP := HK.out k S wr i1 i4
    have HC := hide (scut_any 32 (strB r) (by rw [strB_size]; omega) B wr HP)
    rw [strB_list] at HC
    have hcut := words_cut hr
    have hBN := hide (boxLen_of i6)
    have hbw : ∀ w2, Below wr.heap.size wr w2 → J k S w2 ∧ bx < w2.heap.size ∧ w2.heap[bx]? = some (boxW (strB r)) ∧ W.heap.size ≤ w2.heap.size := fun w2 hb2 =>
      ⟨HJ.out k _ _ _ i4 ((QuietO.refl _ _ _ wr).of_below hb2 (Nat.le_refl _)), Nat.lt_of_lt_of_le i5 hb2.size, below_blk hb2 i6 i5, Nat.le_trans i7 hb2.size⟩
    have HBW := hide hbw
    have I1 := hide i1; have I2 := hide i2; have I3 := hide i3
    clear i1 i2 i3 i4 i5 i6 i7 HP hbw IN
    obtain ⟨X, hX⟩ : ∃ X, X = KI.ahead 32 r := ⟨_, rfl⟩
    obtain ⟨Y, hY⟩ : ∃ X, X = KI.behind 32 r := ⟨_, rfl⟩
    rw [← hX, ← hY] at HC
    rw [← hX, ← hY] at hcut
    rcases hcut with ⟨h32, hw⟩ | ⟨h32, hyn, hw⟩ | ⟨h32, hyn, hw⟩
    · have hXr : X = r := by rw [hX]; exact ahead_none h32
      rw [if_neg h32, decide_eq_false h32] at HC
      have HD := hide (drop_head [] (I2.out.trans hw))
      have HM := hide (show ([] : List UInt8).length < r.length by cases r with | nil => exact absurd rfl hr | cons a b => simp)
      clear hw h32 hX hY hr
      gi_wp2
      refine ⟨trivial, rfl, (callsIn_wide.2 HC.out).mono ?_⟩
      rintro e w1 ⟨rfl, hb1⟩
      obtain ⟨j1, j2, j3, j4⟩ := HBW.out w1 hb1
      have hyy := HY.out k S _ HD.out.1 j1 j4
      rw [HD.out.2.1, ← hXr] at hyy
      try dsimp only at hyy
      obtain ⟨fn, tmps, assign, body, hy, hR⟩ := hyy
      have HR := hide hR
      have J2 := hide j2; have J3 := hide j3; have J4 := hide j4
      clear hR j1 j2 j3 j4 hb1 HBW HC c0 l0 hXr
      gi_wp2
      refine ⟨rfl, HR.out.mono ?_⟩
      rintro e W5 ⟨S3, hu3, ho3, (⟨rfl, hJ3⟩ | ⟨rfl, hJx3⟩)⟩
      · have H5 := hide (show W5.heap[bx]? = some (boxW (strB r)) from (ho3 bx rfl).trans J3.out)
        have H6 := hide (Nat.le_trans J4.out hu3.size)
        have HJ3 := hide hJ3
        have c3 := cell_blk H5.out 0
        have f3 := froz_blk H5.out 0
        have l3 := lt_blk H5.out
        clear hu3 ho3 hJ3 hy HR
        gi_wp2
        go_roundw
        case rel =>
          refine ⟨k + 1, [], S3, HD.out.1, HD.out.2.2, Nat.zero_le _, HJ.out _ _ _ _ HJ3.out (QuietO.set (O := fun b => b = bx) (p := ⟨bx, 0, none⟩) (QuietO.refl _ _ _ W5) rfl _), ?_, boxW_set H5.out _, ?_⟩
          · simp [World.setCell]; omega
          · have := H6.out; simp [World.setCell]; omega
        case measure =>
          rw [hBN.out, boxLen_of (boxW_set H5.out _)]
          exact HM.out
      · clear hu3 ho3 hy HR
        gi_wp2
        refine bodyPost_ret (results_none rfl _ _ _) rfl ?_
        exact ⟨⟨_, rfl⟩, S3, .inr hJx3⟩
    · rw [if_pos h32, decide_eq_true h32, hyn] at HC
      obtain ⟨Z, hZ⟩ : ∃ Z, Z = strB ([] : List UInt8) := ⟨_, rfl⟩
      rw [← hZ] at HC
      have hz1 : (Z.toList == []) = true := by rw [hZ, strB_nil]; rfl
      have hz2 : Z.toList.isEmpty = true := by rw [hZ, ByteArray.toList_eq]; rfl
      clear hZ
      have HD := hide (drop_head [] (I2.out.trans hw))
      have HD2 := hide (drop_head [] HD.out.2.2)
      clear hw h32 hX hY hr hyn
      gi_wp2
      refine ⟨trivial, rfl, (callsIn_wide.2 HC.out).mono ?_⟩
      rintro e w1 ⟨rfl, hb1⟩
      obtain ⟨j1, j2, j3, j4⟩ := HBW.out w1 hb1
      have hyy := HY.out k S _ HD.out.1 j1 j4
      rw [HD.out.2.1] at hyy
      try dsimp only at hyy
      obtain ⟨fn, tmps, assign, body, hy, hR⟩ := hyy
      have HR := hide hR
      have J4 := hide j4
      clear hR j1 j2 j3 j4 hb1 HBW HC c0 l0
      gi_wp2
      refine ⟨rfl, HR.out.mono ?_⟩
      rintro e W5 ⟨S3, hu3, ho3, (⟨rfl, hJ3⟩ | ⟨rfl, hJx3⟩)⟩
      · have H6 := hide (Nat.le_trans J4.out hu3.size)
        have hyy := HY.out (k + 1) S3 _ HD2.out.1 hJ3 H6.out
        rw [HD2.out.2.1, show strB [] = (⟨#[]⟩ : ByteArray) from rfl] at hyy
        try dsimp only at hyy
        obtain ⟨fn2, tmps2, assign2, body2, hy2, hR2⟩ := hyy
        have HR2 := hide hR2
        clear hu3 ho3 hJ3 hy HR hR2
        gi_wp2
        refine ⟨rfl, HR2.out.mono ?_⟩
        have HE := hide (show k + 1 + 1 = (wordsL l).length from drop_none HD2.out.1 HD2.out.2.2)
        rintro e W6 ⟨S4, hu4, ho4, (⟨rfl, hJ4⟩ | ⟨rfl, hJx4⟩)⟩
        · rw [HE.out] at hJ4
          clear hu4 ho4 hy2 HR2
          gi_wp2
          refine bodyPost_ret (results_none rfl _ _ _) rfl ?_
          exact ⟨⟨_, rfl⟩, S4, .inl hJ4⟩
        · clear hu4 ho4 hy2 HR2
          gi_wp2
          refine bodyPost_ret (results_none rfl _ _ _) rfl ?_
          exact ⟨⟨_, rfl⟩, S4, .inr hJx4⟩
      · clear hu3 ho3 hy HR
        gi_wp2
        refine bodyPost_ret (results_none rfl _ _ _) rfl ?_
        exact ⟨⟨_, rfl⟩, S3, .inr hJx3⟩
    · rw [if_pos h32, decide_eq_true h32] at HC
      have HD := hide (drop_head [] (I2.out.trans hw))
      have HM := hide (show Y.length < r.length by rw [hY]; exact behind_less h32)
      have hye : ((strB Y).toList == []) = false := by rw [strB_nil, decide_eq_false hyn]
      clear hw h32 hX hY hr hyn
      gi_wp2
      refine ⟨trivial, rfl, (callsIn_wide.2 HC.out).mono ?_⟩
      rintro e w1 ⟨rfl, hb1⟩
      obtain ⟨j1, j2, j3, j4⟩ := HBW.out w1 hb1
      have hyy := HY.out k S _ HD.out.1 j1 j4
      rw [HD.out.2.1] at hyy
      try dsimp only at hyy
      obtain ⟨fn, tmps, assign, body, hy, hR⟩ := hyy
      have HR := hide hR
      have J2 := hide j2; have J3 := hide j3; have J4 := hide j4
      clear hR j1 j2 j3 j4 hb1 HBW HC c0 l0
      gi_wp2
      refine ⟨rfl, HR.out.mono ?_⟩
      rintro e W5 ⟨S3, hu3, ho3, (⟨rfl, hJ3⟩ | ⟨rfl, hJx3⟩)⟩
      · have H5 := hide (show W5.heap[bx]? = some (boxW (strB r)) from (ho3 bx rfl).trans J3.out)
        have H6 := hide (Nat.le_trans J4.out hu3.size)
        have HJ3 := hide hJ3
        have c3 := cell_blk H5.out 0
        have f3 := froz_blk H5.out 0
        have l3 := lt_blk H5.out
        clear hu3 ho3 hJ3 hy HR
        gi_wp2
        go_roundw
        case rel =>
          refine ⟨k + 1, Y, S3, HD.out.1, HD.out.2.2, (by have := HM.out; have := I3.out; omega), HJ.out _ _ _ _ HJ3.out (QuietO.set (O := fun b => b = bx) (p := ⟨bx, 0, none⟩) (QuietO.refl _ _ _ W5) rfl _), ?_, boxW_set H5.out _, ?_⟩
          · simp [World.setCell]; omega
          · have := H6.out; simp [World.setCell]; omega
        case measure =>
          rw [hBN.out, boxLen_of (boxW_set H5.out _)]
          exact HM.out
      · clear hu3 ho3 hy HR
        gi_wp2
        refine bodyPost_ret (results_none rfl _ _ _) rfl ?_
        exact ⟨⟨_, rfl⟩, S3, .inr hJx3⟩
open Go.RowKit Go.KP Go.KI Go.Shelf
attribute [local go_sem] Oper.semAt_some

theorem exit_words {a : Act} {W : World} {b0 b1 : Nat} {v : Value} {z : Int} (h0 : W.heap[b0]? = some (.cells #[v] 34 (0, 0))) (h1 : W.heap[b1]? = some (.cells #[.int .i64 z] 25 (0, 0)))
    (h2 : a.tmps[2]? = some (.pointer (some ⟨b0, 0, none⟩))) (h3 : a.tmps[3]? = some (.pointer (some ⟨b1, 0, none⟩))) :
    (results Tryz.f19 a.tmps).run Tryz.prog W = .ok (.tuple #[v, .int .i64 z]) W := by
  have c0 := fun o => cell_blk h0 o
  have c1 := fun o => cell_blk h1 o
  simp [results, go_sem, c0, c1, h2, h3]
theorem words_spoil {l w : List UInt8} {k : Nat} (hk : k < (wordsL l).length) (hw : (wordsL l).getD k [] = w) (h : okW w = false) : (wordsL l).all okW = false := by
  rw [List.all_eq_false]
  refine ⟨w, ?_, by rw [h]; simp⟩
  rw [← hw]
  simp [hk]
theorem words_take {l : List UInt8} {k : Nat} (hk : k < (wordsL l).length) : (wordsL l).take (k + 1) = (wordsL l).take k ++ [(wordsL l).getD k []] := by
  rw [List.take_succ_eq_append_getElem hk]
  simp [hk]
theorem wset_off {w : World} {b c o : Nat} {x : Obj} (h : w.heap[b]? = some x) (hne : c ≠ b) (v : Value) : (w.setCell ⟨c, o, none⟩ v).heap[b]? = some x :=
  (Below.heap_setCell _ _ _ _ (fun e => hne e.symm)).trans h
theorem two_set {w W : World} {u v : Value} {z y : Int} (h0 : W.heap[w.heap.size]? = some (.cells #[u] 34 (0, 0))) (h1 : W.heap[w.heap.size + 1]? = some (.cells #[.int .i64 z] 25 (0, 0))) (hb : Below w.heap.size w W) :
    ((W.setCell ⟨w.heap.size, 0, none⟩ v).setCell ⟨w.heap.size + 1, 0, none⟩ (.int .i64 y)).heap[w.heap.size]? = some (.cells #[v] 34 (0, 0)) ∧
    ((W.setCell ⟨w.heap.size, 0, none⟩ v).setCell ⟨w.heap.size + 1, 0, none⟩ (.int .i64 y)).heap[w.heap.size + 1]? = some (.cells #[.int .i64 y] 25 (0, 0)) ∧
    Below w.heap.size w ((W.setCell ⟨w.heap.size, 0, none⟩ v).setCell ⟨w.heap.size + 1, 0, none⟩ (.int .i64 y)) ∧
    ((W.setCell ⟨w.heap.size, 0, none⟩ v).setCell ⟨w.heap.size + 1, 0, none⟩ (.int .i64 y)).heap.size = W.heap.size ∧
    ∀ b, w.heap.size + 2 ≤ b → ((W.setCell ⟨w.heap.size, 0, none⟩ v).setCell ⟨w.heap.size + 1, 0, none⟩ (.int .i64 y)).heap[b]? = W.heap[b]? := by
  refine ⟨wset_off (Boxed.set v h0) (by omega) _, Boxed.set _ (wset_off h1 (by omega) _), (hb.setCell (p := ⟨w.heap.size, 0, none⟩) (Nat.le_refl _) _).setCell (p := ⟨w.heap.size + 1, 0, none⟩) (by simp) _, by simp [World.setCell], fun b h => ?_⟩
  exact (Below.heap_setCell _ _ _ _ (by simp; omega)).trans (Below.heap_setCell _ _ _ _ (by simp; omega))
theorem mWords_any (s : ByteArray) (hs : s.size ≤ 1000000) (B : Nat) (w : World) (hB : B ≤ w.heap.size) (hT : PQ B w) :
    Calls Tryz.prog 19 #[.string s] w (WordsAt w s.data.toList) := by
  obtain ⟨l, hl⟩ : ∃ l, l = s.data.toList := ⟨_, rfl⟩
  have hll : l.length = s.size := by rw [hl, bytes_len]
  have hsl : s = strB l := by rw [hl]; rfl
  rw [← hl]
  have HT := hide hT
  refine (callsIn_wide (n := 0)).1 ?_
  refine callsIn_of_wp_marks Tryz.func19 rfl trivial ?_ rfl
  simp only [Tryz.ntmps19, List.size_toArray, List.length_cons, List.length_nil, Nat.reduceAdd, Nat.reduceSub, Array.replicate_succ, Array.replicate_zero, List.push_toArray, List.append_toArray, List.nil_append, List.cons_append]
  by_cases h4 : 65536 < s.size
  · have HE := hide (wordsE_long (l := l) (by omega))
    have g : (65536 : Int) < (s.size : Int) := by omega
    clear hl hll hs h4 hT hsl
    gi_wp2_with fail
    obtain ⟨x0, x1, _, x3⟩ := heap2 w (.cells #[.slice none 0 0] 34) (.cells #[.int .i64 4] 25)
    exact ⟨_, exit_words x0 x1 rfl rfl, words_fail4 HE.out x3⟩
  have g4 : ((65536 : Int) < (s.size : Int)) = False := eq_false (by omega)
  have h4l : ¬ 65536 < l.length := by omega
  have HLL := hide hll
  have H4 := hide h4l
  subst hsl
  clear hl hll h4 h4l hT hs
  gi_wp2_with fail
  refine ⟨trivial, rfl, (callsIn_wide.2 (mwords_any (strB l) _)).mono ?_⟩
  rintro e w4 ⟨rfl, hw4⟩
  obtain ⟨Y0, Y1, Y2, y4, Y5⟩ := heap3 w (.cells #[.slice none 0 0] 34) (.cells #[.int .i64 0] 25) (.cells #[.slice none 0 0] 34)
  obtain ⟨Z0, z1, z2⟩ := heap1 (((w.alloc (.cells #[.slice none 0 0] 34)).alloc (.cells #[.int .i64 0] 25)).alloc (.cells #[.slice none 0 0] 34)) (boxW (strB l))
  rw [y4] at Z0 z1 z2
  rw [← hw4] at Z0 z1 z2
  have C0 := hide (below_blk z2 Y0 (by omega)); have C1 := hide (below_blk z2 Y1 (by omega)); have C2 := hide (below_blk z2 Y2 (by omega)); have C3 := hide Z0
  have HB4 := hide (Y5.trans (z2.mono (by omega)))
  have hs4 : w4.heap.size = w.heap.size + 4 := by omega
  obtain ⟨i0, hi0, hz0, hz1, hz2⟩ := info_parts info9
  have hsl : l.length ≤ 65536 := by have := H4.out; omega
  have hwl := words_len l
  clear hw4 Y0 Y1 Y2 y4 Y5 Z0 z1 z2
  gi_wp2_with fail
  refine wp_iter_own (gf := 113) (lb := #[.pointer (some ⟨w.heap.size + 3, 0, none⟩)]) rfl (enters_of Tryz.func113 (by kernel_rfl) rfl)
    (wordsSeq_any l hsl (w.heap.size + 3) B w4 C3.out) (fun b hb => ⟨by rw [hb, hs4]; omega, rfl⟩) (fun _ => rfl)
    (fun k S W => ∃ v, S = OwnOf v ∧ W.heap[w.heap.size]? = some (.cells #[.slice none 0 0] 34 (0, 0)) ∧ W.heap[w.heap.size + 1]? = some (.cells #[.int .i64 0] 25 (0, 0)) ∧ W.heap[w.heap.size + 1 + 1]? = some (.cells #[v] 34 (0, 0)) ∧
      W.ownsRow w4.heap.size 9 1 v k (wcells ((wordsL l).take k)) ∧ ((wordsL l).take k).all okW = true ∧ Below w.heap.size w W)
    (fun c S W => c = .ret ∧ (wordsL l).all okW = false ∧ W.heap[w.heap.size]? = some (.cells #[.slice none 0 0] 34 (0, 0)) ∧ W.heap[w.heap.size + 1]? = some (.cells #[.int .i64 3] 25 (0, 0)) ∧ Below w.heap.size w W ∧ w4.heap.size ≤ W.heap.size) ?hI ?hIx ?h0 ?hke
    (fun k S a1' W => ∃ x : ByteArray, x = strB ((wordsL l)[k]?.getD []) ∧ a1' = { tmps := #[.string (strB l), undef, .pointer (some ⟨w.heap.size, 0, none⟩), .pointer (some ⟨w.heap.size + 1, 0, none⟩), .pointer (some ⟨w.heap.size + 1 + 1, 0, none⟩), .string x, undef, .string (strB l), .int .i64 ((strB l).size : Nat), .bool false, .string (strB l), .func (.func 113) #[] #[.pointer (some ⟨w.heap.size + 1 + 1 + 1, 0, none⟩)], .string x, undef, undef, undef, undef, undef, undef, undef, undef, undef, undef, undef, undef, undef, undef, undef, undef, undef, undef, undef, undef, undef, undef, undef], defers := [] })
    ?hAx ?hassign ?hS ?hbody ?hdone ?hstop
  case hI =>
    rintro k S W W2 ⟨v, rfl, e0, e1, e2, hown, hok, hb⟩ hq
    have e : ∀ {b : Nat} {o : Obj}, b < w.heap.size + 3 → W.heap[b]? = some o → W2.heap[b]? = some o := fun {b} {o} hb h => (hq.block b (by omega) (.inl (by omega)) (lt_blk h)).trans h
    exact ⟨v, rfl, e (by omega) e0, e (by omega) e1, e (by omega) e2, owns_stay hown (fun r hr => hq.block r (by have := (hown.lt r hr).1; omega) (.inr hr) (hown.lt r hr).2), hok,
      ⟨hq.os.trans hb.os, hq.tape.trans hb.tape, hq.output.trans hb.output, Nat.le_trans hb.size hq.size, fun j hj => (hq.block j (by omega) (.inl (by omega)) (by have := hb.size; omega)).trans (hb.block j hj)⟩⟩
  case hIx =>
    rintro c S W W2 ⟨rfl, hbad, e0, e1, hb, hsz⟩ hq
    have e : ∀ {b : Nat} {o : Obj}, b < w.heap.size + 3 → W.heap[b]? = some o → W2.heap[b]? = some o := fun {b} {o} hb h => (hq.block b (by omega) (.inl (by omega)) (lt_blk h)).trans h
    exact ⟨rfl, hbad, e (by omega) e0, e (by omega) e1,
      ⟨hq.os.trans hb.os, hq.tape.trans hb.tape, hq.output.trans hb.output, Nat.le_trans hb.size hq.size, fun j hj => (hq.block j (by omega) (.inl (by omega)) (by have := hb.size; omega)).trans (hb.block j hj)⟩, Nat.le_trans hsz hq.size⟩
  case h0 => exact ⟨.slice none 0 0, by funext b; simp [OwnOf, Value.ownBlock], C0.out, C1.out, C2.out, World.ownsRow_nil _ _ _ _, rfl, HB4.out⟩
  case hke =>
    rintro k S W _ ⟨v, _, _, _, _, _, _, hb⟩
    exact HT.out.on hb hB
  case hAx =>
    rintro k S a1' W l r r2 h _
    exact h
  case hassign =>
    intro lp k S W K hsz hSlt hK
    gi_wp2
    exact hK _ _ (Quiet.refl _ _ _) (Upd.refl _ _ _) ⟨_, rfl, rfl⟩
  case hS =>
    rintro k S W ⟨v, rfl, _, _, _, hown, _⟩ b hb
    exact owns_lt hown b hb
  case hstop =>
    rintro D c S W hD ⟨rfl, hbad, e0, e1, hb, hsz⟩ hK
    have HK := hide hK
    have HBD := hide hbad
    have E0 := hide e0; have E1 := hide e1; have HB := hide hb
    clear hK hbad e0 e1 hb
    gi_wp2
    refine ⟨by simp, .inl ⟨_, _, rfl, run_takeDeferred HK.out, ?_⟩⟩
    exact ⟨_, exit_words ((World.putObj_heap_other (by omega)).trans E0.out) ((World.putObj_heap_other (by omega)).trans E1.out) rfl rfl, words_fail3 (wordsE_bad H4.out HBD.out) (HB.out.trans (belowK_b (w := w) (Nat.le_refl _) W D _ _ (by omega) HK.out rfl rfl))⟩
  case hdone =>
    rintro D S W hD ⟨v, rfl, e0, e1, e2, hown, hok, hb⟩ hK
    rw [List.take_length] at hown hok
    obtain ⟨va, vc, rfl⟩ := owns_form hown
    have c2 := cell_blk e2 0
    have c0 := cell_blk e0 0
    have c1 := cell_blk e1 0
    have f0 := froz_blk e0 0
    have f1 := froz_blk e1 0
    obtain ⟨p1, p2, p3, p4, p5⟩ := two_set (v := .slice va (wordsL l).length vc) (y := 0) e0 e1 hb
    have P1 := hide p1; have P2 := hide p2; have P3 := hide p3
    have HO := hide (owns_stay hown (fun r hr => p5 r (by have := (hown.lt r hr).1; omega)))
    have HK := hide ((p5 D (by omega)).trans hK)
    have HOK := hide hok
    have l2 := lt_blk e2
    have P4 := hide p4
    clear hown hok hb hK e0 e1 e2 p1 p2 p3 p4 p5
    gi_wp2
    refine ⟨by simp, .inl ⟨_, _, rfl, run_takeDeferred HK.out, ?_⟩⟩
    exact ⟨_, exit_words ((World.putObj_heap_other (by omega)).trans P1.out) ((World.putObj_heap_other (by omega)).trans P2.out) rfl rfl, words_ret (wordsE_ok H4.out HOK.out) (ownsRow_putObj HO.out _ HK.out rfl) (P3.out.trans (belowK_b (w := w) (Nat.le_refl _) _ D _ _ (by omega) HK.out rfl rfl))⟩
  case hbody =>
    rintro lp k S a1' W hk ⟨v, rfl, e0, e1, e2, hown, hok, hb⟩ ⟨x, hx, rfl⟩ hsz
    obtain ⟨X, hX⟩ : ∃ X, X = (wordsL l).getD k [] := ⟨_, rfl⟩
    have hx2 : x = strB X := by rw [hx, hX, List.getD_eq_getElem?_getD]
    have hxl : x.data.toList = X := by rw [hx2, strB_list]
    have hxs : X.length = x.size := by rw [← hxl, bytes_len]
    have hxm : x.size ≤ 70000 := by
      have := word_len hk
      rw [← hX] at this
      omega
    have c0 := cell_blk e0 0
    have c1 := cell_blk e1 0
    have c2 := cell_blk e2 0
    have f0 := froz_blk e0 0
    have f1 := froz_blk e1 0
    have f2 := froz_blk e2 0
    have l2 := lt_blk e2
    obtain ⟨p1, p2, p3, p4, p5⟩ := two_set (v := .slice none 0 0) (y := 3) e0 e1 hb
    have HSTOP := hide (fun (h : (wordsL l).all okW = false) => show bodyEndO w4.heap.size (fun b => b = w.heap.size + 3) (fun S W => ∃ v, S = OwnOf v ∧ W.heap[w.heap.size]? = some (.cells #[.slice none 0 0] 34 (0, 0)) ∧ W.heap[w.heap.size + 1]? = some (.cells #[.int .i64 0] 25 (0, 0)) ∧ W.heap[w.heap.size + 1 + 1]? = some (.cells #[v] 34 (0, 0)) ∧
        W.ownsRow w4.heap.size 9 1 v (k + 1) (wcells ((wordsL l).take (k + 1))) ∧ ((wordsL l).take (k + 1)).all okW = true ∧ Below w.heap.size w W)
      (fun c S W => c = .ret ∧ (wordsL l).all okW = false ∧ W.heap[w.heap.size]? = some (.cells #[.slice none 0 0] 34 (0, 0)) ∧ W.heap[w.heap.size + 1]? = some (.cells #[.int .i64 3] 25 (0, 0)) ∧ Below w.heap.size w W ∧ w4.heap.size ≤ W.heap.size) (OwnOf v) W .ret { tmps := #[], defers := [] }
        ((W.setCell ⟨w.heap.size, 0, none⟩ (.slice none 0 0)).setCell ⟨w.heap.size + 1, 0, none⟩ (.int .i64 3)) from
      ⟨OwnOf v, ((Upd.refl _ _ _).setBox (p := ⟨w.heap.size, 0, none⟩) (by simp; omega) _).setBox (p := ⟨w.heap.size + 1, 0, none⟩) (by simp; omega) _, fun b hb => p5 b (by omega), rfl, h, p1, p2, p3, by omega⟩)
    have E0 := hide e0; have E1 := hide e1; have E2 := hide e2; have HO := hide hown; have HOK := hide hok; have HB := hide hb
    have HSP := hide (fun h : okW X = false => words_spoil hk hX.symm h)
    have HX2 := hide hx2
    have HXL := hide hxl
    clear e0 e1 e2 hown hok hb p1 p2 p3 p4 p5 hx hx2
    by_cases h0 : X = []
    · have he : (x.toList == []) = true := by rw [ByteArray.toList_eq, hxl, h0]; rfl
      have he2 : x.toList.isEmpty = true := by rw [ByteArray.toList_eq, hxl, h0]; rfl
      have hbad := HSTOP.out (HSP.out (by rw [h0]; rfl))
      have HBAD := hide hbad
      clear hbad h0 HSTOP hxl hxs hX
      gi_wp2
      exact HBAD.out
    have he : (x.toList == []) = false := by rw [ByteArray.toList_eq, hxl]; exact beq_false_of_ne h0
    have he2 : x.toList.isEmpty = false := by
      rw [ByteArray.toList_eq, hxl]
      cases X with
      | nil => exact absurd rfl h0
      | cons a b => rfl
    have H0 := hide h0
    have HX := hide hX
    clear hX hxl h0
    gi_wp2
    gi_loopw [6, 17] (fun _ c wr => ∃ j : Nat, j ≤ x.size ∧ c = .int .i64 j ∧ Hid ((X.take j).all prn = true) ∧ wr = W) (fun _ c _ => x.size - (intOf c).toNat)
    case atStart => exact ⟨0, by omega, rfl, hide rfl, by first | rfl | trivial⟩
    case round =>
      obtain ⟨j, hjl, rfl, HA, rfl⟩ := hrel
      have hj0 : (0 : Int) ≤ (j : Int) := by omega
      by_cases hlt : j < x.size
      · have hki : (j : Int) < (x.size : Int) := by omega
        obtain ⟨c, hc⟩ : ∃ c, x[j]'hlt = c := ⟨_, rfl⟩
        have hat : X[j]? = some c := by
          have h3 : x.data.toList[j]? = some x.data[j] := by simp
          rw [← HXL.out, h3]
          exact congrArg some hc
        obtain ⟨y, hyv⟩ : ∃ y : Nat, y = c.toNat := ⟨_, rfl⟩
        have hyv2 : (x[j]'hlt).toNat = y := by rw [hc, hyv]
        have HAT := hide hat
        have HY := hide hyv
        clear hat hc hyv
        rcases (show (33 ≤ y ∧ y ≤ 126) ∨ y < 33 ∨ (33 ≤ y ∧ 126 < y) by omega) with v | v | v
        · have r1 : ((y : Int) < 33) = False := eq_false (by omega)
          have r2 : ((126 : Int) < (y : Int)) = False := eq_false (by omega)
          have HN := hide (show (X.take (j + 1)).all prn = true from by
            rw [List.take_add_one, HAT.out, List.all_append, HA.out]
            simp only [Option.toList, List.all_cons, List.all_nil, Bool.and_true, Bool.true_and]
            unfold prn
            rw [← HY.out, decide_eq_true v.1, decide_eq_true v.2]
            rfl)
          clear v HA
          gi_wp2
          go_roundw
          case rel => exact ⟨j + 1, by omega, by go_num, HN, by first | rfl | trivial⟩
          case measure => simp [intOf]; omega
        · have r1 : ((y : Int) < 33) = True := eq_true (by omega)
          have HBAD := hide (HSTOP.out (HSP.out (by
            unfold okW
            rw [List.all_eq_false.2 ⟨c, List.mem_of_getElem? HAT.out, by unfold prn; rw [← HY.out, decide_eq_false (by omega)]; simp⟩, Bool.and_false])))
          clear v HA HSTOP
          gi_wp2
          exact HBAD.out
        · have r1 : ((y : Int) < 33) = False := eq_false (by omega)
          have r2 : ((126 : Int) < (y : Int)) = True := eq_true (by omega)
          have HBAD := hide (HSTOP.out (HSP.out (by
            unfold okW
            rw [List.all_eq_false.2 ⟨c, List.mem_of_getElem? HAT.out, by unfold prn; rw [← HY.out, decide_eq_false (show ¬ y ≤ 126 by omega), Bool.and_false]; simp⟩, Bool.and_false])))
          clear v HA HSTOP
          gi_wp2
          exact HBAD.out
      · have hki : ((j : Int) < (x.size : Int)) = False := eq_false (by omega)
        have HAL := hide (show okW X = true from by
          have h1 := HA.out
          rw [List.take_of_length_le (by omega)] at h1
          unfold okW
          rw [h1, Bool.and_true]
          simp only [Bool.not_eq_true', List.isEmpty_eq_false_iff]
          exact H0.out)
        clear hlt HA HSTOP HSP
        have hwk : k < 70000 := by omega
        gi_wp2_with (gi_at_builtin; refine in_append _ rfl (.tmp 31) (.tmp 33) 34 rfl w4.heap.size 9 i0 (.string ⟨#[]⟩) 1 16 Tryz.underlying34 hi0 hz0 hz1 hz2 rfl (by decide) _ _ _ rfl (HO.out.alloc _) ⟨wr.heap.size, 0, none⟩ 1 1 [.string x] rfl rfl (World.news_of_block (cs := #[.string x]) (t := 9) (fr := (0, 0)) (heap_alloc_new wr _)) (by simp [Value.oneCell']) (by omega) (by simp only [maxLen]; omega) (by omega) (by simp; omega) ?_; intro g2 cap2 w2 hown2 hg2 hat2 hlt2; have hblk := fun b (hb : b < w4.heap.size) => (hg2.block b (by simp; omega) (owns_ne HO.out (by omega))).trans (Below.heap_alloc _ _ _ (show b < wr.heap.size by omega)); have c4 := (World.cell?_of_block (a := ⟨w.heap.size + 1 + 1, 0, none⟩) (hblk _ (by simp; omega))).trans c2; have f4 := (World.frozen?_of_block (a := ⟨w.heap.size + 1 + 1, 0, none⟩) (hblk _ (by simp; omega))).trans f2; have HBk := hide hblk; have HO2 := hide hown2; have HG2 := hide hg2; have HA2 := hide hat2; clear hblk hown2 hg2 hat2)
        refine ⟨OwnOf (.slice (some ⟨g2, 0, none⟩) (k + 1) cap2), upd_append (w1 := wr.alloc (.cells #[.string x] 9)) (by omega) ((Upd.refl _ _ _).alloc _) HG2.out HA2.out, fun b hb => (Below.heap_setCell _ _ _ _ (by simp; omega)).trans (HBk.out b (by omega)),
          .slice (some ⟨g2, 0, none⟩) (k + 1) cap2, rfl, wset_off ((HBk.out _ (by omega)).trans E0.out) (by omega) _, wset_off ((HBk.out _ (by omega)).trans E1.out) (by omega) _, Boxed.set _ ((HBk.out _ (by omega)).trans E2.out), ?_, ?_, ?_⟩
        · rw [words_take hk, wcells_snoc, ← HX.out, ← HX2.out]
          exact owns_stay HO2.out (fun r hr => Below.heap_setCell _ _ _ _ (by have := (HO2.out.lt r hr).1; simp; omega))
        · rw [words_take hk, List.all_append, HOK.out, ← HX.out]
          simp [HAL.out]
        · exact ((HB.out.alloc HB.out.size _).grown HG2.out (by simp; omega) (owns_ge HO.out (by omega))).setCell (p := ⟨w.heap.size + 1 + 1, 0, none⟩) (by simp; omega) _
end Go.Proofs.YtfcjaljaomknjaaGreatDoor
namespace Go.Proofs
open Go.Shelf
def Tryz.lays161_ren : Go.Shelf.Ren := ⟨fun | 161 => 97 | 231 => 70 | 227 => 72 | 233 => 73 | 235 => 75 | 228 => 118 | 197 => 119 | 151 => 120 | 260 => 173 | 152 => 174 | 137 => 212 | 119 => 213 | 224 => 169 | 225 => 168 | 217 => 167 | 266 => 210 | n => n, fun | 9 => 9 | 4 => 4 | 3 => 3 | 5 => 5 | 117 => 90 | 116 => 89 | 0 => 0 | 124 => 93 | 105 => 124 | 21 => 21 | 119 => 208 | 46 => 99 | 139 => 211 | 138 => 210 | n => n, fun | 3 => 2 | 4 => 3 | n => n⟩
theorem Tryz.lays161 : Go.Proofs.Lays.n161 Tryz.prog Tryz.lays161_ren := {
  mixed := by kernel_rfl
  f119 := Tryz.func213.trans (congrArg some (by kernel_rfl))
  f137 := Tryz.func212.trans (congrArg some (by kernel_rfl))
  f151 := Tryz.func120.trans (congrArg some (by kernel_rfl))
  f152 := Tryz.func174.trans (congrArg some (by kernel_rfl))
  f161 := Tryz.func97.trans (congrArg some (by kernel_rfl))
  f197 := Tryz.func119.trans (congrArg some (by kernel_rfl))
  f217 := Tryz.func167.trans (congrArg some (by kernel_rfl))
  f224 := Tryz.func169.trans (congrArg some (by kernel_rfl))
  f225 := Tryz.func168.trans (congrArg some (by kernel_rfl))
  f227 := Tryz.func72.trans (congrArg some (by kernel_rfl))
  f228 := Tryz.func118.trans (congrArg some (by kernel_rfl))
  f231 := Tryz.func70.trans (congrArg some (by kernel_rfl))
  f233 := Tryz.func73.trans (congrArg some (by kernel_rfl))
  f235 := Tryz.func75.trans (congrArg some (by kernel_rfl))
  f260 := Tryz.func173.trans (congrArg some (by kernel_rfl))
  f266 := Tryz.func210.trans (congrArg some (by kernel_rfl))
  t0 := Tryz.underlying0
  a0 := Tryz.isAgg0
  z0 := Tryz.sizeOf0
  v0 := Tryz.zeroValue0
  t3 := Tryz.underlying3
  a3 := Tryz.isAgg3
  z3 := Tryz.sizeOf3
  v3 := Tryz.zeroValue3
  t4 := Tryz.underlying4
  a4 := Tryz.isAgg4
  z4 := Tryz.sizeOf4
  v4 := Tryz.zeroValue4
  t5 := Tryz.underlying5
  a5 := Tryz.isAgg5
  z5 := Tryz.sizeOf5
  v5 := Tryz.zeroValue5
  t9 := Tryz.underlying9
  a9 := Tryz.isAgg9
  z9 := Tryz.sizeOf9
  v9 := Tryz.zeroValue9
  t21 := Tryz.underlying21
  a21 := Tryz.isAgg21
  z21 := Tryz.sizeOf21
  v21 := Tryz.zeroValue21
  t46 := Tryz.underlying99
  a46 := Tryz.isAgg99
  z46 := Tryz.sizeOf99
  v46 := Tryz.zeroValue99
  t105 := Tryz.underlying124
  a105 := Tryz.isAgg124
  z105 := Tryz.sizeOf124
  v105 := Tryz.zeroValue124
  t116 := Tryz.underlying89
  a116 := Tryz.isAgg89
  z116 := Tryz.sizeOf89
  t117 := Tryz.underlying90
  a117 := Tryz.isAgg90
  z117 := Tryz.sizeOf90
  v117 := Tryz.zeroValue90
  t119 := Tryz.underlying208
  a119 := Tryz.isAgg208
  z119 := Tryz.sizeOf208
  t124 := Tryz.underlying93
  a124 := Tryz.isAgg93
  z124 := Tryz.sizeOf93
  v124 := Tryz.zeroValue93
  t138 := Tryz.underlying210
  a138 := Tryz.isAgg210
  z138 := Tryz.sizeOf210
  v138 := Tryz.zeroValue210
  t139 := Tryz.underlying211
  a139 := Tryz.isAgg211
  z139 := Tryz.sizeOf211
  v139 := Tryz.zeroValue211
  g3 := by kernel_rfl
  g4 := by kernel_rfl }
open Go.RowKit in
theorem Tryz.strings_TrimLeft_one (s : ByteArray) (c : UInt8) (hc : c.toNat < 128) (w : World) :
    Calls Tryz.prog 97 #[.string s, .string ⟨#[c]⟩] w fun e w' => e = .returned (.string ⟨(Lib.trimLeftB s.data.toList c).toArray⟩) ∧ w' = w := Any.strings_TrimLeft_one Tryz.lays161 s c hc w
end Go.Proofs
namespace Go.KI
open Go
theorem dv_drop0 (l : List UInt8) : dv (l.dropWhile (· == 48)) = dv l := by
  induction l with
  | nil => rfl
  | cons c r ih =>
    by_cases h : c = 48
    · subst h
      have e : dv (48 :: r) = dv r := by
        have := dv_append [48] r
        rw [show dv [48] = 0 from rfl, Nat.zero_mul, Nat.zero_add] at this
        exact this
      simpa [e] using ih
    · simp [h]
theorem dropW_head {p : UInt8 → Bool} {a : UInt8} {b : List UInt8} : ∀ {l : List UInt8}, l.dropWhile p = a :: b → p a = false := by
  intro l
  induction l with
  | nil => intro h; cases h
  | cons c r ih =>
    intro h
    by_cases hc : p c = true
    · rw [List.dropWhile_cons, if_pos hc] at h
      exact ih h
    · rw [List.dropWhile_cons, if_neg hc] at h
      injection h with h1 h2
      rw [← h1]
      simpa using hc
theorem whole_dec {l : List UInt8} (h : ∀ c ∈ l, isDg c = true) (hne : l.dropWhile (· == 48) ≠ []) : l.dropWhile (· == 48) = Lib.decDigits (dv l) := by
  have h1 := dec_of hne (fun c hc => h c (List.Sublist.subset (List.dropWhile_sublist _) hc)) (fun _ hh => by
    cases hq : l.dropWhile (· == 48) with
    | nil => exact absurd hq hne
    | cons a b =>
      have h3 := dropW_head hq
      rw [hq] at hh
      injection hh with hh
      rw [hh] at h3
      exact absurd h3 (by decide))
  rw [dv_drop0] at h1
  exact h1
theorem whole_zero {l : List UInt8} (he : l.dropWhile (· == 48) = []) : dv l = 0 := by
  rw [← dv_drop0, he]
  rfl
end Go.KI
namespace Go.Proofs.YtfcjaljaomknjaaGreatDoor
open Go.RowKit Go.KP Go.KI Go.Shelf
attribute [local go_sem] Oper.semAt_some

theorem mdigits_any (s : ByteArray) (hs : s.size ≤ 1000000) (b : Bool) (hb : b = decide (allDg s.data.toList)) (w : World) :
    Calls Tryz.prog 47 #[.string s] w (Ret w (.bool b)) := by
  have HT := hide (trimDg_any s w (by omega))
  obtain ⟨T, hT⟩ : ∃ T, T = strB (Lib.trimS s.data.toList cutset) := ⟨_, rfl⟩
  have hTl : T.data.toList = Lib.trimS s.data.toList cutset := by rw [hT, strB_list]
  rw [← hT] at HT
  by_cases h0 : s.data.toList = []
  · have e := empty_yes h0
    have hbf : b = false := by rw [hb, decide_eq_false_iff_not]; exact fun h => h.1 h0
    rw [hbf]
    clear hb hbf h0 hT hTl
    go_enter Tryz.func47, Tryz.ntmps47
    go_wp2_with fail
    go_ret
    exact ⟨rfl, Below.refl _ _⟩
  · have e := empty_no h0
    have hway : (T.toList.isEmpty = true ∧ b = true) ∨ (T.toList.isEmpty = false ∧ b = false) := by
      have hn := trimS_nil s.data.toList
      by_cases ha : s.data.toList.all isDg = true
      · exact .inl ⟨empty_yes (by rw [hTl]; exact hn.2 ha), by rw [hb, decide_eq_true_iff]; exact ⟨h0, List.all_eq_true.1 ha⟩⟩
      · exact .inr ⟨empty_no (by rw [hTl]; exact fun h => ha (hn.1 h)), by rw [hb, decide_eq_false_iff_not]; exact fun h => ha (List.all_eq_true.2 h.2)⟩
    clear hb h0 hT hTl
    rcases hway with ⟨h1, h2⟩ | ⟨h1, h2⟩
    all_goals
      subst h2
      go_enter Tryz.func47, Tryz.ntmps47
      go_wp2_with fail
      refine HT.out.mono ?_
      rintro e w1 ⟨rfl, hb1⟩
      have HB1 := hide hb1
      clear hb1
      go_wp2_with fail
      go_ret
      exact ⟨rfl, HB1.out⟩
theorem mwhole_any (s : ByteArray) (h : ∀ c ∈ s.data.toList, isDg c = true) (w : World) :
    Calls Tryz.prog 49 #[.string s] w (Ret w (.string (strB (Lib.decDigits (dv s.data.toList))))) := by
  have HT : Hid (Calls Tryz.prog 97 #[.string s, .string ⟨#[48]⟩] w fun e w' => e = .returned (.string (strB (s.data.toList.dropWhile (· == 48)))) ∧ w = w') := hide ((Tryz.strings_TrimLeft_one s 48 (by decide) w).mono fun e w' ⟨he, hw⟩ => ⟨by rw [he]; rfl, hw.symm⟩)
  obtain ⟨T, hT⟩ : ∃ T, T = strB (s.data.toList.dropWhile (· == 48)) := ⟨_, rfl⟩
  have hTl : T.data.toList = s.data.toList.dropWhile (· == 48) := by rw [hT, strB_list]
  rw [← hT] at HT
  by_cases h0 : s.data.toList.dropWhile (· == 48) = []
  · have e := empty_yes (s := T) (by rw [hTl, h0])
    have HE := hide (show strB (Lib.decDigits (dv s.data.toList)) = ⟨#[48]⟩ by rw [whole_zero h0, dec_zero]; rfl)
    clear h h0 hT hTl
    go_enter Tryz.func49, Tryz.ntmps49
    go_wp2_with fail
    refine HT.out.mono ?_
    rintro e w1 ⟨rfl, rfl⟩
    go_wp2_with fail
    go_ret
    rw [HE.out]
    exact ⟨rfl, Below.refl _ _⟩
  · have e := empty_no (s := T) (by rw [hTl]; exact h0)
    have HE := hide (show strB (Lib.decDigits (dv s.data.toList)) = T by rw [hT, whole_dec h h0])
    clear h h0 hT hTl
    go_enter Tryz.func49, Tryz.ntmps49
    go_wp2_with fail
    refine HT.out.mono ?_
    rintro e w1 ⟨rfl, rfl⟩
    go_wp2_with fail
    go_ret
    rw [HE.out]
    exact ⟨rfl, Below.refl _ _⟩
theorem sz_nat {u p : Nat} (h : u < 10 ^ p) (hp : 1 ≤ p) : sz p ((u : Nat) : Rat) := by
  have e : ((u : Nat) : Rat) = (((u : Nat) : Int) : Rat) := rfl
  refine ⟨?_, ?_⟩
  · rw [e, Rat.num_intCast, Int.natAbs_natCast]
    exact h
  · rw [e, Rat.den_intCast]
    have : 10 ^ 1 ≤ 10 ^ p := Nat.pow_le_pow_right (by omega) hp
    omega
theorem ratS_nat (u : Nat) : ratS ((u : Nat) : Rat) = Lib.decDigits u := by
  have e : ((u : Nat) : Rat) = (((u : Nat) : Int) : Rat) := rfl
  rw [e, ratS_int, Lib.itoa_nonneg]
theorem mfraction_any (neg : Bool) (n d : ByteArray) (D : Nat) (h : ∀ c ∈ n.data.toList, isDg c = true) (hn : n.size ≤ 92) (hd : d.data.toList = Lib.decDigits D) (hD : D < 10 ^ 92) (h0 : D ≠ 0) (B : Nat) (w : World) (hB : B ≤ w.heap.size) (hT : PQ B w) :
    Calls Tryz.prog 48 #[.string (strB (sgnT neg)), .string n, .string d] w (Ret w (.string (strB (ratS (sgn neg ((dv n.data.toList : Nat) / ((D : Nat) : Rat))))))) := by
  have HT := hide hT
  have HW := hide (mwhole_any n h w)
  have hv : dv n.data.toList < 10 ^ 92 := by
    refine Nat.lt_of_lt_of_le (dv_lt _ h) (Nat.pow_le_pow_right (by omega) ?_)
    rw [bytes_len]
    exact hn
  have s1 := sz_nat hv (by omega)
  have s2 := sz_nat hD (by omega)
  obtain ⟨u, hu⟩ : ∃ u, u = dv n.data.toList := ⟨_, rfl⟩
  rw [← hu] at HW s1 hv ⊢
  have hD0 : ((D : Nat) : Rat) ≠ 0 := by
    intro e
    have := congrArg Rat.num e
    rw [show ((D : Nat) : Rat) = (((D : Nat) : Int) : Rat) from rfl, Rat.num_intCast] at this
    simp at this
    exact h0 this
  have HD := hide (fun w hB hT => qdiv_to (s := strB (Lib.decDigits u)) (t := d) (x := ((u : Nat) : Rat)) (y := ((D : Nat) : Rat)) (by rw [strB_list, ratS_nat]) (by rw [hd, ratS_nat]) (sz_fits s1 (by rw [most_eq]; omega)) (sz_fits s2 (by rw [most_eq]; omega)) hD0 (cmpC_of s1 s2 (by rw [most_eq]; omega)) B w hB hT)
  have s3 := sz_div (by omega) s1 s2
  obtain ⟨q, hq⟩ : ∃ q, q = ((u : Nat) : Rat) / ((D : Nat) : Rat) := ⟨_, rfl⟩
  rw [← hq] at HD s3 ⊢
  have s0 : sz 1 (0 : Rat) := ⟨by decide, by decide⟩
  have HS := hide (fun w hB hT => qsub_to (s := ⟨#[48]⟩) (t := strB (ratS q)) (x := 0) (y := q) (by rw [ratS_zero]) (strB_list _) (sz_fits s0 (by rw [most_eq]; omega)) (sz_fits s3 (by rw [most_eq]; omega)) (subC_of s0 s3 (by rw [most_eq]; omega)) B w hB hT)
  rw [show (0 : Rat) - q = -q by rw [Rat.sub_eq_add_neg, Rat.zero_add]] at HS
  obtain ⟨A, hA⟩ : ∃ X, X = strB (Lib.decDigits u) := ⟨_, rfl⟩
  obtain ⟨Q, hQ⟩ : ∃ X, X = strB (ratS q) := ⟨_, rfl⟩
  obtain ⟨R, hR⟩ : ∃ X, X = strB (ratS (-q)) := ⟨_, rfl⟩
  rw [← hA] at HW HD
  rw [← hQ] at HD HS
  rw [← hR] at HS
  cases neg with
  | false =>
    have e1 : strB (sgnT false) = ⟨#[]⟩ := rfl
    rw [e1, show sgn false q = q from rfl, ← hQ]
    clear h hn hd hD h0 hT hv s1 s2 hu hD0 s3 hq s0 hA hQ hR e1 HS
    go_enter Tryz.func48, Tryz.ntmps48
    go_wp2_with fail
    refine HW.out.mono ?_
    rintro e w1 ⟨rfl, hb1⟩
    have HB1 := hide hb1
    clear hb1
    go_wp2_with fail
    refine (HD.out _ (Nat.le_trans hB HB1.out.size) (HT.out.on HB1.out hB)).mono ?_
    rintro e w2 ⟨rfl, hb2⟩
    have HB2 := hide (HB1.out.trans (hb2.mono HB1.out.size))
    clear hb2
    go_wp2_with fail
    go_ret
    exact ⟨rfl, HB2.out⟩
  | true =>
    have e1 : strB (sgnT true) = ⟨#[45]⟩ := rfl
    rw [e1, show sgn true q = -q from rfl, ← hR]
    clear h hn hd hD h0 hT hv s1 s2 hu hD0 s3 hq s0 hA hQ hR e1
    go_enter Tryz.func48, Tryz.ntmps48
    go_wp2_with fail
    refine HW.out.mono ?_
    rintro e w1 ⟨rfl, hb1⟩
    have HB1 := hide hb1
    clear hb1
    go_wp2_with fail
    refine (HD.out _ (Nat.le_trans hB HB1.out.size) (HT.out.on HB1.out hB)).mono ?_
    rintro e w2 ⟨rfl, hb2⟩
    have HB2 := hide (HB1.out.trans (hb2.mono HB1.out.size))
    clear hb2
    go_wp2_with fail
    refine (HS.out _ (Nat.le_trans hB HB2.out.size) (HT.out.on HB2.out hB)).mono ?_
    rintro e w3 ⟨rfl, hb3⟩
    have HB3 := hide (HB2.out.trans (hb3.mono HB2.out.size))
    clear hb3
    go_wp2_with fail
    go_ret
    exact ⟨rfl, HB3.out⟩
end Go.Proofs.YtfcjaljaomknjaaGreatDoor
namespace Go.KI
open Go
theorem behind_le (c : UInt8) (l : List UInt8) : (behind c l).length ≤ l.length := by
  unfold behind
  have h := List.Sublist.length_le (List.dropWhile_sublist (l := l) (fun x => x != c))
  rw [List.length_drop]
  omega
theorem ahead_le (c : UInt8) (l : List UInt8) : (ahead c l).length ≤ l.length := List.Sublist.length_le (List.takeWhile_sublist _)
theorem both_le {c : UInt8} {l : List UInt8} (h : c ∈ l) : (ahead c l).length + (behind c l).length + 1 = l.length := by
  have := congrArg List.length (split_eq h)
  rw [List.length_append, List.length_cons] at this
  omega
theorem digs_le (l : List UInt8) : (digs l).length ≤ l.length := by
  cases l with
  | nil => exact Nat.le_refl _
  | cons c r =>
    simp only [digs]
    split <;> simp
end Go.KI
namespace Go.Proofs.YtfcjaljaomknjaaGreatDoor
open Go.RowKit Go.KP Go.KI Go.Shelf
attribute [local go_sem] Oper.semAt_some

open Go.RowKit Go.KP Go.KI Go.Shelf
attribute [local go_sem] Oper.semAt_some

theorem lit60 : (⟨#[54, 48]⟩ : ByteArray).data.toList = Lib.itoa 60 := by
  rw [show (60 : Int) = ((60 : Nat) : Int) from rfl, Lib.itoa_nonneg]
  exact dec_of (l := [54, 48]) (by decide) (by decide) (by decide)
theorem lit127 : (⟨#[49, 50, 55]⟩ : ByteArray).data.toList = Lib.itoa 127 := by
  rw [show (127 : Int) = ((127 : Nat) : Int) from rfl, Lib.itoa_nonneg]
  exact dec_of (l := [49, 50, 55]) (by decide) (by decide) (by decide)
theorem lit144 : (⟨#[49, 52, 52]⟩ : ByteArray).data.toList = Lib.itoa 144 := by
  rw [show (144 : Int) = ((144 : Nat) : Int) from rfl, Lib.itoa_nonneg]
  exact dec_of (l := [49, 52, 52]) (by decide) (by decide) (by decide)
theorem lit12 : (⟨#[49, 50]⟩ : ByteArray).data.toList = Lib.itoa 12 := by
  rw [show (12 : Int) = ((12 : Nat) : Int) from rfl, Lib.itoa_nonneg]
  exact dec_of (l := [49, 50]) (by decide) (by decide) (by decide)
theorem fits_lit {z : Int} (h : z.natAbs < 1000) : fits z := fits_le_pow (k := 3) (by omega) (by omega)
def twelfths (q : Rat) : Int := near2 (q.num * 60) ((q.den : Int) * 127)
def feetS (l : List UInt8) : List UInt8 := if chkM l = 0 then feetT (twelfths (valQ l)) else []
theorem feet_fits {n : Int} {d : Nat} (hn : n.natAbs < 10 ^ 90) (hd : d < 10 ^ 90) :
    fits n ∧ fits (d : Int) ∧ fits (n * 60) ∧ fits ((d : Int) * 127) ∧ fits (n * 60 * 2) ∧ fits (n * 60 * 2 + (d : Int) * 127) ∧ fits ((d : Int) * 127 * 2) := by
  have e : (10 : Nat) ^ 94 = 10000 * 10 ^ 90 := by rw [show 94 = 90 + 4 from rfl, Nat.pow_add, Nat.mul_comm]
  refine ⟨fits_le_pow (k := 90) (by omega) hn, fits_le_pow (k := 90) (by omega) (by rw [Int.natAbs_natCast]; exact hd), fits_le_pow (k := 94) (by omega) (by omega), fits_le_pow (k := 94) (by omega) (by omega), fits_le_pow (k := 94) (by omega) (by omega), fits_le_pow (k := 94) (by omega) (by omega), fits_le_pow (k := 94) (by omega) (by omega)⟩
theorem twelfths_len {q : Rat} (hn : q.num.natAbs < 10 ^ 90) : (twelfths q).natAbs < 10 ^ 94 := by
  have dp := q.den_pos
  have h1 := near2_abs (n := q.num * 60) (d := (q.den : Int) * 127) (by omega)
  have e : (10 : Nat) ^ 94 = 10000 * 10 ^ 90 := by rw [show 94 = 90 + 4 from rfl, Nat.pow_add, Nat.mul_comm]
  unfold twelfths
  omega
theorem nat_fdiv (u k : Nat) (hk : 0 < k) : ((u : Int)).fdiv (k : Int) = ((u / k : Nat) : Int) ∧ ((u : Int)).fmod (k : Int) = ((u % k : Nat) : Int) := by
  constructor
  · rw [Int.fdiv_eq_ediv_of_nonneg _ (by omega), Int.natCast_ediv]
  · rw [Int.fmod_eq_emod_of_nonneg _ (by omega), Int.natCast_emod]
theorem mFeet_any (s : ByteArray) (hs : s.size ≤ 1000000) (B : Nat) (w : World) (hB : B ≤ w.heap.size) (hT : PQ B w) :
    Calls Tryz.prog 15 #[.string s] w (Ret w (pairV (feetS s.data.toList) (chkM s.data.toList))) := by
  have HT := hide hT
  have HC := hide (mparts_any s hs B w hB hT)
  by_cases hM : chkM s.data.toList = 0
  · obtain ⟨_, n1, d1⟩ := chkM_ok hM
    rw [show partsM s.data.toList = tripV (Lib.itoa (valQ s.data.toList).num) (Lib.itoa ((valQ s.data.toList).den : Int)) 0 from if_pos hM] at HC
    rw [show feetS s.data.toList = feetT (twelfths (valQ s.data.toList)) from if_pos hM, hM]
    have dp := (valQ s.data.toList).den_pos
    obtain ⟨f1, f2, f3, f4, f5, f6, f7⟩ := feet_fits n1 d1
    have hul := twelfths_len n1
    have HM1 := hide (fun w hB hT => mmul_to (s := strB (Lib.itoa (valQ s.data.toList).num)) (t := ⟨#[54, 48]⟩) (strB_list _) lit60 f1 (fits_lit (by decide)) f3 B w hB hT)
    have HM2 := hide (fun w hB hT => mmul_to (s := strB (Lib.itoa ((valQ s.data.toList).den : Int))) (t := ⟨#[49, 50, 55]⟩) (strB_list _) lit127 f2 (fits_lit (by decide)) f4 B w hB hT)
    have HNE := hide (fun w hB hT => mnearest_to (s := strB (Lib.itoa ((valQ s.data.toList).num * 60))) (t := strB (Lib.itoa (((valQ s.data.toList).den : Int) * 127))) (strB_list _) (strB_list _) f3 f4 f5 f6 f7 (by omega) B w hB hT)
    obtain ⟨m, hm⟩ : ∃ m, m = twelfths (valQ s.data.toList) := ⟨_, rfl⟩
    rw [show near2 ((valQ s.data.toList).num * 60) (((valQ s.data.toList).den : Int) * 127) = m from hm.symm] at HNE
    rw [← hm] at hul ⊢
    have HSI := hide (fun w => msigned_any (strB (Lib.itoa m)) w)
    rw [strB_list, isNeg_itoa, digs_itoa] at HSI
    obtain ⟨u, hu⟩ : ∃ u, u = m.natAbs := ⟨_, rfl⟩
    rw [← hu] at hul HSI
    have fu : fits (u : Int) := fits_le_pow (k := 94) (by omega) (by rw [Int.natAbs_natCast]; exact hul)
    obtain ⟨q1, q2⟩ := nat_fdiv u 144 (by omega)
    obtain ⟨q3, q4⟩ := nat_fdiv (u % 144) 12 (by omega)
    have HD1 := hide (fun w hB hT => mdivide_to (s := strB (Lib.decDigits u)) (t := ⟨#[49, 52, 52]⟩) (x := (u : Int)) (y := 144) (by rw [strB_list, Lib.itoa_nonneg]) lit144 fu (fits_lit (by decide)) (by decide) B w hB hT)
    rw [show (144 : Int) = ((144 : Nat) : Int) from rfl, q1, q2] at HD1
    have HD2 := hide (fun w hB hT => mdivide_to (s := strB (Lib.itoa ((u % 144 : Nat) : Int))) (t := ⟨#[49, 50]⟩) (x := ((u % 144 : Nat) : Int)) (y := 12) (strB_list _) lit12 (fits_lit (by omega)) (fits_lit (by decide)) (by decide) B w hB hT)
    rw [show (12 : Int) = ((12 : Nat) : Int) from rfl, q3, q4] at HD2
    obtain ⟨N, hN⟩ : ∃ X, X = strB (Lib.itoa (valQ s.data.toList).num) := ⟨_, rfl⟩
    obtain ⟨D, hD⟩ : ∃ X, X = strB (Lib.itoa ((valQ s.data.toList).den : Int)) := ⟨_, rfl⟩
    obtain ⟨N2, hN2⟩ : ∃ X, X = strB (Lib.itoa ((valQ s.data.toList).num * 60)) := ⟨_, rfl⟩
    obtain ⟨D2, hD2⟩ : ∃ X, X = strB (Lib.itoa (((valQ s.data.toList).den : Int) * 127)) := ⟨_, rfl⟩
    obtain ⟨Q, hQ⟩ : ∃ X, X = strB (Lib.itoa m) := ⟨_, rfl⟩
    obtain ⟨S, hS⟩ : ∃ X, X = strB (sgnT (decide (m < 0))) := ⟨_, rfl⟩
    obtain ⟨O, hO⟩ : ∃ X, X = strB (Lib.decDigits u) := ⟨_, rfl⟩
    obtain ⟨A, hA⟩ : ∃ X, X = strB (Lib.itoa ((u / 144 : Nat) : Int)) := ⟨_, rfl⟩
    obtain ⟨R, hR⟩ : ∃ X, X = strB (Lib.itoa ((u % 144 : Nat) : Int)) := ⟨_, rfl⟩
    obtain ⟨I, hI⟩ : ∃ X, X = strB (Lib.itoa ((u % 144 / 12 : Nat) : Int)) := ⟨_, rfl⟩
    obtain ⟨T, hT2⟩ : ∃ X, X = strB (Lib.itoa ((u % 144 % 12 : Nat) : Int)) := ⟨_, rfl⟩
    have HC : Hid (Calls Tryz.prog 54 #[.string s] w (Ret w (.tuple #[.string N, .string D, .int .i64 0]))) := hide (by rw [hN, hD]; exact HC.out)
    rw [← hN, ← hN2] at HM1
    rw [← hD, ← hD2] at HM2
    rw [← hN2, ← hD2, ← hQ] at HNE
    rw [← hQ, ← hS, ← hO] at HSI
    rw [← hO, ← hA, ← hR] at HD1
    rw [← hR, ← hI, ← hT2] at HD2
    have hdl : ∀ v : Nat, v < 10 ^ 94 → (Lib.decDigits v).length ≤ 94 := fun v hv => (dec_len_le (by omega)).2 hv
    have hSs : S.size ≤ 1 := by rw [hS, strB_size]; unfold sgnT; split <;> simp
    have hAs : A.size ≤ 94 := by rw [hA, strB_size, Lib.itoa_nonneg]; exact hdl _ (by omega)
    have hIs : I.size ≤ 94 := by rw [hI, strB_size, Lib.itoa_nonneg]; exact hdl _ (by omega)
    have hTs : T.size ≤ 94 := by rw [hT2, strB_size, Lib.itoa_nonneg]; exact hdl _ (by omega)
    have v1 : (9223372036854775807 < S.size + A.size) = False := eq_false (by omega)
    have v2 : (9223372036854775807 < S.size + A.size + 1) = False := eq_false (by omega)
    have v3 : (9223372036854775807 < S.size + A.size + 1 + I.size) = False := eq_false (by omega)
    have v4 : (9223372036854775807 < S.size + A.size + 1 + I.size + 1) = False := eq_false (by omega)
    have v5 : (9223372036854775807 < S.size + A.size + 1 + I.size + 1 + T.size) = False := eq_false (by omega)
    have HX := hide (show strB (feetT m) = S ++ A ++ ⟨#[39]⟩ ++ I ++ ⟨#[34]⟩ ++ T by
      unfold feetT
      rw [← hu, hS, hA, hI, hT2, Lib.itoa_nonneg, Lib.itoa_nonneg, Lib.itoa_nonneg]
      apply bytes_eq
      simp [strB, sgnT])
    rw [show pairV (feetT m) 0 = .tuple #[.string (strB (feetT m)), .int .i64 0] from rfl, HX.out]
    clear hM n1 d1 dp f1 f2 f3 f4 f5 f6 f7 hm hN hD hN2 hD2 hQ hS hO hA hR hI hT2 hT hu hul fu q1 q2 q3 q4 hdl hSs hAs hIs hTs HX
    go_enter Tryz.func15, Tryz.ntmps15
    go_wp2_with fail
    refine HC.out.mono ?_
    rintro e w1 ⟨rfl, hb1⟩
    have HB1 := hide hb1
    clear hb1
    go_wp2_with fail
    refine (HM1.out _ (Nat.le_trans hB HB1.out.size) (HT.out.p10.on HB1.out hB)).mono ?_
    rintro e w2 ⟨rfl, hb2⟩
    have HB2 := hide (HB1.out.trans (hb2.mono HB1.out.size))
    clear hb2
    go_wp2_with fail
    refine (HM2.out _ (Nat.le_trans hB HB2.out.size) (HT.out.p10.on HB2.out hB)).mono ?_
    rintro e w3 ⟨rfl, hb3⟩
    have HB3 := hide (HB2.out.trans (hb3.mono HB2.out.size))
    clear hb3
    go_wp2_with fail
    refine (HNE.out _ (Nat.le_trans hB HB3.out.size) (HT.out.p10.on HB3.out hB)).mono ?_
    rintro e w4 ⟨rfl, hb4⟩
    have HB4 := hide (HB3.out.trans (hb4.mono HB3.out.size))
    clear hb4
    go_wp2_with fail
    refine (HSI.out _).mono ?_
    rintro e w5 ⟨rfl, hb5⟩
    have HB5 := hide (HB4.out.trans (hb5.mono HB4.out.size))
    clear hb5
    go_wp2_with fail
    refine (HD1.out _ (Nat.le_trans hB HB5.out.size) (HT.out.p10.on HB5.out hB)).mono ?_
    rintro e w6 ⟨rfl, hb6⟩
    have HB6 := hide (HB5.out.trans (hb6.mono HB5.out.size))
    clear hb6
    go_wp2_with fail
    refine (HD2.out _ (Nat.le_trans hB HB6.out.size) (HT.out.p10.on HB6.out hB)).mono ?_
    rintro e w7 ⟨rfl, hb7⟩
    have HB7 := hide (HB6.out.trans (hb7.mono HB6.out.size))
    clear hb7
    go_wp2_with fail
    refine bodyPost_ret (results_tmp2 rfl _ _ _) rfl ?_
    exact ⟨rfl, HB7.out⟩
  · rw [show partsM s.data.toList = tripV [] [] (chkM s.data.toList) from if_neg hM, tripV_err] at HC
    rw [show feetS s.data.toList = [] from if_neg hM, pairV_err]
    have hne : (chkM s.data.toList != 0) = true := by simpa using hM
    obtain ⟨E, hE⟩ : ∃ E, E = chkM s.data.toList := ⟨_, rfl⟩
    rw [← hE] at HC hne ⊢
    clear hE hM hT
    go_enter Tryz.func15, Tryz.ntmps15
    go_wp2_with fail
    refine HC.out.mono ?_
    rintro e w1 ⟨rfl, hb1⟩
    have HB1 := hide hb1
    clear hb1
    go_wp2_with fail
    refine bodyPost_ret (results_tmp2 rfl _ _ _) rfl ?_
    exact ⟨rfl, HB1.out⟩
end Go.Proofs.YtfcjaljaomknjaaGreatDoor
namespace Go.KI
open Go
def feetM (l : List UInt8) : Nat := (dv (ahead 39 (digs l)) * 12 + dv (ahead 34 (behind 39 (digs l)))) * 12 + dv (behind 34 (behind 39 (digs l)))
def feetQ (l : List UInt8) : Rat := sgn (isNeg l) (((feetM l * 127 : Nat) : Rat) / ((60 : Nat) : Rat))
def feetE (l : List UInt8) : Int := if 90 < l.length then 4 else if feetOK l then 0 else 3
def feetR (l : List UInt8) : List UInt8 := if feetE l = 0 then ratS (feetQ l) else []
theorem numeral_iff {l : List UInt8} : numeral l ↔ allDg l ∧ Lib.decDigits (dv l) = l := by
  constructor
  · intro h
    exact ⟨⟨h.1, List.all_eq_true.1 h.2.1⟩, (numeral_dec h).symm⟩
  · rintro ⟨h1, h2⟩
    rw [← h2]
    exact dec_numeral _
end Go.KI
namespace Go.Proofs.YtfcjaljaomknjaaGreatDoor
open Go.RowKit Go.KP Go.KI Go.Shelf
attribute [local go_sem] Oper.semAt_some

theorem msmall_any (s : ByteArray) (hs : s.size ≤ 1000000) (b : Bool) (hb : b = decide (smallT s.data.toList)) (w : World) :
    Calls Tryz.prog 58 #[.string s] w (Ret w (.bool b)) := by
  have HD := hide (fun b hb w => mdigits_any s hs b hb w)
  obtain ⟨t1, t2⟩ := lit_eq (s := s) (l := s.data.toList) (m := [49, 48]) rfl
  obtain ⟨u1, u2⟩ := lit_eq (s := s) (l := s.data.toList) (m := [49, 49]) rfl
  have hlen := bytes_len s
  by_cases h1 : s.size = 1
  · have z : ((s.size : Int) == 1) = true := by rw [h1]; rfl
    have n10 : s.data.toList ≠ [49, 48] := fun e => by rw [e] at hlen; simp at hlen; omega
    have n11 : s.data.toList ≠ [49, 49] := fun e => by rw [e] at hlen; simp at hlen; omega
    have e1 := t2 n10
    have e2 := u2 n11
    by_cases h2 : allDg s.data.toList
    · have hbt : b = true := by rw [hb, decide_eq_true_iff]; exact .inl ⟨by omega, h2⟩
      have HDA := hide (HD.out true (by simpa using h2))
      rw [hbt]
      clear t1 t2 u1 u2 hlen h1 n10 n11 h2 hb hbt HD
      go_enter Tryz.func58, Tryz.ntmps58
      go_wp2_with fail
      refine (HDA.out _).mono ?_
      rintro e w1 ⟨rfl, hb1⟩
      have HB1 := hide hb1
      clear hb1
      go_wp2_with fail
      go_ret
      exact ⟨rfl, HB1.out⟩
    · have hbt : b = false := by
        rw [hb, decide_eq_false_iff_not]
        rintro (h | h | h)
        · exact h2 h.2
        · exact n10 h
        · exact n11 h
      have HDA := hide (HD.out false (by simpa using h2))
      rw [hbt]
      clear t1 t2 u1 u2 hlen h1 n10 n11 h2 hb hbt HD
      go_enter Tryz.func58, Tryz.ntmps58
      go_wp2_with fail
      refine (HDA.out _).mono ?_
      rintro e w1 ⟨rfl, hb1⟩
      have HB1 := hide hb1
      clear hb1
      go_wp2_with fail
      go_ret
      exact ⟨rfl, HB1.out⟩
  · have z : ((s.size : Int) == 1) = false := by
      simp only [beq_eq_false_iff_ne, ne_eq]
      omega
    have hway : ((s.toList == [49, 48]) = true ∧ b = true) ∨ ((s.toList == [49, 48]) = false ∧ (s.toList == [49, 49]) = true ∧ b = true) ∨ ((s.toList == [49, 48]) = false ∧ (s.toList == [49, 49]) = false ∧ b = false) := by
      by_cases a1 : s.data.toList = [49, 48]
      · exact .inl ⟨t1 a1, by rw [hb, decide_eq_true_iff]; exact .inr (.inl a1)⟩
      · by_cases a2 : s.data.toList = [49, 49]
        · exact .inr (.inl ⟨t2 a1, u1 a2, by rw [hb, decide_eq_true_iff]; exact .inr (.inr a2)⟩)
        · refine .inr (.inr ⟨t2 a1, u2 a2, ?_⟩)
          rw [hb, decide_eq_false_iff_not]
          rintro (h | h | h)
          · exact h1 (by omega)
          · exact a1 h
          · exact a2 h
    clear t1 t2 u1 u2 hlen h1 hb HD
    rcases hway with ⟨e1, e2⟩ | ⟨e1, e3, e2⟩ | ⟨e1, e3, e2⟩
    all_goals
      subst e2
      go_enter Tryz.func58, Tryz.ntmps58
      go_wp2_with fail
      go_ret
      exact ⟨rfl, Below.refl _ _⟩
theorem mParseFeet_any (s : ByteArray) (B : Nat) (w : World) (hB : B ≤ w.heap.size) (hT : PQ B w) :
    Calls Tryz.prog 17 #[.string s] w (Ret w (pairV (feetR s.data.toList) (feetE s.data.toList))) := by
  have HT := hide hT
  by_cases h90 : 90 < s.size
  · have e : feetE s.data.toList = 4 := by unfold feetE; rw [if_pos (by rw [bytes_len]; exact h90)]
    rw [show feetR s.data.toList = [] by unfold feetR; rw [e, if_neg (by decide)], e, pairV_err]
    have hm : (90 : Int) < (s.size : Int) := by omega
    clear e h90 hT
    go_enter Tryz.func17, Tryz.ntmps17
    go_wp2_with fail
    refine bodyPost_ret (results_tmp2 rfl _ _ _) rfl ?_
    exact ⟨rfl, Below.refl _ _⟩
  have hm : ((90 : Int) < (s.size : Int)) = False := eq_false (by omega)
  have hpe : feetE s.data.toList = if feetOK s.data.toList then 0 else 3 := by
    unfold feetE
    rw [if_neg (by rw [bytes_len]; exact h90)]
  have hbad : ¬ feetOK s.data.toList → pairV (feetR s.data.toList) (feetE s.data.toList) = .tuple #[.string ⟨#[]⟩, .int .i64 3] := fun h => by
    have e : feetE s.data.toList = 3 := by rw [hpe, if_neg h]
    rw [show feetR s.data.toList = [] by unfold feetR; rw [e, if_neg (by decide)], e, pairV_err]
  have hgood : feetOK s.data.toList → pairV (feetR s.data.toList) (feetE s.data.toList) = pairV (ratS (feetQ s.data.toList)) 0 := fun h => by
    have e : feetE s.data.toList = 0 := by rw [hpe, if_pos h]
    rw [show feetR s.data.toList = ratS (feetQ s.data.toList) by unfold feetR; rw [if_pos e], e]
  have hok : feetOK s.data.toList ↔ (39 ∈ digs s.data.toList ∧ 34 ∈ KI.behind 39 (digs s.data.toList) ∧ numeral (KI.ahead 39 (digs s.data.toList)) ∧ smallT (KI.ahead 34 (KI.behind 39 (digs s.data.toList))) ∧ smallT (KI.behind 34 (KI.behind 39 (digs s.data.toList))) ∧ s.data.toList ≠ [45, 48, 39, 48, 34, 48]) := Iff.rfl
  have hq : feetQ s.data.toList = sgn (isNeg s.data.toList) (((((dv (KI.ahead 39 (digs s.data.toList)) * 12 + dv (KI.ahead 34 (KI.behind 39 (digs s.data.toList)))) * 12 + dv (KI.behind 34 (KI.behind 39 (digs s.data.toList)))) * 127 : Nat) : Rat) / ((60 : Nat) : Rat)) := rfl
  have HSI := hide (msigned_any s w)
  obtain ⟨neg, hneg⟩ : ∃ neg, neg = isNeg s.data.toList := ⟨_, rfl⟩
  obtain ⟨L, hL⟩ : ∃ L, L = digs s.data.toList := ⟨_, rfl⟩
  have hLl : L.length ≤ 90 := by rw [hL]; have := digs_le s.data.toList; rw [bytes_len] at this; omega
  rw [← hneg, ← hL] at HSI
  rw [← hL] at hok hq
  rw [← hneg] at hq
  obtain ⟨O, hO⟩ : ∃ O, O = strB L := ⟨_, rfl⟩
  have hOl : O.data.toList = L := by rw [hO, strB_list]
  have hOs : O.size ≤ 90 := by rw [← bytes_len, hOl]; exact hLl
  have HC39 := hide (fun w hT => scut_any 39 O (by omega) B w hT)
  rw [hOl] at HC39
  rw [← hO] at HSI
  obtain ⟨SG, hSG⟩ : ∃ O, O = strB (sgnT neg) := ⟨_, rfl⟩
  have HFR := hide (fun n d D h hn hd hD h0 w hB hT => mfraction_any neg n d D h hn hd hD h0 B w hB hT)
  rw [← hSG] at HSI HFR
  obtain ⟨tz1, tz2⟩ := lit_eq (s := s) (l := s.data.toList) (m := [45, 48, 39, 48, 34, 48]) rfl
  have hal := ahead_le 39 L
  have hbl := behind_le 39 L
  obtain ⟨a, ha⟩ : ∃ a, a = KI.ahead 39 L := ⟨_, rfl⟩
  obtain ⟨b, hb⟩ : ∃ a, a = if 39 ∈ L then KI.behind 39 L else [] := ⟨_, rfl⟩
  rw [← ha, ← hb] at HC39
  have hb39 : 39 ∈ L → KI.behind 39 L = b := fun h => by rw [hb, if_pos h]
  have hbl2 : b.length ≤ 90 := by
    rw [hb]
    split
    · omega
    · exact Nat.zero_le _
  have hsum : 39 ∈ L → a.length + b.length + 1 = L.length := fun h => by rw [ha, ← hb39 h]; exact both_le h
  rw [← ha] at hok hq hal
  obtain ⟨A, hA⟩ : ∃ O, O = strB a := ⟨_, rfl⟩
  obtain ⟨R, hR⟩ : ∃ O, O = strB b := ⟨_, rfl⟩
  have hAl : A.data.toList = a := by rw [hA, strB_list]
  have hAs : A.size = a.length := by rw [hA, strB_size]
  have hRl : R.data.toList = b := by rw [hR, strB_list]
  have hRs : R.size = b.length := by rw [hR, strB_size]
  rw [← hA, ← hR] at HC39
  have HC34 := hide (fun w hT => scut_any 34 R (by omega) B w hT)
  rw [hRl] at HC34
  have hil := ahead_le 34 b
  have htl := behind_le 34 b
  obtain ⟨i, hi⟩ : ∃ a, a = KI.ahead 34 b := ⟨_, rfl⟩
  obtain ⟨t, ht⟩ : ∃ a, a = if 34 ∈ b then KI.behind 34 b else [] := ⟨_, rfl⟩
  have ht34 : 34 ∈ b → KI.behind 34 b = t := fun h => by rw [ht, if_pos h]
  have htl2 : t.length ≤ 90 := by
    rw [ht]
    split
    · omega
    · exact Nat.zero_le _
  have hsum2 : 34 ∈ b → i.length + t.length + 1 = b.length := fun h => by rw [hi, ← ht34 h]; exact both_le h
  rw [← hi, ← ht] at HC34
  rw [← hi] at hil
  obtain ⟨I, hI⟩ : ∃ O, O = strB i := ⟨_, rfl⟩
  obtain ⟨T, hT2⟩ : ∃ O, O = strB t := ⟨_, rfl⟩
  have hIl : I.data.toList = i := by rw [hI, strB_list]
  have hIs : I.size = i.length := by rw [hI, strB_size]
  have hTl : T.data.toList = t := by rw [hT2, strB_list]
  have hTs : T.size = t.length := by rw [hT2, strB_size]
  rw [← hI, ← hT2] at HC34
  have hok2 : 39 ∈ L → 34 ∈ b → (feetOK s.data.toList ↔ numeral a ∧ smallT i ∧ smallT t ∧ s.data.toList ≠ [45, 48, 39, 48, 34, 48]) := fun h1 h2 => by
    rw [hok, hb39 h1, ht34 h2, ← hi]
    exact ⟨fun h => h.2.2, fun h => ⟨h1, h2, h⟩⟩
  have hq2 : 39 ∈ L → 34 ∈ b → feetQ s.data.toList = sgn neg (((((dv a * 12 + dv i) * 12 + dv t) * 127 : Nat) : Rat) / ((60 : Nat) : Rat)) := fun h1 h2 => by
    rw [hq, hb39 h1, ht34 h2, ← hi]
  have HDA := hide (fun x hx w => mdigits_any A (by omega) x hx w)
  rw [hAl] at HDA
  have HSM1 := hide (fun x hx w => msmall_any I (by omega) x hx w)
  rw [hIl] at HSM1
  have HSM2 := hide (fun x hx w => msmall_any T (by omega) x hx w)
  rw [hTl] at HSM2
  by_cases h39 : 39 ∈ L
  · by_cases h34 : 34 ∈ b
    · rw [show decide (39 ∈ L) = true by simpa using h39] at HC39
      rw [show decide (34 ∈ b) = true by simpa using h34] at HC34
      have hk := hok2 h39 h34
      have hqq := hq2 h39 h34
      have hsz := hsum h39
      have hsz2 := hsum2 h34
      by_cases k1 : allDg a
      · have HD := hide (HDA.out true (by simpa using k1))
        have HW := hide (fun w => mwhole_any A (by rw [hAl]; exact k1.2) w)
        rw [hAl] at HW
        obtain ⟨WA, hWA⟩ : ∃ W, W = strB (Lib.decDigits (dv a)) := ⟨_, rfl⟩
        rw [← hWA] at HW
        by_cases k2 : Lib.decDigits (dv a) = a
        · have hEq : WA = A := by rw [hWA, k2, hA]
          rw [hEq] at HW
          have hnum : numeral a := numeral_iff.2 ⟨k1, k2⟩
          have hwn : (A.toList != A.toList) = false := by simp
          by_cases k3 : smallT i
          · have HS1 := hide (HSM1.out true (by simpa using k3))
            by_cases k4 : smallT t
            · have HS2 := hide (HSM2.out true (by simpa using k4))
              by_cases k5 : s.data.toList = [45, 48, 39, 48, 34, 48]
              · have z := tz1 k5
                rw [hbad (fun h => (hk.1 h).2.2.2 k5)]
                clear k1 k2 k3 k4 k5 hk hqq hsz hsz2 hnum hWA hEq HDA HSM1 HSM2 HFR h34 h39
                clear hbad hgood hpe hok hq hok2 hq2 h90 hneg hL hLl hO hOl hOs hSG hT tz1 tz2 hal hbl ha hb hb39 hbl2 hsum hA hR hAl hAs hRl hRs hil htl hi ht ht34 htl2 hsum2 hI hT2 hIl hIs hTl hTs
                go_enter Tryz.func17, Tryz.ntmps17
                go_wp2_with fail
                refine (HSI.out).mono ?_
                rintro e w1 ⟨rfl, hb1⟩
                have HB1 := hide hb1
                clear hb1
                go_wp2_with fail
                refine (HC39.out _ (HT.out.on HB1.out hB)).mono ?_
                rintro e w2 ⟨rfl, hb2⟩
                have HB2 := hide (HB1.out.trans (hb2.mono HB1.out.size))
                clear hb2
                go_wp2_with fail
                refine (HC34.out _ (HT.out.on HB2.out hB)).mono ?_
                rintro e w3 ⟨rfl, hb3⟩
                have HB3 := hide (HB2.out.trans (hb3.mono HB2.out.size))
                clear hb3
                go_wp2_with fail
                refine (HD.out _).mono ?_
                rintro e w4 ⟨rfl, hb4⟩
                have HB4 := hide (HB3.out.trans (hb4.mono HB3.out.size))
                clear hb4
                go_wp2_with fail
                refine (HW.out _).mono ?_
                rintro e w5 ⟨rfl, hb5⟩
                have HB5 := hide (HB4.out.trans (hb5.mono HB4.out.size))
                clear hb5
                go_wp2_with fail
                refine (HS1.out _).mono ?_
                rintro e w6 ⟨rfl, hb6⟩
                have HB6 := hide (HB5.out.trans (hb6.mono HB5.out.size))
                clear hb6
                go_wp2_with fail
                refine (HS2.out _).mono ?_
                rintro e w7 ⟨rfl, hb7⟩
                have HB7 := hide (HB6.out.trans (hb7.mono HB6.out.size))
                clear hb7
                go_wp2_with fail
                refine bodyPost_ret (results_tmp2 rfl _ _ _) rfl ?_
                exact ⟨rfl, HB7.out⟩
              · have z := tz2 k5
                rw [hgood (hk.2 ⟨hnum, k3, k4, k5⟩), hqq]
                obtain ⟨i1, i2⟩ := smallT_dec k3
                obtain ⟨t1, t2⟩ := smallT_dec k4
                obtain ⟨U, hU⟩ : ∃ U, U = dv a := ⟨_, rfl⟩
                obtain ⟨V, hV⟩ : ∃ U, U = dv i := ⟨_, rfl⟩
                obtain ⟨Z, hZ⟩ : ∃ U, U = dv t := ⟨_, rfl⟩
                have hUb : U < 10 ^ 87 := by
                  rw [hU]
                  refine Nat.lt_of_lt_of_le (dv_lt _ k1.2) (Nat.pow_le_pow_right (by omega) ?_)
                  have l1 : 1 ≤ i.length := by rw [i1]; exact dec_len_pos _
                  omega
                rw [← hV] at i1 i2
                rw [← hZ] at t1 t2
                rw [← hU] at k2
                rw [← hU, ← hV, ← hZ]
                have p1 : (10 : Nat) ^ 91 = 10000 * 10 ^ 87 := by rw [show 91 = 87 + 4 from rfl, Nat.pow_add, Nat.mul_comm]
                have p2 : (10 : Nat) ^ 92 = 100000 * 10 ^ 87 := by rw [show 92 = 87 + 5 from rfl, Nat.pow_add, Nat.mul_comm]
                have p3 : 100 < 10 ^ 87 := by decide
                have gA : A.data.toList = Lib.itoa (U : Int) := by rw [hAl, Lib.itoa_nonneg, k2]
                have gI : I.data.toList = Lib.itoa (V : Int) := by rw [hIl, Lib.itoa_nonneg, ← i1]
                have gT : T.data.toList = Lib.itoa (Z : Int) := by rw [hTl, Lib.itoa_nonneg, ← t1]
                have c1 : (U : Int) * 12 = ((U * 12 : Nat) : Int) := by omega
                have c2 : ((U * 12 : Nat) : Int) + (V : Int) = ((U * 12 + V : Nat) : Int) := by omega
                have c3 : ((U * 12 + V : Nat) : Int) * 12 = (((U * 12 + V) * 12 : Nat) : Int) := by omega
                have c4 : (((U * 12 + V) * 12 : Nat) : Int) + (Z : Int) = (((U * 12 + V) * 12 + Z : Nat) : Int) := by omega
                have c5 : (((U * 12 + V) * 12 + Z : Nat) : Int) * 127 = ((((U * 12 + V) * 12 + Z) * 127 : Nat) : Int) := by omega
                have fN : ∀ v : Nat, v < 10 ^ 92 → fits (v : Int) := fun v h => fits_le_pow (k := 92) (by omega) (by rw [Int.natAbs_natCast]; exact h)
                have HM1 := hide (fun w hB hT => mmul_to (s := A) (t := ⟨#[49, 50]⟩) gA lit12 (fN _ (by omega)) (fits_lit (by decide)) (by rw [c1]; exact fN _ (by omega)) B w hB hT)
                rw [c1] at HM1
                have HA1 := hide (fun w hB hT => Add_good (s := strB (Lib.itoa ((U * 12 : Nat) : Int))) (t := I) (strB_list _) gI (fN _ (by omega)) (fN _ (by omega)) (by rw [c2]; exact fN _ (by omega)) B w hB hT)
                rw [c2] at HA1
                have HM2 := hide (fun w hB hT => mmul_to (s := strB (Lib.itoa ((U * 12 + V : Nat) : Int))) (t := ⟨#[49, 50]⟩) (strB_list _) lit12 (fN _ (by omega)) (fits_lit (by decide)) (by rw [c3]; exact fN _ (by omega)) B w hB hT)
                rw [c3] at HM2
                have HA2 := hide (fun w hB hT => Add_good (s := strB (Lib.itoa (((U * 12 + V) * 12 : Nat) : Int))) (t := T) (strB_list _) gT (fN _ (by omega)) (fN _ (by omega)) (by rw [c4]; exact fN _ (by omega)) B w hB hT)
                rw [c4] at HA2
                have HM3 := hide (fun w hB hT => mmul_to (s := strB (Lib.itoa (((U * 12 + V) * 12 + Z : Nat) : Int))) (t := ⟨#[49, 50, 55]⟩) (strB_list _) lit127 (fN _ (by omega)) (fits_lit (by decide)) (by rw [c5]; exact fN _ (by omega)) B w hB hT)
                rw [c5] at HM3
                have hwl : (((U * 12 + V) * 12 + Z) * 127) < 10 ^ 92 := by omega
                obtain ⟨K, hK⟩ : ∃ K, K = ((U * 12 + V) * 12 + Z) * 127 := ⟨_, rfl⟩
                rw [← hK] at HM3 hwl ⊢
                have HF := hide (fun w hB hT => HFR.out (strB (Lib.itoa (K : Int))) ⟨#[54, 48]⟩ 60 (by rw [strB_list, Lib.itoa_nonneg]; exact decDigits_dg _) (by rw [strB_size, Lib.itoa_nonneg]; exact (dec_len_le (by omega)).2 hwl) (by rw [lit60, show (60 : Int) = ((60 : Nat) : Int) from rfl, Lib.itoa_nonneg]) (by decide) (by decide) w hB hT)
                rw [strB_list, Lib.itoa_nonneg, dv_decDigits] at HF
                have hKt : strB (Lib.decDigits K) = strB (Lib.itoa (K : Int)) := by rw [Lib.itoa_nonneg]
                rw [hKt] at HF
                obtain ⟨X, hX⟩ : ∃ X, X = strB (ratS (sgn neg ((K : Nat) / ((60 : Nat) : Rat)))) := ⟨_, rfl⟩
                rw [show pairV (ratS (sgn neg ((K : Nat) / ((60 : Nat) : Rat)))) 0 = .tuple #[.string X, .int .i64 0] by rw [hX]]
                rw [← hX] at HF
                obtain ⟨E1, hE1⟩ : ∃ X, X = strB (Lib.itoa ((U * 12 : Nat) : Int)) := ⟨_, rfl⟩
                obtain ⟨E2, hE2⟩ : ∃ X, X = strB (Lib.itoa ((U * 12 + V : Nat) : Int)) := ⟨_, rfl⟩
                obtain ⟨E3, hE3⟩ : ∃ X, X = strB (Lib.itoa (((U * 12 + V) * 12 : Nat) : Int)) := ⟨_, rfl⟩
                obtain ⟨E4, hE4⟩ : ∃ X, X = strB (Lib.itoa (((U * 12 + V) * 12 + Z : Nat) : Int)) := ⟨_, rfl⟩
                obtain ⟨E5, hE5⟩ : ∃ X, X = strB (Lib.itoa (K : Int)) := ⟨_, rfl⟩
                have HA1 : Hid (∀ w, B ≤ w.heap.size → P10 B w → Calls Tryz.prog 59 #[.string E1, .string I] w (Ret w (.tuple #[.string E2, .int .i64 0]))) := hide (by rw [hE1, hE2]; exact HA1.out)
                have HA2 : Hid (∀ w, B ≤ w.heap.size → P10 B w → Calls Tryz.prog 59 #[.string E3, .string T] w (Ret w (.tuple #[.string E4, .int .i64 0]))) := hide (by rw [hE3, hE4]; exact HA2.out)
                rw [← hE1] at HM1
                rw [← hE2, ← hE3] at HM2
                rw [← hE4, ← hE5] at HM3
                rw [← hE5] at HF
                clear k1 k2 k3 k4 k5 hk hqq hsz hsz2 hnum hWA hEq HDA HSM1 HSM2 HFR h34 h39 i1 i2 t1 t2 hU hV hZ hUb p1 p2 p3 gA gI gT c1 c2 c3 c4 c5 fN hwl hK hKt hX hE1 hE2 hE3 hE4 hE5
                clear hbad hgood hpe hok hq hok2 hq2 h90 hneg hL hLl hO hOl hOs hSG hT tz1 tz2 hal hbl ha hb hb39 hbl2 hsum hA hR hAl hAs hRl hRs hil htl hi ht ht34 htl2 hsum2 hI hT2 hIl hIs hTl hTs
                go_enter Tryz.func17, Tryz.ntmps17
                go_wp2_with fail
                refine (HSI.out).mono ?_
                rintro e w1 ⟨rfl, hb1⟩
                have HB1 := hide hb1
                clear hb1
                go_wp2_with fail
                refine (HC39.out _ (HT.out.on HB1.out hB)).mono ?_
                rintro e w2 ⟨rfl, hb2⟩
                have HB2 := hide (HB1.out.trans (hb2.mono HB1.out.size))
                clear hb2
                go_wp2_with fail
                refine (HC34.out _ (HT.out.on HB2.out hB)).mono ?_
                rintro e w3 ⟨rfl, hb3⟩
                have HB3 := hide (HB2.out.trans (hb3.mono HB2.out.size))
                clear hb3
                go_wp2_with fail
                refine (HD.out _).mono ?_
                rintro e w4 ⟨rfl, hb4⟩
                have HB4 := hide (HB3.out.trans (hb4.mono HB3.out.size))
                clear hb4
                go_wp2_with fail
                refine (HW.out _).mono ?_
                rintro e w5 ⟨rfl, hb5⟩
                have HB5 := hide (HB4.out.trans (hb5.mono HB4.out.size))
                clear hb5
                go_wp2_with fail
                refine (HS1.out _).mono ?_
                rintro e w6 ⟨rfl, hb6⟩
                have HB6 := hide (HB5.out.trans (hb6.mono HB5.out.size))
                clear hb6
                go_wp2_with fail
                refine (HS2.out _).mono ?_
                rintro e w7 ⟨rfl, hb7⟩
                have HB7 := hide (HB6.out.trans (hb7.mono HB6.out.size))
                clear hb7
                go_wp2_with fail
                refine (HM1.out _ (Nat.le_trans hB HB7.out.size) (HT.out.p10.on HB7.out hB)).mono ?_
                rintro e w8 ⟨rfl, hb8⟩
                have HB8 := hide (HB7.out.trans (hb8.mono HB7.out.size))
                clear hb8
                go_wp2_with fail
                refine (HA1.out _ (Nat.le_trans hB HB8.out.size) (HT.out.p10.on HB8.out hB)).mono ?_
                rintro e w9 ⟨rfl, hb9⟩
                have HB9 := hide (HB8.out.trans (hb9.mono HB8.out.size))
                clear hb9
                go_wp2_with fail
                refine (HM2.out _ (Nat.le_trans hB HB9.out.size) (HT.out.p10.on HB9.out hB)).mono ?_
                rintro e w10 ⟨rfl, hb10⟩
                have HB10 := hide (HB9.out.trans (hb10.mono HB9.out.size))
                clear hb10
                go_wp2_with fail
                refine (HA2.out _ (Nat.le_trans hB HB10.out.size) (HT.out.p10.on HB10.out hB)).mono ?_
                rintro e w11 ⟨rfl, hb11⟩
                have HB11 := hide (HB10.out.trans (hb11.mono HB10.out.size))
                clear hb11
                go_wp2_with fail
                refine (HM3.out _ (Nat.le_trans hB HB11.out.size) (HT.out.p10.on HB11.out hB)).mono ?_
                rintro e w12 ⟨rfl, hb12⟩
                have HB12 := hide (HB11.out.trans (hb12.mono HB11.out.size))
                clear hb12
                go_wp2_with fail
                refine (HF.out _ (Nat.le_trans hB HB12.out.size) (HT.out.on HB12.out hB)).mono ?_
                rintro e w13 ⟨rfl, hb13⟩
                have HB13 := hide (HB12.out.trans (hb13.mono HB12.out.size))
                clear hb13
                go_wp2_with fail
                refine bodyPost_ret (results_tmp2 rfl _ _ _) rfl ?_
                exact ⟨rfl, HB13.out⟩
            · have HS2 := hide (HSM2.out false (by simpa using k4))
              rw [hbad (fun h => k4 (hk.1 h).2.2.1)]
              clear k1 k2 k3 k4 hk hqq hsz hsz2 hnum hWA hEq HDA HSM1 HSM2 HFR h34 h39
              clear hbad hgood hpe hok hq hok2 hq2 h90 hneg hL hLl hO hOl hOs hSG hT tz1 tz2 hal hbl ha hb hb39 hbl2 hsum hA hR hAl hAs hRl hRs hil htl hi ht ht34 htl2 hsum2 hI hT2 hIl hIs hTl hTs
              go_enter Tryz.func17, Tryz.ntmps17
              go_wp2_with fail
              refine (HSI.out).mono ?_
              rintro e w1 ⟨rfl, hb1⟩
              have HB1 := hide hb1
              clear hb1
              go_wp2_with fail
              refine (HC39.out _ (HT.out.on HB1.out hB)).mono ?_
              rintro e w2 ⟨rfl, hb2⟩
              have HB2 := hide (HB1.out.trans (hb2.mono HB1.out.size))
              clear hb2
              go_wp2_with fail
              refine (HC34.out _ (HT.out.on HB2.out hB)).mono ?_
              rintro e w3 ⟨rfl, hb3⟩
              have HB3 := hide (HB2.out.trans (hb3.mono HB2.out.size))
              clear hb3
              go_wp2_with fail
              refine (HD.out _).mono ?_
              rintro e w4 ⟨rfl, hb4⟩
              have HB4 := hide (HB3.out.trans (hb4.mono HB3.out.size))
              clear hb4
              go_wp2_with fail
              refine (HW.out _).mono ?_
              rintro e w5 ⟨rfl, hb5⟩
              have HB5 := hide (HB4.out.trans (hb5.mono HB4.out.size))
              clear hb5
              go_wp2_with fail
              refine (HS1.out _).mono ?_
              rintro e w6 ⟨rfl, hb6⟩
              have HB6 := hide (HB5.out.trans (hb6.mono HB5.out.size))
              clear hb6
              go_wp2_with fail
              refine (HS2.out _).mono ?_
              rintro e w7 ⟨rfl, hb7⟩
              have HB7 := hide (HB6.out.trans (hb7.mono HB6.out.size))
              clear hb7
              go_wp2_with fail
              refine bodyPost_ret (results_tmp2 rfl _ _ _) rfl ?_
              exact ⟨rfl, HB7.out⟩
          · have HS1 := hide (HSM1.out false (by simpa using k3))
            rw [hbad (fun h => k3 (hk.1 h).2.1)]
            clear k1 k2 k3 hk hqq hsz hsz2 hnum hWA hEq HDA HSM1 HSM2 HFR h34 h39
            clear hbad hgood hpe hok hq hok2 hq2 h90 hneg hL hLl hO hOl hOs hSG hT tz1 tz2 hal hbl ha hb hb39 hbl2 hsum hA hR hAl hAs hRl hRs hil htl hi ht ht34 htl2 hsum2 hI hT2 hIl hIs hTl hTs
            go_enter Tryz.func17, Tryz.ntmps17
            go_wp2_with fail
            refine (HSI.out).mono ?_
            rintro e w1 ⟨rfl, hb1⟩
            have HB1 := hide hb1
            clear hb1
            go_wp2_with fail
            refine (HC39.out _ (HT.out.on HB1.out hB)).mono ?_
            rintro e w2 ⟨rfl, hb2⟩
            have HB2 := hide (HB1.out.trans (hb2.mono HB1.out.size))
            clear hb2
            go_wp2_with fail
            refine (HC34.out _ (HT.out.on HB2.out hB)).mono ?_
            rintro e w3 ⟨rfl, hb3⟩
            have HB3 := hide (HB2.out.trans (hb3.mono HB2.out.size))
            clear hb3
            go_wp2_with fail
            refine (HD.out _).mono ?_
            rintro e w4 ⟨rfl, hb4⟩
            have HB4 := hide (HB3.out.trans (hb4.mono HB3.out.size))
            clear hb4
            go_wp2_with fail
            refine (HW.out _).mono ?_
            rintro e w5 ⟨rfl, hb5⟩
            have HB5 := hide (HB4.out.trans (hb5.mono HB4.out.size))
            clear hb5
            go_wp2_with fail
            refine (HS1.out _).mono ?_
            rintro e w6 ⟨rfl, hb6⟩
            have HB6 := hide (HB5.out.trans (hb6.mono HB5.out.size))
            clear hb6
            go_wp2_with fail
            refine bodyPost_ret (results_tmp2 rfl _ _ _) rfl ?_
            exact ⟨rfl, HB6.out⟩
        · have hwn : (WA.toList != A.toList) = true := by
            rw [ByteArray.toList_eq, ByteArray.toList_eq, hWA, strB_list, hAl]
            simpa using k2
          have hwe : (WA.toList == A.toList) = false := by
            rw [ByteArray.toList_eq, ByteArray.toList_eq, hWA, strB_list, hAl]
            simpa using k2
          rw [hbad (fun h => k2 (numeral_iff.1 (hk.1 h).1).2)]
          clear k1 k2 hk hqq hsz hsz2 hWA HDA HSM1 HSM2 HFR h34 h39
          clear hbad hgood hpe hok hq hok2 hq2 h90 hneg hL hLl hO hOl hOs hSG hT tz1 tz2 hal hbl ha hb hb39 hbl2 hsum hA hR hAl hAs hRl hRs hil htl hi ht ht34 htl2 hsum2 hI hT2 hIl hIs hTl hTs
          go_enter Tryz.func17, Tryz.ntmps17
          go_wp2_with fail
          refine (HSI.out).mono ?_
          rintro e w1 ⟨rfl, hb1⟩
          have HB1 := hide hb1
          clear hb1
          go_wp2_with fail
          refine (HC39.out _ (HT.out.on HB1.out hB)).mono ?_
          rintro e w2 ⟨rfl, hb2⟩
          have HB2 := hide (HB1.out.trans (hb2.mono HB1.out.size))
          clear hb2
          go_wp2_with fail
          refine (HC34.out _ (HT.out.on HB2.out hB)).mono ?_
          rintro e w3 ⟨rfl, hb3⟩
          have HB3 := hide (HB2.out.trans (hb3.mono HB2.out.size))
          clear hb3
          go_wp2_with fail
          refine (HD.out _).mono ?_
          rintro e w4 ⟨rfl, hb4⟩
          have HB4 := hide (HB3.out.trans (hb4.mono HB3.out.size))
          clear hb4
          go_wp2_with fail
          refine (HW.out _).mono ?_
          rintro e w5 ⟨rfl, hb5⟩
          have HB5 := hide (HB4.out.trans (hb5.mono HB4.out.size))
          clear hb5
          go_wp2_with fail
          refine bodyPost_ret (results_tmp2 rfl _ _ _) rfl ?_
          exact ⟨rfl, HB5.out⟩
      · have HD := hide (HDA.out false (by simpa using k1))
        rw [hbad (fun h => k1 (numeral_iff.1 (hk.1 h).1).1)]
        clear k1 hk hqq hsz hsz2 HDA HSM1 HSM2 HFR h34 h39
        clear hbad hgood hpe hok hq hok2 hq2 h90 hneg hL hLl hO hOl hOs hSG hT tz1 tz2 hal hbl ha hb hb39 hbl2 hsum hA hR hAl hAs hRl hRs hil htl hi ht ht34 htl2 hsum2 hI hT2 hIl hIs hTl hTs
        go_enter Tryz.func17, Tryz.ntmps17
        go_wp2_with fail
        refine (HSI.out).mono ?_
        rintro e w1 ⟨rfl, hb1⟩
        have HB1 := hide hb1
        clear hb1
        go_wp2_with fail
        refine (HC39.out _ (HT.out.on HB1.out hB)).mono ?_
        rintro e w2 ⟨rfl, hb2⟩
        have HB2 := hide (HB1.out.trans (hb2.mono HB1.out.size))
        clear hb2
        go_wp2_with fail
        refine (HC34.out _ (HT.out.on HB2.out hB)).mono ?_
        rintro e w3 ⟨rfl, hb3⟩
        have HB3 := hide (HB2.out.trans (hb3.mono HB2.out.size))
        clear hb3
        go_wp2_with fail
        refine (HD.out _).mono ?_
        rintro e w4 ⟨rfl, hb4⟩
        have HB4 := hide (HB3.out.trans (hb4.mono HB3.out.size))
        clear hb4
        go_wp2_with fail
        refine bodyPost_ret (results_tmp2 rfl _ _ _) rfl ?_
        exact ⟨rfl, HB4.out⟩
    · rw [show decide (39 ∈ L) = true by simpa using h39] at HC39
      rw [show decide (34 ∈ b) = false by simpa using h34] at HC34
      rw [hbad (fun h => h34 (by have := (hok.1 h).2.1; rwa [hb39 h39] at this))]
      clear HDA HSM1 HSM2 HFR h34 h39
      clear hbad hgood hpe hok hq hok2 hq2 h90 hneg hL hLl hO hOl hOs hSG hT tz1 tz2 hal hbl ha hb hb39 hbl2 hsum hA hR hAl hAs hRl hRs hil htl hi ht ht34 htl2 hsum2 hI hT2 hIl hIs hTl hTs
      go_enter Tryz.func17, Tryz.ntmps17
      go_wp2_with fail
      refine (HSI.out).mono ?_
      rintro e w1 ⟨rfl, hb1⟩
      have HB1 := hide hb1
      clear hb1
      go_wp2_with fail
      refine (HC39.out _ (HT.out.on HB1.out hB)).mono ?_
      rintro e w2 ⟨rfl, hb2⟩
      have HB2 := hide (HB1.out.trans (hb2.mono HB1.out.size))
      clear hb2
      go_wp2_with fail
      refine (HC34.out _ (HT.out.on HB2.out hB)).mono ?_
      rintro e w3 ⟨rfl, hb3⟩
      have HB3 := hide (HB2.out.trans (hb3.mono HB2.out.size))
      clear hb3
      go_wp2_with fail
      refine bodyPost_ret (results_tmp2 rfl _ _ _) rfl ?_
      exact ⟨rfl, HB3.out⟩
  · rw [show decide (39 ∈ L) = false by simpa using h39] at HC39
    obtain ⟨is, his⟩ : ∃ is, is = decide (34 ∈ b) := ⟨_, rfl⟩
    rw [← his] at HC34
    rw [hbad (fun h => h39 (hok.1 h).1)]
    clear HDA HSM1 HSM2 HFR h39 his
    clear hbad hgood hpe hok hq hok2 hq2 h90 hneg hL hLl hO hOl hOs hSG hT tz1 tz2 hal hbl ha hb hb39 hbl2 hsum hA hR hAl hAs hRl hRs hil htl hi ht ht34 htl2 hsum2 hI hT2 hIl hIs hTl hTs
    go_enter Tryz.func17, Tryz.ntmps17
    go_wp2_with fail
    refine (HSI.out).mono ?_
    rintro e w1 ⟨rfl, hb1⟩
    have HB1 := hide hb1
    clear hb1
    go_wp2_with fail
    refine (HC39.out _ (HT.out.on HB1.out hB)).mono ?_
    rintro e w2 ⟨rfl, hb2⟩
    have HB2 := hide (HB1.out.trans (hb2.mono HB1.out.size))
    clear hb2
    go_wp2_with fail
    refine (HC34.out _ (HT.out.on HB2.out hB)).mono ?_
    rintro e w3 ⟨rfl, hb3⟩
    have HB3 := hide (HB2.out.trans (hb3.mono HB2.out.size))
    clear hb3
    go_wp2_with fail
    refine bodyPost_ret (results_tmp2 rfl _ _ _) rfl ?_
    exact ⟨rfl, HB3.out⟩
end Go.Proofs.YtfcjaljaomknjaaGreatDoor
