/-
  stock: the free parts' iterator and what is made of it: the walks.
-/
import Derived.Test.YtfljmbdnnjjmoaaDoorS1
import Derived.Test.YtfljmbdnnjjmoaaDoorLoop
import Derived.Deep.RegionHeld3
import Derived.Deep.AppendLies
namespace Go.Proofs.YtfljmbdnnjjmoaaDoor
open Go.RowKit Go.KP

theorem info31 : (Tryd.prog.info? 31).map (fun i => (i.zero, i.size, i.bytes)) = some (some (.agg #[.int .i64 0, .int .i64 0]), 2, 16) := by kernel_rfl

set_option maxRecDepth 20000 in
set_option maxHeartbeats 400000 in
theorem cloneGap_some (b o n cap : Nat) (xs : List Value) (w : World) (hl : xs.length = n * 2) (hb : b < w.heap.size) (hc : ∀ i u, xs[i]? = some u → w.cell? ⟨b, o + i, none⟩ = some u) (h1 : ∀ u ∈ xs, u.oneCell' = true) (hn : n ≤ 65536) :
    Calls Tryd.prog 68 #[.slice (some ⟨b, o, none⟩) n cap] w fun e w' => ∃ v, e = .returned v ∧ w'.ownsRow w.heap.size 31 2 v n xs ∧ Below w.heap.size w w' := by
  obtain ⟨i0, hi, hz0, hz1, hz2⟩ := info_parts info31
  have heq : ∀ W, (binOp .eql 22 (.slice (some ⟨b, o, none⟩) n cap) (.slice none 0 0)).run Tryd.prog W = .ok (.bool false) W := fun W => Lib.run_eql_slice_nil W 22 _ _ _ _ 0 0 Tryd.underlying22
  have HC := hide hc; have H1 := hide h1; have HL := hide hl
  clear hc h1 hl
  go_enter Tryd.func68, Tryd.ntmps68
  have hmade : (w.alloc (.cells #[] 31)).ownsRow w.heap.size 31 2 (.slice (some ⟨w.heap.size, 0, none⟩) 0 0) 0 [] := World.ownsRow_made w #[] 0 (Nat.le_refl _) (by simp [maxLen]) (by simp)
  have HM := hide hmade
  clear hmade
  go_wp2_with (at_builtin; go_loud (refine wpList_append_own _ rfl (.tmp 5) (.tmp 6) 22 rfl w.heap.size 31 i0 (.agg #[.int .i64 0, .int .i64 0]) 2 16 Tryd.underlying22 hi hz0 hz1 hz2 rfl (by decide) _ _ _ rfl HM.out ⟨b, o, none⟩ n cap xs rfl HL.out (fun j u hu => by rw [Addr.add_lit]; exact (World.cell?_alloc_past _ _ _ hb).trans (HC.out j u hu)) H1.out (by simp only [maxLen]; omega) (by omega) (by simp) ?_); intro v1 w1 hown hg1 _)
  go_ret
  refine ⟨v1, rfl, by simpa using hown, ((Below.refl _ _).alloc (Nat.le_refl _) _).grown hg1 (by simp) (fun k hk => by cases hk; exact Nat.le_refl _)⟩

set_option maxRecDepth 20000 in
set_option maxHeartbeats 400000 in
theorem cloneGap_zero (a0 : Addr) (cap : Nat) (w : World) :
    Calls Tryd.prog 68 #[.slice (some a0) 0 cap] w fun e w' => ∃ v, e = .returned v ∧ w'.ownsRow w.heap.size 31 2 v 0 [] ∧ Below w.heap.size w w' := by
  obtain ⟨i0, hi, hz0, hz1, hz2⟩ := info_parts info31
  have heq : ∀ W, (binOp .eql 22 (.slice (some a0) 0 cap) (.slice none 0 0)).run Tryd.prog W = .ok (.bool false) W := fun W => Lib.run_eql_slice_nil W 22 _ _ _ _ 0 0 Tryd.underlying22
  go_enter Tryd.func68, Tryd.ntmps68
  have hmade : (w.alloc (.cells #[] 31)).ownsRow w.heap.size 31 2 (.slice (some ⟨w.heap.size, 0, none⟩) 0 0) 0 [] := World.ownsRow_made w #[] 0 (Nat.le_refl _) (by simp [maxLen]) (by simp)
  have HM := hide hmade
  clear hmade
  go_wp2_with (at_builtin; go_loud (refine wpList_append_own _ rfl (.tmp 5) (.tmp 6) 22 rfl w.heap.size 31 i0 (.agg #[.int .i64 0, .int .i64 0]) 2 16 Tryd.underlying22 hi hz0 hz1 hz2 rfl (by decide) _ _ _ rfl HM.out a0 0 cap [] rfl rfl (fun j u hu => by simp at hu) (fun u hu => by cases hu) (by simp only [maxLen]; omega) (by omega) (by simp) ?_); intro v1 w1 hown hg1 _)
  go_ret
  refine ⟨v1, rfl, by simpa using hown, ((Below.refl _ _).alloc (Nat.le_refl _) _).grown hg1 (by simp) (fun k hk => by cases hk; exact Nat.le_refl _)⟩

set_option maxHeartbeats 400000 in
theorem cloneGap_nil (c0 : Nat) (w : World) : Calls Tryd.prog 68 #[.slice none 0 c0] w fun e w' => ∃ v, e = .returned v ∧ w'.ownsRow w.heap.size 31 2 v 0 [] ∧ Below w.heap.size w w' := by
  have heq : ∀ W, (binOp .eql 22 (.slice none 0 c0) (.slice none 0 0)).run Tryd.prog W = .ok (.bool true) W := fun W => Lib.run_eql_slice_nil W 22 _ _ _ _ 0 0 Tryd.underlying22
  go_enter Tryd.func68, Tryd.ntmps68
  go_wp2_with fail
  go_ret
  exact ⟨.slice none 0 0, rfl, World.ownsRow_nil _ _ _ _, Below.refl _ _⟩

theorem cloneGap_any (B : Nat) (v : Value) (n : Nat) (xs : List Value) (w : World) (h : SlAt B w 2 v n xs) (hB : B ≤ w.heap.size) (h1 : ∀ u ∈ xs, u.oneCell' = true) (hn : n ≤ 65536) :
    Calls Tryd.prog 68 #[v] w fun e w' => ∃ v, e = .returned v ∧ w'.ownsRow w.heap.size 31 2 v n xs ∧ Below w.heap.size w w' := by
  rcases h.cases with ⟨a0, c0, rfl, rfl, rfl⟩ | ⟨b, o, cap, rfl, hb, hc⟩
  · cases a0 with
    | none => exact cloneGap_nil c0 w
    | some a0 => exact cloneGap_zero a0 c0 w
  · exact cloneGap_some b o n cap xs w h.1 (by omega) hc h1 hn

set_option maxHeartbeats 400000 in
/-- 'free(b)': the bar is boxed; the function value captures the box. -/
theorem free_any (cs : Array Value) (w : World) :
    Calls Tryd.prog 47 #[.agg cs] w fun e w' => e = .returned (.func (.func 67) #[] #[.pointer (some ⟨w.heap.size, 0, none⟩)]) ∧ w.alloc (.cells cs 24) = w' := by
  go_enter Tryd.func47, Tryd.ntmps47
  go_wp2_with fail
  go_ret
  exact ⟨rfl, rfl⟩

def freeTmps (l b : Nat) (gv v8 v14 : Value) (ln : Int) (gg n cap : Nat) : Array Value :=
  #[.func (.yield l) #[] #[], .pointer (some ⟨b, 0, none⟩), undef, .int .i64 0, undef, undef, .pointer (some ⟨b, 5, none⟩), gv, v8, .pointer (some ⟨b, 2, none⟩), .int .i64 ln, .pointer (some ⟨b, 2, none⟩), .int .i64 ln,
    .agg #[.int .i64 ln, .int .i64 ln], v14, .slice (some ⟨gg, 0, none⟩) (n + 1) cap, .int .i64 ((n : Int) + 1), .int .i64 0, undef, undef, undef, undef, undef, undef, undef, undef, undef, undef, undef, undef, undef, undef, undef, undef, undef, undef, undef]

/-- What the region of the loop's head leaves. -/
def FreePost (l b : Nat) (gv : Value) (ln : Int) (gs : List (Int × Int)) (W : World) (e : Exit) (a : Act) (w2 : World) : Prop :=
  e = .normal ∧ ∃ v8 v14 gg cap, a = { tmps := freeTmps l b gv v8 v14 ln gg gs.length cap, defers := [] } ∧ Below W.heap.size W w2 ∧ w2.ownsRow W.heap.size 31 2 (.slice (some ⟨gg, 0, none⟩) (gs.length + 1) cap) (gs.length + 1) (pcells gs ++ [.int .i64 ln, .int .i64 ln])

set_option maxRecDepth 100000 in
set_option maxHeartbeats 1000000 in
theorem freeSeq_some (B : Nat) (b : Nat) (wd dp ln ct cs : Int) (gv : Value) (gs : List (Int × Int)) (w : World) (hg : SlAt B w 2 gv gs.length (pcells gs)) (hl : gs.length ≤ 16)
    (hb : w.heap[b]? = some (.cells #[.int .i64 wd, .int .i64 dp, .int .i64 ln, .int .i64 ct, .int .i64 cs, gv] 24)) :
    IterAt Tryd.prog 67 #[.pointer (some ⟨b, 0, none⟩)] (fun k => #[.agg #[.int .i64 (gF (parts ln gs) k), .int .i64 (gT (parts ln gs) k)]]) (parts ln gs).length (fun i => i = b ∨ i < B) w := by
  intro l J Jx W hprot hJ hJx hJS hY h0
  refine callsIn_of_wp Tryd.func67 rfl trivial ?_ rfl
  simp only [Tryd.ntmps67, List.size_toArray, List.length_cons, List.length_nil, Nat.reduceAdd, Nat.reduceSub, Array.replicate_succ, Array.replicate_zero, List.push_toArray, List.append_toArray, List.nil_append, List.cons_append]
  gi_wp2
  have lb : b < W.heap.size := (hprot b (.inl rfl)).1
  have hbW : W.heap[b]? = some (.cells #[.int .i64 wd, .int .i64 dp, .int .i64 ln, .int .i64 ct, .int .i64 cs, gv] 24) := (hprot b (.inl rfl)).2.trans hb
  have c2 : W.cell? ⟨b, 2, none⟩ = some (.int .i64 ln) := by simp [World.cell?, hbW]
  have c5 : W.cell? ⟨b, 5, none⟩ = some gv := by simp [World.cell?, hbW]
  have hgW : SlAt W.heap.size W 2 gv gs.length (pcells gs) := hg.moved (fun i hi => hprot i (.inr hi))
  have HP := hide hprot; have HJ := hide hJ; have HJx := hide hJx; have HJS := hide hJS; have HY := hide hY; have H0 := hide h0; have HG := hide hgW
  clear hbW hb hg hprot hJ hJx hJS hY h0 hgW
  obtain ⟨i0, hi0, hz0, hz1, hz2⟩ := info_parts info31
  obtain ⟨X, hX⟩ : ∃ X : Obj, X = .cells #[.int .i64 ln, .int .i64 ln] 31 := ⟨_, rfl⟩
  have hbX : Below W.heap.size W (W.alloc X).drew := ((Below.refl _ _).alloc (Nat.le_refl _) _).drew
  have HD := hide (show SlAt W.heap.size W.drew 2 gv gs.length (pcells gs) from HG.out)
  have HD2 := hide (show SlAt W.heap.size (W.alloc X).drew 2 gv gs.length (pcells gs) from HG.out.below hbX (Nat.le_refl _))
  have HX := hide (show ∀ j u, ([.int .i64 ln, .int .i64 ln] : List Value)[j]? = some u → (W.alloc X).cell? ((⟨W.heap.size, 0, none⟩ : Addr).add j) = some u by rw [hX]; exact World.news_of_block (cs := #[.int .i64 ln, .int .i64 ln]) (t := 31) (fr := (0, 0)) (heap_alloc_new W _))
  have H1c := hide (show ∀ u ∈ pcells gs, u.oneCell' = true from fun u hu => pcells_one u gs hu)
  subst hX
  have HbX := hide hbX
  clear hbX
  have hl16 : gs.length ≤ 65536 := by omega
  have hsz1 : W.heap.size ≤ (W.alloc (.cells #[.int .i64 ln, .int .i64 ln] 31)).drew.heap.size := by simp
  refine wpIn_mono (Q := FreePost l b gv ln gs W) (wpIn_wide.2 ?reg) ?rest
  case reg =>
   go_region_held3 (fun w' => w'.cell? ⟨b, 2, none⟩ = some (.int .i64 ln) ∧ w'.cell? ⟨b, 5, none⟩ = some gv) (first | go_keep)
     (first
       | (go_at_call 68
          first
            | (refine (cloneGap_any _ _ _ _ _ HD.out (Nat.le_refl _) H1c.out hl16).mono ?_
               rintro e w1 ⟨v1, rfl, hown1, hb1⟩
               have HB1 := hide (below_ahead hb1)
               have HO1 := hide hown1
               clear hown1 hb1
               have hk1 : w1.cell? ⟨b, 2, none⟩ = some (.int .i64 ln) := (HB1.out.cell (p := ⟨b, 2, none⟩) lb).trans c2
               have hk2 : w1.cell? ⟨b, 5, none⟩ = some gv := (HB1.out.cell (p := ⟨b, 5, none⟩) lb).trans c5
               have hz1' : W.heap.size ≤ w1.heap.size := HB1.out.size
               have lb1 : b < w1.heap.size := Nat.lt_of_lt_of_le lb hz1'
               have tok1 : True := trivial)
            | (refine (cloneGap_any _ _ _ _ _ HD2.out hsz1 H1c.out hl16).mono ?_
               rintro e w1 ⟨v1, rfl, hown1, hb1⟩
               have HB1 := hide (HbX.out.trans (hb1.mono hsz1))
               have HO1 := hide (owns_mono hown1 hsz1)
               have HN1 := hide (show ∀ j u, ([.int .i64 ln, .int .i64 ln] : List Value)[j]? = some u → w1.cell? ((⟨W.heap.size, 0, none⟩ : Addr).add j) = some u from fun j u hu => (hb1.cell (p := (⟨W.heap.size, 0, none⟩ : Addr).add j) (by rw [Addr.add_lit]; simp)).trans (HX.out j u hu))
               have hk1 : w1.cell? ⟨b, 2, none⟩ = some (.int .i64 ln) := (hb1.cell (p := ⟨b, 2, none⟩) (by simp; omega)).trans ((World.cell?_alloc_past _ _ _ lb).trans c2)
               have hk2 : w1.cell? ⟨b, 5, none⟩ = some gv := (hb1.cell (p := ⟨b, 5, none⟩) (by simp; omega)).trans ((World.cell?_alloc_past _ _ _ lb).trans c5)
               have hz1' : W.heap.size + 1 ≤ w1.heap.size := by have := hb1.size; simpa using this
               clear hown1 hb1
               have lb1 : b < w1.heap.size := by omega
               have tok2 : True := trivial)
            | fail)
       | (have _t := tok1
          refine step_append_lies _ ?_ (.tmp 8) (.tmp 14) 22 ?_ W.heap.size 31 i0 _ 2 16 Tryd.underlying22 hi0 hz0 hz1 hz2 rfl ?_ v1 gs.length (pcells gs) ?_ (HO1.out.alloc _) ⟨w1.heap.size, 0, none⟩ 1 1 [.int .i64 ln, .int .i64 ln] ?_ ?_ (World.news_of_block (cs := #[.int .i64 ln, .int .i64 ln]) (t := 31) (fr := (0, 0)) (heap_alloc_new w1 _)) ?_ ?_ ?_ ?_ ?_ (w1.heap.size + 1) ?_ ?_
          · rfl
          · rfl
          · omega
          · rfl
          · rfl
          · rfl
          · simp [Value.oneCell']
          · omega
          · simp only [maxLen]; omega
          · omega
          · simp; omega
          · simp
          intro gg cap w2 hown2 hgrow2 hat2 hlt2
          have hne : some b ≠ v1.ownBlock := owns_ne HO1.out lb
          have hk3 : w2.cell? ⟨b, 2, none⟩ = some (.int .i64 ln) := hgrow2.cell ((World.cell?_alloc_past _ _ _ lb1).trans hk1) hne
          have hk4 : w2.cell? ⟨b, 5, none⟩ = some gv := hgrow2.cell ((World.cell?_alloc_past _ _ _ lb1).trans hk2) hne
          have hz2' : W.heap.size ≤ (w1.alloc (.cells #[.int .i64 ln, .int .i64 ln] 31)).heap.size := by simp; omega
          have hB2 := hide (show Below W.heap.size W w2 from (HB1.out.alloc hz1' _).grown hgrow2 hz2' (owns_ge HO1.out (Nat.le_refl _))))
       | (have _t := tok2
          refine step_append_lies _ ?_ (.tmp 8) (.tmp 14) 22 ?_ W.heap.size 31 i0 _ 2 16 Tryd.underlying22 hi0 hz0 hz1 hz2 rfl ?_ v1 gs.length (pcells gs) ?_ (HO1.out) ⟨W.heap.size, 0, none⟩ 1 1 [.int .i64 ln, .int .i64 ln] ?_ ?_ HN1.out ?_ ?_ ?_ ?_ ?_ w1.heap.size ?_ ?_
          · rfl
          · rfl
          · omega
          · rfl
          · rfl
          · rfl
          · simp [Value.oneCell']
          · omega
          · simp only [maxLen]; omega
          · omega
          · omega
          · rfl
          intro gg cap w2 hown2 hgrow2 hat2 hlt2
          have hne : some b ≠ v1.ownBlock := owns_ne (HO1.out) lb
          have hk3 : w2.cell? ⟨b, 2, none⟩ = some (.int .i64 ln) := hgrow2.cell hk1 hne
          have hk4 : w2.cell? ⟨b, 5, none⟩ = some gv := hgrow2.cell hk2 hne
          have hz2' : W.heap.size ≤ w1.heap.size := by omega
          have hB2 := hide (show Below W.heap.size W w2 from HB1.out.grown hgrow2 hz2' (owns_ge HO1.out (Nat.le_refl _))))
       | fail)
   all_goals (refine ⟨rfl, _, _, gg, cap, rfl, hB2.out, by simpa using hown2⟩)
  case rest =>
    rintro e a2 w2 ⟨rfl, v8, v14, gg, cap, rfl, hb2, hown2⟩
    unfold freeTmps
    obtain ⟨gs2, hgs2⟩ : ∃ gs2, gs2 = gs ++ [(ln, ln)] := ⟨_, rfl⟩
    have hlen2 : gs2.length = gs.length + 1 := by rw [hgs2]; simp
    have hpc : pcells gs2 = pcells gs ++ [.int .i64 ln, .int .i64 ln] := by rw [hgs2, pcells_append]; rfl
    rw [← hpc, ← hlen2] at hown2
    have hrow : w2.heap[gg]? = w2.heap[gg]? := rfl
    have hcel : ∀ k, k < gs2.length → w2.cell? ⟨gg, k * 2, none⟩ = some (.int .i64 (gF gs2 k)) ∧ w2.cell? ⟨gg, k * 2 + 1, none⟩ = some (.int .i64 (gT gs2 k)) := fun k hk => by
      obtain ⟨p1, p2⟩ := pcells_at gs2 k hk
      have q1 := hown2.cells (g := gg) rfl _ _ p1
      have q2 := hown2.cells (g := gg) rfl _ _ p2
      rw [Addr.add_lit] at q1 q2
      exact ⟨by simpa using q1, by simpa using q2⟩
    have hggB := (hown2.lt gg rfl)
    have hq2 : Quiet W.heap.size (fun _ => False) W w2 := ⟨hb2.os, hb2.tape, hb2.output, hb2.size, fun i hi _ => hb2.block i (by rcases hi with hi | hi; exact hi; exact hi.elim)⟩
    have hJ2 := HJ.out 0 _ _ _ H0.out hq2
    have hpr2 : ∀ i, (i = b ∨ i < B) → w2.heap[i]? = w.heap[i]? := fun i hi => (hb2.block i (HP.out i hi).1).trans (HP.out i hi).2
    have hparts : parts ln gs = emit 0 (gs2.drop 0) := by rw [hgs2]; rfl
    have e36 : ((gs.length : Int) + 1) = (gs2.length : Int) := by omega
    rw [e36, ← hlen2]
    have HLen := hide hlen2
    have hl17 : gs2.length ≤ 17 := by omega
    have HCel := hide hcel
    have HPr := hide hpr2
    have HJ2 := hide hJ2
    have HPa := hide hparts
    clear hlen2 hcel hpr2 hJ2 hparts hpc hgs2 hq2 hrow e36 HG HD HD2 HX H1c HbX hown2
    gi_wp2
    gi_loopw [3, 17] (fun p i wr => ∃ (k c : Nat) (fr : Int) (S : Nat → Prop), k ≤ gs2.length ∧ i = .int .i64 k ∧ p = .int .i64 fr ∧ Hid (c ≤ (parts ln gs).length ∧ J c S wr ∧ ¬ S gg ∧ wr.heap[gg]? = w2.heap[gg]? ∧ (∀ i, (i = b ∨ i < B) → wr.heap[i]? = w.heap[i]?) ∧ W.heap.size ≤ wr.heap.size ∧ (parts ln gs).drop c = emit fr (gs2.drop k)))
      (fun _ i _ => gs2.length - (intOf i).toNat)
    case atStart =>
      exact ⟨0, 0, 0, fun _ => False, Nat.zero_le _, rfl, rfl, Nat.zero_le _, HJ2.out, fun h => h, rfl, HPr.out, hb2.size, HPa.out⟩
    case round =>
      obtain ⟨k, c, fr, S, hk, rfl, rfl, hinv⟩ := hrel
      by_cases hlt : k < gs2.length
      · have r1 : wr.cell? ⟨gg, k * 2, none⟩ = some (.int .i64 (gF gs2 k)) := (World.cell?_of_block hinv.out.2.2.2.1).trans (HCel.out k hlt).1
        have r2 : wr.cell? ⟨gg, k * 2 + 1, none⟩ = some (.int .i64 (gT gs2 k)) := (World.cell?_of_block hinv.out.2.2.2.1).trans (HCel.out k hlt).2
        by_cases hem : fr < gF gs2 k
        · have hdr : (parts ln gs).drop c = (fr, gF gs2 k) :: emit (gT gs2 k) (gs2.drop (k + 1)) := by rw [hinv.out.2.2.2.2.2.2, emit_at _ _ _ hlt, if_pos hem]
          obtain ⟨hc1, hc2, hc3, hc4⟩ := drop_cons hdr
          obtain ⟨W1, hW1⟩ : ∃ W1, W1 = wr.alloc (.cells #[.int .i64 (gF gs2 k), .int .i64 (gT gs2 k)] 31) := ⟨_, rfl⟩
          have hq1 : Quiet W.heap.size S wr W1 := by rw [hW1]; exact (Quiet.refl _ _ _).alloc _
          have hs1 : W1.heap.size = wr.heap.size + 1 := by rw [hW1]; simp
          have hgg1 : gg < wr.heap.size := by have h := hinv.out.2.2.2.1; rw [(Array.getElem?_eq_some_iff.2 ⟨hggB.2, rfl⟩ : w2.heap[gg]? = some _)] at h; exact (Array.getElem?_eq_some_iff.1 h).1
          have hpr1 : ∀ i, (i = b ∨ i < B) → W1.heap[i]? = w.heap[i]? := fun i hi => (hq1.block i (.inl (HP.out i hi).1) (Nat.lt_of_lt_of_le (HP.out i hi).1 hinv.out.2.2.2.2.2.1)).trans (hinv.out.2.2.2.2.1 i hi)
          have hggW : W1.heap[gg]? = w2.heap[gg]? := by rw [hW1]; exact (Below.heap_alloc _ _ _ hgg1).trans hinv.out.2.2.2.1
          have hyy := HY.out c S W1 hc1 (HJ.out c _ _ _ hinv.out.2.1 hq1) (by have := hinv.out.2.2.2.2.2.1; omega) hpr1
          have hbx : W1.cell? ⟨wr.heap.size, 1, none⟩ = some (.int .i64 (gT gs2 k)) := by rw [hW1]; simp [go_sem]
          rw [hc2, hc3] at hyy
          dsimp only at hyy
          rw [hW1] at hyy
          obtain ⟨fn, tmps, assign, body, hy, hR⟩ := hyy
          have HR := hide hR
          have HI := hide (show W1.cell? ⟨wr.heap.size, 1, none⟩ = some (.int .i64 (gT gs2 k)) ∧ ¬ S wr.heap.size ∧ c + 1 ≤ (parts ln gs).length ∧ ¬ S gg ∧ gg < W1.heap.size ∧ W1.heap[gg]? = w2.heap[gg]? ∧ wr.heap.size < W1.heap.size ∧ W.heap.size ≤ wr.heap.size ∧ (parts ln gs).drop (c + 1) = emit (gT gs2 k) (gs2.drop (k + 1)) from ⟨hbx, fun h => by have := HJS.out c S wr hinv.out.2.1 _ h; omega, hc1, hinv.out.2.2.1, by omega, hggW, by omega, hinv.out.2.2.2.2.2.1, hc4⟩)
          have HW1 := hide hW1
          clear hR hq1 hs1 hpr1 hggW hbx hc1 hc2 hc3 hc4 hdr hW1 hinv
          gi_wp2
          refine ⟨rfl, HR.out.mono ?_⟩
          rintro e W3 ⟨S3, hu3, hp3, (⟨rfl, hJ3⟩ | ⟨rfl, hJx3⟩)⟩
          · have hbx3 : W3.cell? ⟨wr.heap.size, 1, none⟩ = some (.int .i64 (gT gs2 k)) := by
              have hi := HI.out
              rw [HW1.out] at hi
              exact (World.cell?_of_block (hu3.block _ (by omega) (by omega) hi.2.1).1).trans hi.1
            have HF := hide (show c + 1 ≤ (parts ln gs).length ∧ J (c + 1) S3 W3 ∧ ¬ S3 gg ∧ W3.heap[gg]? = w2.heap[gg]? ∧ (∀ i, (i = b ∨ i < B) → W3.heap[i]? = w.heap[i]?) ∧ W.heap.size ≤ W3.heap.size ∧ (parts ln gs).drop (c + 1) = emit (gT gs2 k) (gs2.drop (k + 1)) from by
              have hi := HI.out
              rw [HW1.out] at hi
              obtain ⟨_, _, i1, i2, i3, i4, i5, i6, i7⟩ := hi
              have hg3 := hu3.block gg hggB.1 i3 i2
              have hz3 := hu3.size
              exact ⟨i1, hJ3, hg3.2, hg3.1.trans i4, hp3, by omega, i7⟩)
            clear hu3 hp3 hJ3 hy HR HI HW1
            gi_wp2
            go_roundw
            case rel => exact ⟨k + 1, c + 1, gT gs2 k, S3, by omega, by go_num, rfl, HF⟩
            case measure => simp [intOf]; omega
          · clear hu3 hp3 hy HR HI HW1
            gi_wp2
            refine bodyPost_ret (results_none rfl _ _ _) rfl ?_
            exact ⟨⟨_, rfl⟩, S3, .inr hJx3⟩
        · have hbx : True := trivial
          have HI := hide (show c ≤ (parts ln gs).length ∧ J c S (wr.alloc (.cells #[.int .i64 (gF gs2 k), .int .i64 (gT gs2 k)] 31)) ∧ ¬ S gg ∧ (wr.alloc (.cells #[.int .i64 (gF gs2 k), .int .i64 (gT gs2 k)] 31)).heap[gg]? = w2.heap[gg]? ∧ (∀ i, (i = b ∨ i < B) → (wr.alloc (.cells #[.int .i64 (gF gs2 k), .int .i64 (gT gs2 k)] 31)).heap[i]? = w.heap[i]?) ∧ W.heap.size ≤ (wr.alloc (.cells #[.int .i64 (gF gs2 k), .int .i64 (gT gs2 k)] 31)).heap.size ∧ (parts ln gs).drop c = emit (gT gs2 k) (gs2.drop (k + 1)) from by
              obtain ⟨i1, i2, i3, i4, i5, i6, i7⟩ := hinv.out
              have hgg1 : gg < wr.heap.size := by rw [(Array.getElem?_eq_some_iff.2 ⟨hggB.2, rfl⟩ : w2.heap[gg]? = some _)] at i4; exact (Array.getElem?_eq_some_iff.1 i4).1
              rw [emit_at _ _ _ hlt, if_neg hem] at i7
              exact ⟨i1, HJ.out c _ _ _ i2 ((Quiet.refl _ _ _).alloc _), i3, (Below.heap_alloc _ _ _ hgg1).trans i4, fun i hi => (Below.heap_alloc _ _ _ (by have := (HP.out i hi).1; omega)).trans (i5 i hi), by simp; omega, i7⟩)
          clear hinv
          gi_wp2
          refine ⟨fun _ h => (by cases h), ?_⟩
          gi_wp2
          go_roundw
          case rel => exact ⟨k + 1, c, gT gs2 k, S, by omega, by go_num, rfl, HI⟩
          case measure => simp [intOf]; omega
      · obtain rfl : k = gs2.length := by omega
        gi_wp2
        refine bodyPost_end (results_none rfl _ _ _) rfl ?_
        obtain ⟨i1, i2, _, _, _, _, i7⟩ := hinv.out
        have i8 : (parts ln gs).length ≤ c := by simpa [emit] using i7
        obtain rfl : c = (parts ln gs).length := by omega
        exact ⟨⟨_, rfl⟩, S, .inl i2⟩

end Go.Proofs.YtfljmbdnnjjmoaaDoor
