/-
  Texts laid together.
-/
import Derived.Test.YtklgpilgalfckaaGreatDoorMN14
import Derived.Stop.RegionWithIn
import Derived.Deep.AppendLies
import Derived.Laws.AppendOwnNone
import Derived.ChangeSame
import Derived.ChangeSlices
import Derived.Deep.Fields
import Derived.Deep.Slices
import Derived.Lib.SmallJoins
set_option maxRecDepth 100000
set_option maxHeartbeats 16000000
namespace Go.Proofs.YtklgpilgalfckaaGreatDoor
open Go.RowKit Go.KP Go.KI Go.Shelf
attribute [local go_sem] Oper.semAt_some

def SK (A : Option Addr) (n c : Nat) (L : List Ln) (A2 : Option Addr) (m c2 : Nat) (S : List Sz3) (b1 b2 : Nat) (W : World) : Prop :=
  LinesAt W A L ∧ SizesAt W A2 S ∧ W.heap[b1]? = some (boxL A n c) ∧ W.heap[b2]? = some (boxZ A2 m c2)
theorem SK.on {A : Option Addr} {n c : Nat} {L : List Ln} {A2 : Option Addr} {m c2 : Nat} {S : List Sz3} {b1 b2 : Nat} {W W2 : World} (h : SK A n c L A2 m c2 S b1 b2 W) (hb : Below W.heap.size W W2) : SK A n c L A2 m c2 S b1 b2 W2 :=
  ⟨h.1.on hb, h.2.1.on hb, below_blk hb h.2.2.1 (lt_blk h.2.2.1), below_blk hb h.2.2.2 (lt_blk h.2.2.2)⟩
abbrev mbAt (S : List Sz3) (L : List Ln) (k : Nat) : Mb := (outL S L).getD k mb0
def SSt (S : List Sz3) (L : List Ln) (J : Nat → (Nat → Prop) → World → Prop) (n0 : Nat) (i : Nat) (T : Nat → Prop) (wr : World) : Prop :=
  J (outL S (L.take i)).length T wr ∧ n0 ≤ wr.heap.size
theorem sizedSeq_any (A : Option Addr) (n c : Nat) (L : List Ln) (A2 : Option Addr) (m c2 : Nat) (S : List Sz3) (b1 b2 : Nat) (w : World) (hn : L.length = n) (hm : S.length = m) (h60 : n ≤ 60) (h14 : m ≤ 1000000) :
    IterOwn Tryz.prog 72 #[.pointer (some ⟨b1, 0, none⟩), .pointer (some ⟨b2, 0, none⟩)] (fun k => #[lnV (mbAt S L k).1, .agg #[.int .i64 (kindP (mbAt S L k).1.k), .int .i64 (mbAt S L k).2.1, .int .i64 (mbAt S L k).2.2]]) (outL S L).length (fun _ W => SK A n c L A2 m c2 S b1 b2 W) (fun _ => False) w := by
  intro lp J Jx W hown hJ hJx hJS hKe hY h0
  refine callsIn_of_wp Tryz.func72 rfl trivial ?_ rfl
  simp only [Tryz.ntmps72, List.size_toArray, List.length_cons, List.length_nil, Nat.reduceAdd, Nat.reduceSub, Array.replicate_succ, Array.replicate_zero, List.push_toArray, List.append_toArray, List.nil_append, List.cons_append]
  have HK0 := hide (hKe 0 _ W (Nat.zero_le _) h0)
  have HJ := hide hJ; have HJx := hide hJx; have HJS := hide hJS; have HY := hide hY; have H0 := hide h0; have HK := hide hKe; have HN := hide hn; have HM := hide hm
  have c0 := cell_blk HK0.out.2.2.1 0
  have l0 := lt_blk HK0.out.2.2.1
  clear hJ hJx hJS hY h0 hKe hown hn hm
  gi_wp2
  clear c0 l0
  gi_loopw [11] (fun i wr => ∃ (i' : Nat) (T : Nat → Prop), i' ≤ n ∧ i = .int .i64 i' ∧ Hid (SSt S L J W.heap.size i' T wr)) (fun i _ => n - (intOf i).toNat)
  case atStart => exact ⟨0, _, Nat.zero_le _, rfl, hide ⟨H0.out, Nat.le_refl _⟩⟩
  case round =>
    obtain ⟨i, T, hi, rfl, hin⟩ := hrel
    have IN := hide hin.out
    clear hin
    have HKW := hide (HK.out _ T wr (outL_pre S L i) IN.out.1)
    by_cases hlt : i < n
    · have hii : (i : Int) < (n : Int) := by omega
      obtain ⟨l, hl⟩ : ∃ l, l = lnAt L i := ⟨_, rfl⟩
      have HLI := hide hl
      obtain ⟨b, o, rfl, hbl, hcell⟩ := HKW.out.1 i (by rw [HN.out]; exact hlt)
      rw [← hl] at hcell
      have r0 : wr.cell? ⟨b, o + i * 9, none⟩ = some (.int .i64 l.k) := hcell 0 _ rfl
      have r1 : wr.cell? ⟨b, o + i * 9 + 1, none⟩ = some (.string l.a.x) := hcell 1 _ rfl
      have r2 : wr.cell? ⟨b, o + i * 9 + 2, none⟩ = some (.string l.a.y) := hcell 2 _ rfl
      have r3 : wr.cell? ⟨b, o + i * 9 + 3, none⟩ = some (.string l.a.z) := hcell 3 _ rfl
      have r4 : wr.cell? ⟨b, o + i * 9 + 4, none⟩ = some (.string l.b.x) := hcell 4 _ rfl
      have r5 : wr.cell? ⟨b, o + i * 9 + 5, none⟩ = some (.string l.b.y) := hcell 5 _ rfl
      have r6 : wr.cell? ⟨b, o + i * 9 + 6, none⟩ = some (.string l.b.z) := hcell 6 _ rfl
      have r7 : wr.cell? ⟨b, o + i * 9 + 7, none⟩ = some (.int .i64 l.l) := hcell 7 _ rfl
      have r8 : wr.cell? ⟨b, o + i * 9 + 8, none⟩ = some (.int .i64 l.r) := hcell 8 _ rfl
      have HP := hide (pick_ways S l)
      have X1 := hide (heap1 wr (lnO l))
      have HKD := hide (fun w => hkindOf_any l.k w)
      obtain ⟨kd, hkd⟩ : ∃ kd, kd = kindP l.k := ⟨_, rfl⟩
      have HKE := hide hkd
      rw [← hkd] at HKD HP
      clear hl hcell hkd
      gi_wp2
      refine ⟨trivial, rfl, (callsIn_wide.2 (HKD.out _)).mono ?_⟩
      rintro e w1 ⟨rfl, hb1⟩
      have GL := hide (below_blk hb1 X1.out.1 (lt_blk X1.out.1))
      have HB1 := hide (X1.out.2.2.trans (hb1.mono X1.out.2.2.size))
      have X2 := hide (heap1 w1 (.cells #[.int .i64 kd] 3))
      have HB2 := hide (HB1.out.trans (X2.out.2.2.mono HB1.out.size))
      have HK2 := hide (HKW.out.on HB2.out)
      have GL2 := hide (below_blk X2.out.2.2 GL.out (lt_blk GL.out))
      have e2 := cell_blk HK2.out.2.2.2 0
      have l2 := lt_blk HK2.out.2.2.2
      have HI := hide (zIndex_any 74 _ _ A2 m c2 S (w1.alloc (.cells #[.int .i64 kd] 3)) HM.out h14 HK2.out.2.1 (sized11_answers w1.heap.size kd _ X2.out.1))
      clear hb1 r0 r1 r2 r3 r4 r5 r6 r7 r8
      obtain ⟨q, hq⟩ : ∃ q, q = idxF (fun x : Sz3 => decide (x.1 = kd)) 0 S := ⟨_, rfl⟩
      rw [← hq] at HI HP
      clear hq
      gi_wp2
      refine ⟨trivial, rfl, (callsIn_wide.2 HI.out).mono ?_⟩
      rintro e w3 ⟨rfl, hb3⟩
      have HB3 := hide (HB2.out.trans (hb3.mono HB2.out.size))
      have GL3 := hide (below_blk hb3 GL2.out (lt_blk GL2.out))
      have HK3 := hide (HKW.out.on HB3.out)
      have HJQ := hide (fun q => show J (outL S (L.take i)).length T (w3.drewN q) ∧ W.heap.size ≤ (w3.drewN q).heap.size from ⟨HJ.out _ T wr (w3.drewN q) IN.out.1 ((QuietO.refl _ _ _ wr).of_below (below_drewN HB3.out q) (Nat.le_refl _)), Nat.le_trans IN.out.2 HB3.out.size⟩)
      have HJ3 := hide (HJ.out _ T wr w3.drew IN.out.1 ((QuietO.refl _ _ _ wr).of_below HB3.out.drew (Nat.le_refl _)))
      have HS3 := hide (show W.heap.size ≤ w3.drew.heap.size from Nat.le_trans IN.out.2 HB3.out.size)
      have hil : i < L.length := by rw [HN.out]; exact hlt
      clear hb3 e2 l2 HI HK2 HB1 HB2 GL GL2 X1 X2 HKD
      by_cases hkz : kd = 0
      · have HNO := hide (show (outL S (L.take (i + 1))).length = (outL S (L.take i)).length from outL_skip hil (by
          rw [← HLI.out]
          rcases HP.out with ⟨hp, _⟩ | ⟨j, hk0, _⟩
          · exact hp
          · exact absurd hkz hk0))
        subst hkz
        gi_wp2
        refine region_calm ?_
        go_quiet (fail)
        refine calm_normal ?_
        gi_wp2
        go_roundw
        case rel => exact ⟨i + 1, T, by omega, by go_num, hide ⟨by rw [HNO.out]; exact (HJQ.out nq).1, (HJQ.out nq).2⟩⟩
        case measure => simp [intOf]; omega
      · have hkf : decide (kd = 0) = false := decide_eq_false hkz
        rcases HP.out with ⟨hp, hq⟩ | ⟨j, hk0, hj, hzj, hp, hq⟩
        · obtain rfl : q = -1 := hq.resolve_left hkz
          have HNO := hide (show (outL S (L.take (i + 1))).length = (outL S (L.take i)).length from outL_skip hil (by rw [← HLI.out]; exact hp))
          clear hp hq
          gi_wp2
          refine region_calm ?_
          go_quiet (fail)
          refine calm_normal ?_
          gi_wp2
          go_roundw
          case rel => exact ⟨i + 1, T, by omega, by go_num, hide ⟨by rw [HNO.out]; exact (HJQ.out nq).1, (HJQ.out nq).2⟩⟩
          case measure => simp [intOf]; omega
        · subst hq
          obtain ⟨hlt3, hmb, hsn⟩ := outL_next hil (show pkL S (lnAt L i) = some (zAt S j).2 by rw [← HLI.out]; exact hp)
          obtain ⟨b', o', rfl, hbl', hs0, hs1, hs2⟩ := HK3.out.2.1 j hj
          obtain ⟨z, hz⟩ : ∃ z, z = zAt S j := ⟨_, rfl⟩
          rw [← hz] at hs0 hs1 hs2 hzj hmb
          have hyy := HY.out _ T w3.drew hlt3 HJ3.out HS3.out
          rw [show mbAt S L (outL S (L.take i)).length = (l, z.2) by rw [HLI.out]; exact hmb] at hyy
          try dsimp only at hyy
          rw [← HKE.out, ← hzj] at hyy
          obtain ⟨fn, tmps, assign, body, hy, hR⟩ := hyy
          have HR := hide hR
          have HSN := hide hsn
          have HHM := hide (show J ((outL S (L.take i)).length + 1) = J (outL S (L.take (i + 1))).length by rw [hsn])
          have d := fun o => cell_blk GL3.out o
          have ld := lt_blk GL3.out
          have hjm : (j : Int) < (m : Int) := by have := HM.out; omega
          have hjn : j < m := by have := HM.out; omega
          have e2 := cell_blk HK3.out.2.2.2 0
          have l2 := lt_blk HK3.out.2.2.2
          clear hR hlt3 hmb hsn hp hk0 hz hzj
          gi_wp2
          gi_region_with (refine ⟨rfl, HR.out.mono ?_⟩; rintro e W5 h5; obtain ⟨bv, he5, g5⟩ : ∃ bv, e = .returned (.bool bv) ∧ ∃ S', Upd W.heap.size T S' w3.drew W5 ∧ ((bv = true ∧ J ((outL S (L.take i)).length + 1) S' W5) ∨ (bv = false ∧ Jx S' W5)) := (by obtain ⟨S', hu, _, ⟨h1, h2⟩ | ⟨h1, h2⟩⟩ := h5; exact ⟨true, h1, S', hu, .inl ⟨rfl, h2⟩⟩; exact ⟨false, h1, S', hu, .inr ⟨rfl, h2⟩⟩); have H5 := hide g5; clear g5 h5; subst he5; clear hy HR d ld e2 l2)
          all_goals
            obtain ⟨S', hu, ⟨rfl, hj3⟩ | ⟨rfl, hj3⟩⟩ := H5.out
            · rw [HHM.out] at hj3
              have HJ5 := hide hj3
              have HS5 := hide (Nat.le_trans HS3.out hu.size)
              clear hu hj3
              gi_wp2
              go_roundw
              case rel => exact ⟨i + 1, S', by omega, by go_num, hide ⟨HJ5.out, HS5.out⟩⟩
              case measure => simp [intOf]; omega
            · clear hu
              gi_wp2
              refine bodyPost_ret (results_none rfl _ _ _) rfl ?_
              exact ⟨⟨_, rfl⟩, S', .inr hj3⟩
    · have hii : ((i : Int) < (n : Int)) = False := eq_false (by omega)
      have HE := hide (show (outL S (L.take i)).length = (outL S L).length by rw [List.take_of_length_le (by have := HN.out; omega)])
      clear hlt
      gi_wp2
      refine bodyPost_end (results_none rfl _ _ _) rfl ?_
      exact ⟨⟨_, rfl⟩, T, .inl (by rw [← HE.out]; exact IN.out.1)⟩
open Go.RowKit Go.KP Go.KI Go.Shelf
attribute [local go_sem] Oper.semAt_some

abbrev mbE (x : Mb) : Int := ofE x.1 x.2.1 x.2.2
def firstE : List Mb → Int
  | [] => 0
  | x :: r => if mbE x ≠ 0 then mbE x else firstE r
theorem errL_first (S : List Sz3) (L : List Ln) : errL S L = firstE (outL S L) := by
  induction L with
  | nil => rfl
  | cons x r ih =>
    unfold errL outL at ih ⊢
    rw [errA_cons, outA_cons]
    cases pkL S x with
    | none => exact ih
    | some s =>
      show (if erL x s ≠ 0 then erL x s else errA (pkL S) erL r) = if mbE (x, s) ≠ 0 then mbE (x, s) else firstE (outA (pkL S) mkL r)
      rw [ih]
theorem firstE_ok {l : List Mb} (h : ∀ t, t < l.length → mbE (l.getD t mb0) = 0) : firstE l = 0 := by
  induction l with
  | nil => rfl
  | cons x r ih =>
    unfold firstE
    rw [if_neg (fun g => g (h 0 (by simp)))]
    exact ih fun t ht => h (t + 1) (by simpa using ht)
theorem firstE_at : ∀ {l : List Mb} {k : Nat}, k < l.length → (∀ t, t < k → mbE (l.getD t mb0) = 0) → mbE (l.getD k mb0) ≠ 0 → firstE l = mbE (l.getD k mb0) := by
  intro l
  induction l with
  | nil => intro k hk; exact absurd hk (by simp)
  | cons x r ih =>
    intro k hk h hE
    unfold firstE
    cases k with
    | zero => exact if_pos hE
    | succ k =>
      rw [if_neg (fun g => g (h 0 (by omega)))]
      exact ih (by simpa using hk) (fun t ht => h (t + 1) (by omega)) hE
theorem set_off {w : World} {b c o : Nat} {x : Obj} (h : w.heap[b]? = some x) (hne : c ≠ b) (v : Value) : (w.setCell ⟨c, o, none⟩ v).heap[b]? = some x :=
  (Below.heap_setCell _ _ _ _ (fun e => hne e.symm)).trans h
theorem put_two {w W : World} {u v : Value} {z y : Int} (h0 : W.heap[w.heap.size + 1]? = some (.cells #[u] 36 (0, 0))) (h1 : W.heap[w.heap.size + 2]? = some (.cells #[.int .i64 z] 33 (0, 0))) (hb : Below w.heap.size w W) :
    ((W.setCell ⟨w.heap.size + 1, 0, none⟩ v).setCell ⟨w.heap.size + 2, 0, none⟩ (.int .i64 y)).heap[w.heap.size + 1]? = some (.cells #[v] 36 (0, 0)) ∧
    ((W.setCell ⟨w.heap.size + 1, 0, none⟩ v).setCell ⟨w.heap.size + 2, 0, none⟩ (.int .i64 y)).heap[w.heap.size + 2]? = some (.cells #[.int .i64 y] 33 (0, 0)) ∧
    Below w.heap.size w ((W.setCell ⟨w.heap.size + 1, 0, none⟩ v).setCell ⟨w.heap.size + 2, 0, none⟩ (.int .i64 y)) ∧
    ((W.setCell ⟨w.heap.size + 1, 0, none⟩ v).setCell ⟨w.heap.size + 2, 0, none⟩ (.int .i64 y)).heap.size = W.heap.size ∧
    ∀ b, b ≠ w.heap.size + 1 → b ≠ w.heap.size + 2 → ((W.setCell ⟨w.heap.size + 1, 0, none⟩ v).setCell ⟨w.heap.size + 2, 0, none⟩ (.int .i64 y)).heap[b]? = W.heap[b]? := by
  refine ⟨set_off (set_at (i := 0) h0) (by omega) _, set_at (i := 0) (set_off h1 (by omega) _), (hb.setCell (p := ⟨w.heap.size + 1, 0, none⟩) (by simp) _).setCell (p := ⟨w.heap.size + 2, 0, none⟩) (by simp) _, by simp [World.setCell], fun b n1 n2 => ?_⟩
  exact (Below.heap_setCell _ _ _ _ (fun e => n2 e)).trans (Below.heap_setCell _ _ _ _ (fun e => n1 e))
theorem exit_all {a : Act} {W : World} {b0 b1 : Nat} {v : Value} {z : Int} (h0 : W.heap[b0]? = some (.cells #[v] 36 (0, 0))) (h1 : W.heap[b1]? = some (.cells #[.int .i64 z] 33 (0, 0)))
    (h2 : a.tmps[4]? = some (.pointer (some ⟨b0, 0, none⟩))) (h3 : a.tmps[5]? = some (.pointer (some ⟨b1, 0, none⟩))) :
    (results Tryz.f10 a.tmps).run Tryz.prog W = .ok (.tuple #[v, .int .i64 z]) W := by
  have c0 := fun o => cell_blk h0 o
  have c1 := fun o => cell_blk h1 o
  simp [results, go_sem, c0, c1, h2, h3]
theorem outL_one {S : List Sz3} {L : List Ln} {k : Nat} (hk : k < (outL S L).length) : (outL S L).take (k + 1) = (outL S L).take k ++ [mbAt S L k] := by
  rw [List.take_succ_eq_append_getElem hk]
  simp [hk]
theorem hAll_any (A : Option Addr) (n c : Nat) (L : List Ln) (A2 : Option Addr) (m c2 : Nat) (S : List Sz3) (B : Nat) (w : World) (hB : B ≤ w.heap.size) (hT : PQ B w) (hn : L.length = n) (hm : S.length = m) (h60 : n ≤ 60) (h14 : m ≤ 1000000) (hcap : m ≤ c2)
    (hf : fewL L) (hc : LinesAt w A L) (hc2 : SizesAt w A2 S) :
    Calls Tryz.prog 10 #[roofV A n c, .slice A2 m c2] w (AllAt w S L) := by
  have HT := hide hT
  refine (callsIn_wide (n := 0)).1 ?_
  refine callsIn_of_wp_marks Tryz.func10 rfl trivial ?_ rfl
  simp only [Tryz.ntmps10, List.size_toArray, List.length_cons, List.length_nil, Nat.reduceAdd, Nat.reduceSub, Array.replicate_succ, Array.replicate_zero, List.push_toArray, List.append_toArray, List.nil_append, List.cons_append]
  obtain ⟨Y0, Y1, Y2, y4, Y5⟩ := heap3 w (roofO A n c) (.cells #[.slice none 0 0] 36) (.cells #[.int .i64 0] 33)
  have HV := hide (hvalid_any A2 m c2 S (((w.alloc (roofO A n c)).alloc (.cells #[.slice none 0 0] 36)).alloc (.cells #[.int .i64 0] 33)) hm h14 hcap (hc2.on Y5))
  have HC := hide hc; have HC2 := hide hc2; have HN := hide hn; have HM := hide hm; have HF := hide hf
  have HY := hide (And.intro Y0 (And.intro Y1 (And.intro Y2 (And.intro y4 Y5))))
  clear hT hn hm hf hc hc2 Y0 Y1 Y2 y4 Y5
  gi_wp2
  refine ⟨trivial, rfl, (callsIn_wide.2 HV.out).mono ?_⟩
  rintro e w1 ⟨rfl, hb1⟩
  obtain ⟨Y0, Y1, Y2, y4, Y5⟩ := HY.out
  have C0 := hide (below_blk hb1 Y0 (lt_blk Y0)); have C1 := hide (below_blk hb1 Y1 (lt_blk Y1)); have C2 := hide (below_blk hb1 Y2 (lt_blk Y2))
  have HB1 := hide (Y5.trans (hb1.mono Y5.size))
  have hs1 : w.heap.size + 3 ≤ w1.heap.size := by have := hb1.size; omega
  clear hb1 Y0 Y1 Y2 y4 Y5 HY HV
  have k1 := cell_blk C1.out 0
  have k2 := cell_blk C2.out 0
  have f1 := froz_blk C1.out 0
  have f2 := froz_blk C2.out 0
  cases hv : validS S
  · have HE := hide (allE_bad (L := L) hv)
    clear hv
    obtain ⟨p1, p2, p3, p4, p5⟩ := put_two (v := .slice none 0 0) (y := 1) C1.out C2.out HB1.out
    gi_wp2
    exact ⟨_, exit_all p1 p2 rfl rfl, all_fail HE.out (by decide) p3⟩
  · have c3 := cell_blk C0.out 3
    have HVv := hide hv
    have l0 := lt_blk C0.out
    clear hv
    gi_wp2
    refine ⟨trivial, rfl, (callsIn_wide.2 (hsized_any A n c A2 m c2 _)).mono ?_⟩
    rintro e w4 ⟨rfl, hw4⟩
    obtain ⟨Z0, Z1, Z2, z4, Z5⟩ := heap3 w1 (.cells #[.slice none 0 0] 36) (boxL A n c) (boxZ A2 m c2)
    rw [← hw4] at Z0 Z1 Z2 z4 Z5
    have HB4 := hide (HB1.out.trans (Z5.mono HB1.out.size))
    have D1 := hide (below_blk Z5 C1.out (lt_blk C1.out)); have D2 := hide (below_blk Z5 C2.out (lt_blk C2.out))
    have E0 := hide Z0; have E1 := hide Z1; have E2 := hide Z2
    have HSK := hide (show SK A n c L A2 m c2 S (w1.heap.size + 1) (w1.heap.size + 2) w4 from ⟨HC.out.on HB4.out, HC2.out.on HB4.out, Z1, Z2⟩)
    obtain ⟨i0, hi0, hz0, hz1, hz2⟩ := info_parts info32
    have hs4 : w4.heap.size = w1.heap.size + 3 := z4
    clear hw4 Z0 Z1 Z2 z4 Z5 c3 l0 k1 k2 f1 f2 C0 C1 C2
    gi_wp2
    refine wp_iter_own (gf := 72) (lb := #[.pointer (some ⟨w1.heap.size + 1, 0, none⟩), .pointer (some ⟨w1.heap.size + 2, 0, none⟩)]) rfl (enters_of Tryz.func72 (by kernel_rfl) rfl)
      (sizedSeq_any A n c L A2 m c2 S (w1.heap.size + 1) (w1.heap.size + 2) w4 HN.out HM.out h60 h14) (fun b hb => hb.elim) (fun _ => rfl)
      (fun k T W => ∃ v, T = OwnOf v ∧ W.heap[w.heap.size + 1]? = some (.cells #[.slice none 0 0] 36 (0, 0)) ∧ W.heap[w.heap.size + 2]? = some (.cells #[.int .i64 0] 33 (0, 0)) ∧ W.heap[w1.heap.size]? = some (.cells #[v] 36 (0, 0)) ∧
      SK A n c L A2 m c2 S (w1.heap.size + 1) (w1.heap.size + 2) W ∧ W.ownsRow w4.heap.size 32 11 v k (mcells ((outL S L).take k)) ∧ (∀ t, t < k → mbE (mbAt S L t) = 0) ∧ Below w.heap.size w W)
      (fun c T W => ∃ E, c = .ret ∧ allE S L = E ∧ E ≠ 0 ∧ W.heap[w.heap.size + 1]? = some (.cells #[.slice none 0 0] 36 (0, 0)) ∧ W.heap[w.heap.size + 2]? = some (.cells #[.int .i64 E] 33 (0, 0)) ∧ Below w.heap.size w W ∧ w4.heap.size ≤ W.heap.size) ?hI ?hIx ?h0 ?hke
      (fun k T a1' W => ∃ (b7 b8 : Nat) (x : Mb), x = (outL S L)[k]?.getD mb0 ∧ W.heap[b7]? = some (lnO x.1) ∧ W.heap[b8]? = some (.cells #[.int .i64 (kindP x.1.k), .int .i64 x.2.1, .int .i64 x.2.2] 59 (0, 0)) ∧
        a1' = { tmps := #[roofV A n c, .slice A2 m c2, .pointer (some ⟨w.heap.size, 0, none⟩), undef, .pointer (some ⟨w.heap.size + 1, 0, none⟩), .pointer (some ⟨w.heap.size + 1 + 1, 0, none⟩), .pointer (some ⟨w1.heap.size, 0, none⟩), .pointer (some ⟨b7, 0, none⟩), .pointer (some ⟨b8, 0, none⟩), undef, undef, .slice A2 m c2, .bool true, .bool false, .pointer (some ⟨w.heap.size, 3, none⟩), .slice A n c, .slice A2 m c2, .func (.func 72) #[] #[.pointer (some ⟨w1.heap.size + 1, 0, none⟩), .pointer (some ⟨w1.heap.size + 1 + 1, 0, none⟩)], lnV x.1, .agg #[.int .i64 (kindP x.1.k), .int .i64 x.2.1, .int .i64 x.2.2], undef, undef, undef, undef, undef, undef, undef, undef, undef, undef, undef, undef, undef, undef, undef, undef, undef, undef, undef, undef], defers := [] })
      ?hAx ?hassign ?hS ?hbody ?hdone ?hstop
    case h0 => exact ⟨.slice none 0 0, by funext b; simp [OwnOf, Value.ownBlock], D1.out, D2.out, E0.out, HSK.out, World.ownsRow_nil _ _ _ _, fun t ht => absurd ht (by omega), HB4.out⟩
    case hke =>
      rintro k T W _ ⟨v, _, _, _, _, hsk, _⟩
      exact hsk
    case hS =>
      rintro k T W ⟨v, rfl, _, _, _, _, hown, _⟩ b hb
      exact owns_lt hown b hb
    case hI =>
      rintro k T W W2 ⟨v, rfl, e1, e2, e0, hsk, hown, hok, hb⟩ hq
      have e : ∀ {b : Nat} {o : Obj}, b < w1.heap.size + 3 → W.heap[b]? = some o → W2.heap[b]? = some o := fun {b} {o} hb h => (hq.block b (fun f => f) (.inl (by omega)) (lt_blk h)).trans h
      have hb2 : Below w.heap.size w W2 := ⟨hq.os.trans hb.os, hq.tape.trans hb.tape, hq.output.trans hb.output, Nat.le_trans hb.size hq.size, fun j hj => (hq.block j (fun f => f) (.inl (by omega)) (by have := hb.size; omega)).trans (hb.block j hj)⟩
      exact ⟨v, rfl, e (by omega) e1, e (by omega) e2, e (by omega) e0, ⟨HC.out.on hb2, HC2.out.on hb2, e (by omega) hsk.2.2.1, e (by omega) hsk.2.2.2⟩, owns_stay hown (fun r hr => hq.block r (fun f => f) (.inr hr) (hown.lt r hr).2), hok, hb2⟩
    case hIx =>
      rintro c T W W2 ⟨E, rfl, hE, hne, e1, e2, hb, hsz⟩ hq
      have e : ∀ {b : Nat} {o : Obj}, b < w1.heap.size + 3 → W.heap[b]? = some o → W2.heap[b]? = some o := fun {b} {o} hb h => (hq.block b (fun f => f) (.inl (by omega)) (lt_blk h)).trans h
      exact ⟨E, rfl, hE, hne, e (by omega) e1, e (by omega) e2, ⟨hq.os.trans hb.os, hq.tape.trans hb.tape, hq.output.trans hb.output, Nat.le_trans hb.size hq.size, fun j hj => (hq.block j (fun f => f) (.inl (by omega)) (by have := hb.size; omega)).trans (hb.block j hj)⟩, Nat.le_trans hsz hq.size⟩
    case hstop =>
      rintro D c T W hD ⟨E, rfl, hE, hne, e1, e2, hb, hsz⟩ hK
      have HK := hide hK
      have HE := hide hE; have HNE := hide hne
      have E1 := hide e1; have E2 := hide e2; have HB := hide hb
      clear hK hE hne e1 e2 hb
      gi_wp2
      refine ⟨by simp, .inl ⟨_, _, rfl, run_takeDeferred HK.out, ?_⟩⟩
      exact ⟨_, exit_all ((World.putObj_heap_other (by omega)).trans E1.out) ((World.putObj_heap_other (by omega)).trans E2.out) rfl rfl, all_fail HE.out HNE.out (HB.out.trans (belowK_b (w := w) (Nat.le_refl _) W D _ _ (by omega) HK.out rfl rfl))⟩
    case hdone =>
      rintro D T W hD ⟨v, rfl, e1, e2, e0, hsk, hown, hok, hb⟩ hK
      rw [List.take_length] at hown
      obtain ⟨va, vc, rfl⟩ := owns_form hown
      have HEr := hide (show errL S L = 0 by rw [errL_first]; exact firstE_ok hok)
      have hol : (outL S L).length ≤ 60 := by have := outL_le S L; have := HN.out; omega
      have q1 : ((512 : Int) < ((outL S L).length : Int)) = False := eq_false (by omega)
      have c0 := cell_blk e0 0
      have c1 := cell_blk e1 0
      have c2 := cell_blk e2 0
      have f1 := froz_blk e1 0
      have f2 := froz_blk e2 0
      have l0 := lt_blk e0
      obtain ⟨p1, p2, p3, p4, p5⟩ := put_two (v := .slice va (outL S L).length vc) (y := 0) e1 e2 hb
      have P1 := hide p1; have P2 := hide p2; have P3 := hide p3
      have HO := hide (owns_stay hown (fun r hr => p5 r (by have := (hown.lt r hr).1; omega) (by have := (hown.lt r hr).1; omega)))
      have HK := hide ((p5 D (by omega) (by omega)).trans hK)
      have P4 := hide p4
      clear hown hok hb hK e0 e1 e2 hsk p1 p2 p3 p4 p5
      gi_wp2
      refine ⟨by simp, .inl ⟨_, _, rfl, run_takeDeferred HK.out, ?_⟩⟩
      exact ⟨_, exit_all ((World.putObj_heap_other (by omega)).trans P1.out) ((World.putObj_heap_other (by omega)).trans P2.out) rfl rfl, all_ret HVv.out HEr.out (ownsRow_putObj HO.out _ HK.out rfl) (P3.out.trans (belowK_b (w := w) (Nat.le_refl _) _ D _ _ (by omega) HK.out rfl rfl))⟩
    case hAx =>
      rintro k T a1 W l r r2 ⟨b7, b8, x, hx, h7, h8, ha⟩ hl
      exact ⟨b7, b8, x, hx, (World.putObj_heap_other (by rintro rfl; rw [hl] at h7; cases h7)).trans h7, (World.putObj_heap_other (by rintro rfl; rw [hl] at h8; cases h8)).trans h8, ha⟩
    case hassign =>
      intro lp k T W K hsz hSlt hK
      gi_wp2
      exact hK _ _ (((Quiet.refl _ _ _).alloc _).alloc _) (((Upd.refl _ _ _).alloc _).alloc _) ⟨W.heap.size, W.heap.size + 1, _, rfl, (heap2 W _ _).1, (heap2 W _ _).2.1, rfl⟩
    case hbody =>
      rintro lp k T a1' W hk ⟨v, rfl, e1, e2, e0, hsk, hown, hok, hb⟩ ⟨b7, b8, x, hx, h7, h8, rfl⟩ hsz
      have HX := hide (show x = mbAt S L k by rw [hx]; simp [mbAt])
      have TL := hide (show tinyL x.1 by
        have hm : x ∈ outL S L := by
          rw [HX.out]
          simp only [mbAt, List.getD_eq_getElem?_getD, List.getElem?_eq_getElem hk, Option.getD_some]
          exact List.getElem_mem hk
        obtain ⟨y, s, hy, _, he⟩ := outA_mem _ _ hm
        obtain ⟨i, hi, e⟩ := List.getElem_of_mem hy
        have h := HF.out.2 i hi
        rw [he]
        show tinyL y
        rw [← e]
        simpa [lnAt, hi] using h)
      have HOF := hide (hOf_any x.1 x.2.1 x.2.2 TL.out B W (Nat.le_trans hB hb.size) (HT.out.on hb hB))
      have d7 := fun o => cell_blk h7 o
      have d8 := fun o => cell_blk h8 o
      have l7 := lt_blk h7
      have l8 := lt_blk h8
      obtain ⟨mk, mf, mo, ma, mb, mx, my, hmv, hmc⟩ := ofV_form x.1 x.2.1 x.2.2
      rw [hmv] at HOF
      have E0' := hide e0; have E1 := hide e1; have E2 := hide e2; have HO := hide hown; have HOK := hide hok; have HB := hide hb; have HMC := hide hmc; have HS := hide hsk
      clear e0 e1 e2 hown hok hb hmc hmv hx hsk
      gi_wp2
      refine ⟨trivial, rfl, (CallsIn.inRound lp (callsIn_wide.2 HOF.out)).mono ?_⟩
      rintro e w2 ⟨rfl, hb2⟩
      have G0 := hide (below_blk hb2 E0'.out (lt_blk E0'.out))
      have G1 := hide (below_blk hb2 E1.out (lt_blk E1.out))
      have G2 := hide (below_blk hb2 E2.out (lt_blk E2.out))
      have HO2 := hide (owns_stay HO.out (fun r hr => hb2.block r (HO.out.lt r hr).2))
      have HS2 := hide (HS.out.on hb2)
      have HB2 := hide (HB.out.trans (hb2.mono HB.out.size))
      have HU2 := hide (fun S => (Upd.refl w4.heap.size S W).of_below hb2 (Nat.le_refl _))
      have hsz2 : W.heap.size ≤ w2.heap.size := hb2.size
      clear hb2 d7 d8 l7 l8 HOF h7 h8 E0' E1 E2 HO HS HB
      obtain ⟨E, hE⟩ : ∃ E, E = ofE x.1 x.2.1 x.2.2 := ⟨_, rfl⟩
      rw [← hE] at HMC ⊢
      have HE := hide hE
      clear hE
      obtain ⟨M, hM⟩ : ∃ M, M = memTO mk mf mo ma mb mx my := ⟨_, rfl⟩
      have Y := hide (heap1 w2 (memTO mk mf mo ma mb mx my))
      by_cases hz : E = 0
      · subst hz
        have HMC2 := hide (HMC.out rfl)
        have HA := hide (show mbE (mbAt S L k) = 0 by rw [← HX.out]; exact HE.out.symm)
        have c0 := cell_blk G0.out 0
        have f0 := froz_blk G0.out 0
        have l0 := lt_blk G0.out
        have hkl : k < 61 := by have := outL_le S L; have := HN.out; omega
        gi_wp2_with (gi_at_builtin; refine in_append _ rfl (.tmp 32) (.tmp 34) 36 rfl w4.heap.size 32 i0 mem0V 11 136 Tryz.underlying36 hi0 hz0 hz1 hz2 rfl (by decide) _ _ _ rfl ((HO2.out.alloc _).alloc _) ⟨w2.heap.size + 1, 0, none⟩ 1 1 [.int .i64 mk, .int .i64 mf, .int .i64 mo, .string ma.x, .string ma.y, .string ma.z, .string mb.x, .string mb.y, .string mb.z, .int .i64 mx, .int .i64 my] rfl rfl (World.news_of_block (cs := #[.int .i64 mk, .int .i64 mf, .int .i64 mo, .string ma.x, .string ma.y, .string ma.z, .string mb.x, .string mb.y, .string mb.z, .int .i64 mx, .int .i64 my]) (t := 32) (fr := (0, 0)) (heap2 w2 _ _).2.1) (by simp [Value.oneCell']) (by omega) (by simp only [maxLen]; omega) (by omega) (by simp; omega) ?_; intro g2 cap2 w3 hown2 hg2 hat2 hlt2; have hblk := fun b (hb : b < w4.heap.size) => ((hg2.block b (by simp; omega) (owns_ne HO2.out (by omega))).trans (Below.heap_alloc _ _ _ (by simp; omega))).trans (Below.heap_alloc _ _ _ (show b < w2.heap.size by omega)); have c4 := (World.cell?_of_block (a := ⟨w1.heap.size, 0, none⟩) (hblk _ (by simp; omega))).trans c0; have f4 := (World.frozen?_of_block (a := ⟨w1.heap.size, 0, none⟩) (hblk _ (by simp; omega))).trans f0; have HBk := hide hblk; have HOW2 := hide hown2; have HG2 := hide hg2; have HA2 := hide hat2; clear hblk hown2 hg2 hat2)
        have HBF := hide ((((HB2.out.alloc HB2.out.size _).alloc (HB2.out.alloc HB2.out.size _).size _).grown HG2.out (by simp; omega) (owns_ge HO2.out (by omega))).setCell (p := ⟨w1.heap.size, 0, none⟩) (by simp; omega) (.slice (some ⟨g2, 0, none⟩) (k + 1) cap2))
        refine ⟨OwnOf (.slice (some ⟨g2, 0, none⟩) (k + 1) cap2), upd_append (b := w1.heap.size) (by omega) (((HU2.out _).alloc _).alloc _) HG2.out HA2.out, fun b hb => hb.elim, .slice (some ⟨g2, 0, none⟩) (k + 1) cap2, rfl,
          set_off ((HBk.out _ (by omega)).trans G1.out) (by omega) _, set_off ((HBk.out _ (by omega)).trans G2.out) (by omega) _, set_at (i := 0) ((HBk.out _ (by omega)).trans G0.out),
          ⟨HC.out.on HBF.out, HC2.out.on HBF.out, set_off ((HBk.out _ (by omega)).trans HS2.out.2.2.1) (by omega) _, set_off ((HBk.out _ (by omega)).trans HS2.out.2.2.2) (by omega) _⟩, ?_, ?_, HBF.out⟩
        · have e : mbCs x = [.int .i64 mk, .int .i64 mf, .int .i64 mo, .string ma.x, .string ma.y, .string ma.z, .string mb.x, .string mb.y, .string mb.z, .int .i64 mx, .int .i64 my] := HMC2.out.symm
          rw [outL_one hk, mcells_snoc, ← HX.out, e]
          exact owns_stay HOW2.out (fun r hr => Below.heap_setCell _ _ _ _ (by have := (HOW2.out.lt r hr).1; simp; omega))
        · intro t ht
          rcases Nat.lt_or_ge t k with h | h
          · exact HOK.out t h
          · rw [show t = k by omega]; exact HA.out
      · have hzb : (E == 0) = false := by simpa using hz
        have hzn : (E != 0) = true := by simpa using hz
        have HA := hide (show allE S L = E by
          rw [allE_err HVv.out, errL_first, firstE_at hk HOK.out (by show mbE (mbAt S L k) ≠ 0; rw [← HX.out]; show ofE x.1 x.2.1 x.2.2 ≠ 0; rw [← HE.out]; exact hz)]
          show mbE (mbAt S L k) = E
          rw [← HX.out]
          exact HE.out.symm)
        have HZ := hide hz
        clear hz
        have c1 := cell_blk G1.out 0
        have c2 := cell_blk G2.out 0
        have f1 := froz_blk G1.out 0
        have f2 := froz_blk G2.out 0
        have l1 := lt_blk G1.out
        have l2 := lt_blk G2.out
        obtain ⟨p1, p2, p3, p4, p5⟩ := put_two (v := .slice none 0 0) (y := E) G1.out G2.out HB2.out
        have P1 := hide p1; have P2 := hide p2; have P3 := hide p3; have P4 := hide p4
        clear p1 p2 p3 p4 p5
        gi_wp2
        exact ⟨OwnOf v, (((HU2.out _).setBox (p := ⟨w.heap.size + 1, 0, none⟩) (by simp; omega) _).setBox (p := ⟨w.heap.size + 2, 0, none⟩) (by simp; omega) _).alloc _, fun b hb => hb.elim, E, rfl, HA.out, HZ.out, (Below.heap_alloc _ _ _ (lt_blk P1.out)).trans P1.out, (Below.heap_alloc _ _ _ (lt_blk P2.out)).trans P2.out, P3.out.alloc P3.out.size _, by simp; omega⟩
open Go.RowKit Go.KP Go.KI Go.Shelf Go.Maps
attribute [local go_sem] Oper.semAt_some

abbrev smCs (x : Sm) : List Value := [.int .i8 x.1.x, .int .i8 x.1.y, .int .i8 x.1.z, .int .i8 x.2.x, .int .i8 x.2.y, .int .i8 x.2.z]
abbrev smO (x : Sm) : Obj := .cells #[.int .i8 x.1.x, .int .i8 x.1.y, .int .i8 x.1.z, .int .i8 x.2.x, .int .i8 x.2.y, .int .i8 x.2.z] 54
def SmallsAt (w : World) (A : Option Addr) (X : List Sm) : Prop := ∀ k, k < X.length → ∃ b o, A = some ⟨b, o, none⟩ ∧ b < w.heap.size ∧ ∀ j u, (smCs (X.getD k sm0))[j]? = some u → w.cell? ⟨b, o + k * 6 + j, none⟩ = some u
def BytesAt (w : World) (A : Option Addr) (K : List Nat) : Prop := ∀ k, k < K.length → ∃ b o, A = some ⟨b, o, none⟩ ∧ b < w.heap.size ∧ w.cell? ⟨b, o + k, none⟩ = some (.int .u8 (K.getD k 0 : Nat))
theorem map_stay {H : Type} {w w2 : World} {k : TypeId} {R : Value → Option (DataW H × List MemPlace)} {b n : Nat} {D : DataW H} (h : w.ownsMap Tryz.prog k R b n D) (hb : w2.heap[b]? = w.heap[b]?) : w2.ownsMap Tryz.prog k R b n D := by
  obtain ⟨es, clock, h1, h2⟩ := h
  exact ⟨es, clock, hb.trans h1, h2⟩
theorem law3 : Keyed Tryz.prog 3 := int_keyed Tryz.underlying3
theorem zero3 (w : World) : (zeroValue 3).run Tryz.prog w = .ok (.int .i64 0) w := by kernel_rfl
theorem info30 : (Tryz.prog.info? 30).map (fun i => (i.zero, i.size, i.bytes)) = some (some (lnV ln0), 9, 120) := by kernel_rfl
theorem info59 : (Tryz.prog.info? 59).map (fun i => (i.zero, i.size, i.bytes)) = some (some (.agg #[.int .i64 0, .int .i64 0, .int .i64 0]), 3, 24) := by kernel_rfl
theorem step_append_row {P : Program} {w : World} {ops : Array Oper} {o : Oper} {a : Act} {Kt : Act → World → Prop} {Q : Exit → Act → World → Prop} {E : Prop} (hgd : o.guard = none) (s x : Operand) (t : TypeId)
    (ho : o.op = .call { callee := .builtin .append, args := #[s, x], argTypes := #[t, t] })
    (base : Nat) (e : TypeId) (i : TypeInfo) (z : Value) (size bytes : Nat) (ht : P.underlying t = some (.slice e)) (hi : P.info? e = some i) (hz : i.zero = some z)
    (hsize : i.size = size) (hby : i.bytes = bytes) (hzs : z.cells.size = size) (hsz : 0 < size)
    (v : Value) (n : Nat) (xs : List Value) (hs : a.eval s = v) (hown : w.ownsRow base e size v n xs)
    (b2 : Nat) (e2 : TypeId) (xv : Value) (m : Nat) (news : List Value) (hx : a.eval x = xv) (hxo : w.ownsRow b2 e2 size xv m news) (h1 : ∀ u ∈ news, u.oneCell' = true)
    (h63 : n + m ≤ maxLen) (hbytes : (n + m) * bytes ≤ 140737488355328) (hbase : base ≤ w.heap.size)
    (h : ∀ v' w', w'.ownsRow base e size v' (n + m) (xs ++ news) → w.grownBy w' v.ownBlock → Kt (a.put o.dst v') w') :
    if Region.wanted o (yielded ops a.tmps) = true then Oper.wp P o a w Kt Q else E := by
  have hw : Region.wanted o (yielded ops a.tmps) = true := by simp [Region.wanted, hgd]
  rw [if_pos hw]
  rcases hxo.2 with ⟨rfl, rfl⟩ | ⟨g, cap, cur, rfl, _, hg, h4, _, h6, h7⟩
  · have hn : news = [] := List.eq_nil_of_length_eq_zero (by simpa using hxo.1)
    subst hn
    have hrun := run_append_owned_none (P := P) (w := w) base t o.type e i size ht hi v n xs hown
    unfold Oper.wp
    simp [execOp, ho, resolve, invoke, builtin, hs, hx, hrun, Result.andThen]
    exact h v w (by simpa using hown) (World.grownBy.refl w _)
  · refine wp_append_own w s x t ho base e i z size bytes ht hi hz hsize hby hzs hsz v n xs hs hown ⟨g, 0, none⟩ m cap news hx hxo.1 (fun j u hu => ?_) h1 h63 hbytes hbase fun v' w' h2 h3 _ => h v' w' h2 h3
    exact hxo.cells (g := g) rfl j u hu
abbrev roof1 (v : Value) : Obj := .cells #[.slice none 0 0, .slice none 0 0, .slice none 0 0, v] 45
def St1 (X : List Sm) (K : List Nat) (w : World) (k : Nat) (wr : World) : Prop := ∃ v, ∃ D : DataW Unit, wr.heap[w.heap.size]? = some (roof1 v) ∧
  wr.ownsRow (w.heap.size + 2) 30 9 v k (lcells (linesOf (X.take k) (K.take k))) ∧ wr.ownsMap Tryz.prog 3 (plainElem Tryz.prog 3) (w.heap.size + 1) k D ∧ CountsAs D (K.take k) ∧ Below w.heap.size w wr ∧ w.heap.size + 2 ≤ wr.heap.size
theorem st1_start (X : List Sm) (K : List Nat) (w : World) : St1 X K w 0 ((w.alloc (roof1 (.slice none 0 0))).alloc (.map #[] 0)) := by
  obtain ⟨h0, h1, h2, h3⟩ := heap2 w (roof1 (.slice none 0 0)) (.map #[] 0)
  have hm := World.ownsMap_made (H := Unit) (w.alloc (roof1 (.slice none 0 0))) Tryz.prog 3 (plainElem Tryz.prog 3)
  rw [World.size_alloc] at hm
  exact ⟨_, _, h0, World.ownsRow_nil _ _ _ _, hm, counts_none, h3, by simp⟩
def AllQ (W : World) (Q : List Mb) (n : Nat) (e : Ending) (w2 : World) : Prop :=
  ∃ a c, e = .returned (.tuple #[.slice a n c, .int .i64 0]) ∧ SlAt w2.heap.size w2 11 (.slice a n c) n (mcells Q) ∧ Below W.heap.size W w2
theorem allQ_of {W w2 : World} {S : List Sz3} {L : List Ln} {e : Ending} {Q : List Mb} {n : Nat} (h : AllAt W S L e w2) (he : allE S L = 0) (hx : allX S L = Q) (hn : Q.length = n) : AllQ W Q n e w2 := by
  obtain ⟨v, rfl, hs, hb⟩ := h
  rw [hx, hn] at hs
  rw [he]
  have hv : ∃ a c, v = .slice a n c := by
    rcases hs.2 with ⟨a, c, h1, h2⟩ | ⟨b, o, cap, h1, _⟩
    · exact ⟨a, c, by rw [h1, h2]⟩
    · exact ⟨_, _, h1⟩
  obtain ⟨a, c, rfl⟩ := hv
  exact ⟨a, c, rfl, hs, hb⟩
theorem mx3 (w : World) : (Builtin.max_ #[33, 33, 33] 33 #[.int .i64 0, .int .i64 0, .int .i64 0]).run Tryz.prog w = .ok (.int .i64 0) w := by kernel_rfl
theorem own_one (w : World) : (w.alloc (szO szC)).drew.ownsRow w.heap.size 59 3 (.slice (some ⟨w.heap.size, 0, none⟩) 1 1) 1 (scells [szC]) :=
  ⟨rfl, .inr ⟨w.heap.size, 1, _, rfl, Nat.le_refl _, heap_alloc_new w _, Nat.le_refl _, by decide, rfl, rfl⟩⟩
def flJ (h v r : Bool) : Nat → Bool
  | 0 => h
  | 1 => v
  | _ => r
def mkJ : Nat → Int
  | 0 => 6
  | 1 => 7
  | _ => 8
def lkJ : Nat → Int
  | 0 => 2
  | 1 => 3
  | _ => 1
def szJ (h v r : Bool) : Nat → List Sz3
  | 0 => []
  | j + 1 => szJ h v r j ++ (if flJ h v r j then [(mkJ j, 50 + lkJ j, 200)] else [])
def wantJ (h v r : Bool) (K : List Nat) : Nat → Nat
  | 0 => 0
  | j + 1 => wantJ h v r K j + (if flJ h v r j then cntK K (lkJ j) else 0)
theorem szJ_end : ∀ h v r : Bool, szJ h v r 3 = szOf h v r := by decide
theorem wantJ_end (h v r : Bool) (K : List Nat) : wantJ h v r K 3 = wantN h v r K := by
  show 0 + (if h then cntK K 2 else 0) + (if v then cntK K 3 else 0) + (if r then cntK K 1 else 0) = wantN h v r K
  unfold wantN
  omega
theorem szJ_yes {h v r : Bool} {j : Nat} (hf : flJ h v r j = true) : szJ h v r (j + 1) = szJ h v r j ++ [(mkJ j, 50 + lkJ j, 200)] := by
  show szJ h v r j ++ (if flJ h v r j then [(mkJ j, 50 + lkJ j, 200)] else []) = _
  rw [hf]; rfl
theorem szJ_no {h v r : Bool} {j : Nat} (hf : flJ h v r j = false) : szJ h v r (j + 1) = szJ h v r j := by
  show szJ h v r j ++ (if flJ h v r j then [(mkJ j, 50 + lkJ j, 200)] else []) = _
  rw [hf]; simp
theorem wantJ_yes {h v r : Bool} {K : List Nat} {j : Nat} (hf : flJ h v r j = true) : wantJ h v r K (j + 1) = wantJ h v r K j + cntK K (lkJ j) := by
  show wantJ h v r K j + (if flJ h v r j then cntK K (lkJ j) else 0) = _
  rw [hf]; rfl
theorem wantJ_no {h v r : Bool} {K : List Nat} {j : Nat} (hf : flJ h v r j = false) : wantJ h v r K (j + 1) = wantJ h v r K j := by
  show wantJ h v r K j + (if flJ h v r j then cntK K (lkJ j) else 0) = _
  rw [hf]; rfl
abbrev litO (h v r : Bool) : Obj := .cells #[.bool h, .int .i64 6, .int .i64 2, .bool v, .int .i64 7, .int .i64 3, .bool r, .int .i64 8, .int .i64 1] 56
theorem lit_cells {w : World} {b : Nat} {h v r : Bool} (hb : w.heap[b]? = some (litO h v r)) : ∀ j, j < 3 → w.cell? ⟨b, j * 3, none⟩ = some (.bool (flJ h v r j)) ∧ w.cell? ⟨b, j * 3 + 1, none⟩ = some (.int .i64 (mkJ j)) ∧ w.cell? ⟨b, j * 3 + 2, none⟩ = some (.int .i64 (lkJ j)) := by
  intro j hj
  have c := fun o => cell_blk hb o
  rcases (show j = 0 ∨ j = 1 ∨ j = 2 by omega) with rfl | rfl | rfl
  · exact ⟨c 0, c 1, c 2⟩
  · exact ⟨c 3, c 4, c 5⟩
  · exact ⟨c 6, c 7, c 8⟩
theorem lkJ_in (j : Nat) : 1 ≤ lkJ j ∧ lkJ j ≤ 3 := by
  unfold lkJ
  split <;> omega
def St2 (h v r : Bool) (K : List Nat) (W5 : World) (j sl wl : Nat) (sv : Value) (wr : World) : Prop :=
  sl = (szJ h v r j).length ∧ wl = wantJ h v r K j ∧ wr.ownsRow W5.heap.size 59 3 sv sl (scells (szJ h v r j)) ∧ Below W5.heap.size W5 wr
theorem lawSizes_any (X : List Sm) (K : List Nat) (hp vl rg : Bool) (A : Option Addr) (c : Nat) (A2 : Option Addr) (c2 : Nat) (B : Nat) (w : World) (hB : B ≤ w.heap.size) (hT : PQ B w)
    (hx : X.length ≤ 9223372036854775807) (hk : K.length ≤ 9223372036854775807) (hs : ∀ x ∈ X, smallS x) (hc : SmallsAt w A X) (hc2 : BytesAt w A2 K) (hk2 : ∀ b ∈ K, b < 256) :
    Calls Tryz.prog 4 #[.slice A X.length c, .slice A2 K.length c2, .bool hp, .bool vl, .bool rg] w (Ret w (.bool true)) := by
  have HT := hide hT
  have HAW := hide (fun w hB hT => hawake_any B w hB hT)
  have HC := hide hc; have HC2 := hide hc2; have HSM := hide hs; have HK2 := hide hk2
  obtain ⟨n, hn⟩ : ∃ n, n = X.length := ⟨_, rfl⟩
  obtain ⟨m, hm⟩ : ∃ m, m = K.length := ⟨_, rfl⟩
  have HN := hide hn; have HM := hide hm
  rw [← hn, ← hm]
  rw [← hn] at hx
  rw [← hm] at hk
  clear hT hc hc2 hs hk2 hn hm
  by_cases h8 : n ≤ 8
  rotate_left
  · have g : (8 : Int) < (n : Int) := by omega
    clear h8
    go_enter Tryz.func4, Tryz.ntmps4
    go_wp2_with fail
    refine (HAW.out _ hB HT.out).mono ?_
    rintro e w2 ⟨rfl, hb2⟩
    have HB2 := hide hb2
    clear hb2
    go_wp2_with fail
    go_ret
    exact ⟨rfl, HB2.out⟩
  have g : ((8 : Int) < (n : Int)) = False := eq_false (by omega)
  by_cases hnm : m = n
  rotate_left
  · have g1 : ((m : Int) == (n : Int)) = false := beq_false_of_ne (by omega)
    have g2 : ((m : Int) != (n : Int)) = true := by simp only [bne, g1]; rfl
    clear hnm
    go_enter Tryz.func4, Tryz.ntmps4
    go_wp2_with fail
    refine (HAW.out _ hB HT.out).mono ?_
    rintro e w2 ⟨rfl, hb2⟩
    have HB2 := hide hb2
    clear hb2
    go_wp2_with fail
    go_ret
    exact ⟨rfl, HB2.out⟩
  subst hnm
  have g1 : ((m : Int) == (m : Int)) = true := beq_self_eq_true _
  have g2 : ((m : Int) != (m : Int)) = false := by simp only [bne, g1]; rfl
  have hmm := @run_makeMap Tryz.prog
  go_enter Tryz.func4, Tryz.ntmps4
  go_wp2_with fail
  clear g g1 g2 hmm
  have HST := hide (st1_start X K w)
  obtain ⟨i0, hi0, hz0, hz1, hz2⟩ := info_parts info30
  go_loopw [43] (fun i wr => ∃ k : Nat, k ≤ m ∧ i = .int .i64 k ∧ Hid (St1 X K w k wr)) (fun i _ => m - (intOf i).toNat)
  case atStart => exact ⟨0, Nat.zero_le _, rfl, HST⟩
  case round =>
    obtain ⟨k, hk, rfl, hst⟩ := hrel
    obtain ⟨v, D, e0, hown, hmap, hcnt, hb, hsz⟩ := hst.out
    clear hst
    obtain ⟨va, vc, rfl⟩ := owns_form hown
    by_cases hlt : k < m
    · have hki : (k : Int) < (m : Int) := by omega
      have hkX : k < X.length := by have := HN.out; omega
      have hkK : k < K.length := by have := HM.out; omega
      obtain ⟨b, o, rfl, hbl, hcell⟩ := HC.out k hkX
      obtain ⟨b', o', rfl, hbl', hbyte⟩ := HC2.out k hkK
      have hxs := HSM.out (X.getD k sm0) (by simp only [List.getD_eq_getElem?_getD, List.getElem?_eq_getElem hkX, Option.getD_some]; exact List.getElem_mem hkX)
      have hbs := HK2.out (K.getD k 0) (by simp only [List.getD_eq_getElem?_getD, List.getElem?_eq_getElem hkK, Option.getD_some]; exact List.getElem_mem hkK)
      have HLS := hide (linesOf_snoc hkX hkK)
      have HCS := hide (counts_step hcnt hkK)
      have HCN := hide hcnt
      obtain ⟨x, hx⟩ : ∃ x, x = X.getD k sm0 := ⟨_, rfl⟩
      obtain ⟨y, hy⟩ : ∃ y, y = K.getD k 0 := ⟨_, rfl⟩
      rw [← hx] at hcell hxs HLS
      rw [← hy] at hbyte hbs HLS HCS
      obtain ⟨kq, hkq⟩ : ∃ q, q = y % 8 := ⟨_, rfl⟩
      have eK : (y : Int) % 8 = (kq : Int) := by omega
      have i1 : (kq : Int) ≤ 7 := by omega
      have j1 : (0 : Int) ≤ (kq : Int) := by omega
      have q1 : (y : Int) ≤ 255 := by omega
      have q6 : (0 : Int) ≤ (y : Int) := by omega
      have HKB := hide (show kindB y = (kq : Int) + 1 by unfold kindB; omega)
      rw [HKB.out] at HCS
      obtain ⟨cq, hcq⟩ : ∃ q, q = cntK (K.take k) ((kq : Int) + 1) := ⟨_, rfl⟩
      have hcq8 : cq ≤ 8 := by rw [hcq]; have := cntK_le (K.take k) ((kq : Int) + 1); rw [List.length_take] at this; omega
      rw [← hcq] at HCS
      have HCQ := hide (show ∀ q : Int, D.atKey (.int .i64 ((kq : Int) + 1)) (.lit (.int .i64 0)) = .lit (.int .i64 q) → q = (cq : Int) from fun q hq => by
        have h := hq.symm.trans (hcnt.2 ((kq : Int) + 1))
        rw [← hcq] at h
        injection h with h
        injection h)
      have hcell := fun j u (h : (smCs x)[j]? = some u) => (hb.cell (p := ⟨b, o + k * 6 + j, none⟩) hbl).trans (hcell j u h)
      have r0 : wr.cell? ⟨b, o + k * 6, none⟩ = some (.int .i8 x.1.x) := hcell 0 _ rfl
      have r1 : wr.cell? ⟨b, o + k * 6 + 1, none⟩ = some (.int .i8 x.1.y) := hcell 1 _ rfl
      have r2 : wr.cell? ⟨b, o + k * 6 + 2, none⟩ = some (.int .i8 x.1.z) := hcell 2 _ rfl
      have r3 : wr.cell? ⟨b, o + k * 6 + 3, none⟩ = some (.int .i8 x.2.x) := hcell 3 _ rfl
      have r4 : wr.cell? ⟨b, o + k * 6 + 4, none⟩ = some (.int .i8 x.2.y) := hcell 4 _ rfl
      have r5 : wr.cell? ⟨b, o + k * 6 + 5, none⟩ = some (.int .i8 x.2.z) := hcell 5 _ rfl
      have X1 := hide (heap1 wr (smO x))
      have HB1 := hide (hb.trans (X1.out.2.2.mono hb.size))
      have HOF := hide (lof_to hxs.1 hxs.2 B)
      have HLN := hide (show lnCs (lineOf x y) = [.int .i64 ((kq : Int) + 1), .string (T (v3 x.1).x), .string (T (v3 x.1).y), .string (T (v3 x.1).z), .string (T (v3 (moved x.1 x.2)).x), .string (T (v3 (moved x.1 x.2)).y), .string (T (v3 (moved x.1 x.2)).z), .int .i64 2, .int .i64 1] by
        unfold lineOf lnCs
        rw [HKB.out])
      obtain ⟨AA, hAA⟩ : ∃ A, A = v3 x.1 := ⟨_, rfl⟩
      obtain ⟨CC, hCC⟩ : ∃ A, A = v3 (moved x.1 x.2) := ⟨_, rfl⟩
      rw [← hAA, ← hCC] at HOF HLN
      have r6 := (hb.cell (p := ⟨b', o' + k, none⟩) hbl').trans hbyte
      have HBY := hide r6
      have E0 := hide e0; have HOW := hide hown; have HMP := hide hmap; have HB := hide hb
      have hl6 := Nat.lt_of_lt_of_le hbl' hb.size
      clear hcq hcell hx hy hkq hbs hxs hAA hCC hbyte r6 e0 hown hmap hcnt hb hkX hkK
      go_wp2_with fail
      refine (HOF.out _ (Nat.le_trans hB HB1.out.size) (HT.out.on HB1.out hB)).mono ?_
      rintro e w1 ⟨rfl, hb1⟩
      have hb1 := X1.out.2.2.trans (hb1.mono X1.out.2.2.size)
      have E1 := hide (below_blk hb1 E0.out (lt_blk E0.out))
      have OW1 := hide (owns_stay HOW.out (fun r hr => hb1.block r (HOW.out.lt r hr).2))
      have MP1 := hide (map_stay HMP.out (hb1.block _ HMP.out.lt))
      have HBw := hide (HB.out.trans (hb1.mono HB.out.size))
      have c6 := (hb1.cell (p := ⟨b', o' + k, none⟩) hl6).trans HBY.out
      have l6 := Nat.lt_of_lt_of_le hl6 hb1.size
      have hs1 : wr.heap.size ≤ w1.heap.size := hb1.size
      have k3 := cell_blk E1.out 3
      have f3 := froz_blk E1.out 3
      have le1 := lt_blk E1.out
      have Y := hide (heap2 w1 (memO 6 1 0 AA CC 80 220) (.cells #[.int .i64 ((kq : Int) + 1), .string (T AA.x), .string (T AA.y), .string (T AA.z), .string (T CC.x), .string (T CC.y), .string (T CC.z), .int .i64 2, .int .i64 1] 30))
      clear hb1 r0 r1 r2 r3 r4 r5 X1 HB1 E0 HOW HMP HB HBY HOF hl6
      go_wp2_with (first
        | (at_builtin; go_must (refine wpList_append_own _ rfl (.tmp 58) (.tmp 65) 22 rfl (w.heap.size + 2) 30 i0 _ 9 120 Tryz.underlying22 hi0 hz0 hz1 hz2 rfl (by decide) (.slice va k vc) k _ rfl ((OW1.out.alloc _).alloc _) ⟨w1.heap.size + 1, 0, none⟩ 1 1 [.int .i64 ((kq : Int) + 1), .string (T AA.x), .string (T AA.y), .string (T AA.z), .string (T CC.x), .string (T CC.y), .string (T CC.z), .int .i64 2, .int .i64 1] rfl rfl (World.news_of_block Y.out.2.1) (by simp [Value.oneCell']) (by simp only [maxLen]; omega) (by omega) (by simp; omega) ?_); intro v1 w5 hown hg1 hiff; clear hiff; obtain ⟨a6, c6, hv6⟩ := owns_form hown; subst hv6; have HOW5 := hide hown; have HGR := hide hg1; have hblk := fun b (hb : b < w.heap.size + 2) => ((hg1.block b (by simp; omega) (owns_ne OW1.out hb)).trans (Below.heap_alloc _ _ _ (by simp; omega))).trans (Below.heap_alloc _ _ _ (show b < w1.heap.size by omega)); have k5 := (World.cell?_of_block (a := ⟨w.heap.size, 3, none⟩) (hblk _ (by simp))).trans k3; have f5 := (World.frozen?_of_block (a := ⟨w.heap.size, 3, none⟩) (hblk _ (by simp))).trans f3; have E5 := hide ((hblk w.heap.size (by omega)).trans E1.out); have MP5 := hide (map_stay (w2 := w5.setCell ⟨w.heap.size, 3, none⟩ (.slice a6 (k + 1) c6)) MP1.out ((Below.heap_setCell _ _ _ _ (by simp)).trans (hblk _ (by omega)))); clear hown hg1 hblk)
        | (at_lookup; refine wpList_lookup_own_int _ rfl _ _ 50 rfl 3 3 .i64 law3 Tryz.underlying50 Tryz.underlying3 (zero3 _) (w.heap.size + 1) k _ rfl MP5.out _ _ rfl (keyOf_int_mk Tryz.underlying3 (WalkArith.wf_i64 (by omega))) ?_; intro q hat hwc; obtain rfl := HCQ.out q hat; clear hat hwc)
        | (at_mapUpdate; refine wpList_mapUpdate_own _ rfl _ _ _ 50 rfl 3 3 law3 Tryz.underlying50 _ (w.heap.size + 1) k _ rfl MP5.out (by unfold maxLen; omega) _ _ _ rfl rfl (keyOf_int_mk Tryz.underlying3 (WalkArith.wf_i64 (by omega))) _ [] (plainElem_int Tryz.underlying3 (WalkArith.wf_i64 (by omega))) ?_; intro w7 hown7 hgr7; have HO7 := hide hown7; have HG7 := hide hgr7; clear hown7 hgr7)
        | fail)
      go_roundw
      case rel =>
        refine ⟨k + 1, by omega, by go_num, hide ⟨.slice a6 (k + 1) c6, _, ?_, ?_, HO7.out, HCS.out, ?_, ?_⟩⟩
        · exact (HG7.out.block _ (by have := lt_blk E5.out; simp [World.setCell]; omega) (by simp)).trans (set_at (i := 3) E5.out)
        · rw [HLS.out, lcells_snoc, HLN.out]
          exact owns_stay HOW5.out (fun r hr => (HG7.out.block r (by have := (HOW5.out.lt r hr).2; simpa [World.setCell] using this) (by have := (HOW5.out.lt r hr).1; simp; omega)).trans (Below.heap_setCell _ _ _ _ (by have := (HOW5.out.lt r hr).1; simp; omega)))
        · exact ((((HBw.out.alloc HBw.out.size _).alloc (HBw.out.alloc HBw.out.size _).size _).grown HGR.out (by have := HBw.out.size; simp; omega) (owns_ge OW1.out (by omega))).setCell (p := ⟨w.heap.size, 3, none⟩) (by simp) _).grown HG7.out (by have := lt_blk E5.out; simp [World.setCell]; omega) (fun j hj => by cases hj; exact Nat.le_succ _)
        · have h1 := HG7.out.size
          have h2 := HGR.out.size
          simp [World.setCell] at h1 h2
          omega
      case measure => simp [intOf]; omega
    · have hki : ((k : Int) < (m : Int)) = False := eq_false (by omega)
      have hkX : X.length ≤ k := by have := HN.out; omega
      have hkK : K.length ≤ k := by have := HM.out; omega
      rw [List.take_of_length_le hkX, List.take_of_length_le hkK] at hown
      rw [List.take_of_length_le hkK] at hcnt
      have HXK := hide (show X.length = K.length by rw [← HN.out, HM.out])
      have hkm : k ≤ 8 := by omega
      have HLK := hide (show (linesOf X K).length = k by rw [linesOf_len HXK.out]; have := HM.out; omega)
      obtain ⟨wo, rfl⟩ : ∃ wo, wo = wr := ⟨_, rfl⟩
      obtain ⟨W5, hW5⟩ : ∃ W5, W5 = wo.alloc (litO hp vl rg) := ⟨_, rfl⟩
      have HX5 := hide (heap1 wo (litO hp vl rg))
      rw [← hW5] at HX5
      have HCE := hide (lit_cells HX5.out.1)
      obtain ⟨D5, hD5⟩ : ∃ D5, D5 = wo.heap.size := ⟨_, rfl⟩
      have HD5 := hide (show W5.heap.size = D5 + 1 by rw [hW5, hD5]; simp)
      have HE5 := hide (below_blk HX5.out.2.2 e0 (lt_blk e0))
      have HO5 := hide (owns_stay hown (fun r hr => HX5.out.2.2.block r (hown.lt r hr).2))
      have HP5 := hide (map_stay hmap (HX5.out.2.2.block _ hmap.lt))
      have HB5 := hide (hb.trans (HX5.out.2.2.mono hb.size))
      have hs5 : w.heap.size + 2 ≤ W5.heap.size := Nat.le_trans hsz HX5.out.2.2.size
      have HCN := hide hcnt
      rw [← hD5] at HCE
      have HS20 := hide (show St2 hp vl rg K W5 0 0 0 (.slice none 0 0) W5 from ⟨rfl, rfl, World.ownsRow_nil _ _ _ _, Below.refl _ _⟩)
      obtain ⟨i9, hi9, hz90, hz91, hz92⟩ := info_parts info59
      clear hlt hkX hkK e0 hown hmap hcnt hb hsz HX5
      go_wp2_with fail
      rw [← hW5, ← hD5]
      clear hW5 hD5 hki
      go_loopw [17, 18, 81] (fun sv wv i wr => ∃ (j sl wl cc : Nat) (va2 : Option Addr), j ≤ 3 ∧ sl ≤ j ∧ wl ≤ 8 * j ∧ i = .int .i64 j ∧ sv = .slice va2 sl cc ∧ wv = .int .i64 wl ∧ Hid (St2 hp vl rg K W5 j sl wl (.slice va2 sl cc) wr)) (fun _ _ i _ => 3 - (intOf i).toNat)
      case atStart => exact ⟨0, 0, 0, 0, none, by omega, by omega, by omega, rfl, rfl, rfl, HS20⟩
      case round =>
        obtain ⟨j, sl, wl, cc, va2, hj, hsl, hwl, rfl, rfl, rfl, hst⟩ := hrel
        by_cases hjl : j < 3
        · have hji : (j : Int) < 3 := by omega
          obtain ⟨hs1, hw1, hown, hb⟩ := hst.out
          obtain ⟨r0, r1, r2⟩ := HCE.out j hjl
          have hD : D5 < W5.heap.size := by have := HD5.out; omega
          have r0 := (hb.cell (p := ⟨D5, j * 3, none⟩) hD).trans r0
          have r1 := (hb.cell (p := ⟨D5, j * 3 + 1, none⟩) hD).trans r1
          have r2 := (hb.cell (p := ⟨D5, j * 3 + 2, none⟩) hD).trans r2
          have HF1 := hide (fun h => szJ_yes (h := hp) (v := vl) (r := rg) (j := j) h)
          have HF0 := hide (fun h => szJ_no (h := hp) (v := vl) (r := rg) (j := j) h)
          have HW1 := hide (fun h => wantJ_yes (h := hp) (v := vl) (r := rg) (K := K) (j := j) h)
          have HW0 := hide (fun h => wantJ_no (h := hp) (v := vl) (r := rg) (K := K) (j := j) h)
          have hlk := lkJ_in j
          obtain ⟨fl, hfl⟩ : ∃ x, x = flJ hp vl rg j := ⟨_, rfl⟩
          obtain ⟨mk, hmk⟩ : ∃ x, x = mkJ j := ⟨_, rfl⟩
          obtain ⟨lk, hlkk⟩ : ∃ x, x = lkJ j := ⟨_, rfl⟩
          rw [← hfl] at r0 HF1 HF0 HW1 HW0
          rw [← hmk] at r1 HF1
          rw [← hlkk] at r2 hlk HF1 HW1
          have HST := hide hst.out
          clear hst hs1 hw1 hfl hmk hlkk
          obtain ⟨k1, k2⟩ := hlk
          have HB := hide hb
          have HOW := hide hown
          have HMW := hide (fun W' (h : Below W5.heap.size W5 W') => map_stay HP5.out (h.block _ HP5.out.lt))
          clear hb hown hD
          cases fl
          · clear HF1 HW1
            go_wp2_with fail
            go_roundw
            case rel =>
              refine ⟨j + 1, sl, wl, cc, va2, by omega, by omega, by omega, by go_num, rfl, rfl, hide ?_⟩
              obtain ⟨h1, h2, h3, h4⟩ := HST.out
              refine ⟨by rw [HF0.out rfl]; exact h1, by rw [HW0.out rfl]; exact h2, ?_, h4.alloc h4.size _⟩
              rw [HF0.out rfl]
              exact h3.alloc _
            case measure => simp [intOf]; omega
          · obtain ⟨cq, hcq⟩ : ∃ q, q = cntK K lk := ⟨_, rfl⟩
            have hcq8 : cq ≤ 8 := by rw [hcq]; have := cntK_le K lk; have := HM.out; omega
            have HCQ := hide (show ∀ q : Int, D.atKey (.int .i64 lk) (.lit (.int .i64 0)) = .lit (.int .i64 q) → q = (cq : Int) from fun q hq => by
              have h := hq.symm.trans (HCN.out.2 lk)
              rw [← hcq] at h
              injection h with h
              injection h)
            rw [← hcq] at HW1
            have Y := hide (heap2 wr (.cells #[.bool true, .int .i64 mk, .int .i64 lk] 56) (.cells #[.int .i64 mk, .int .i64 (50 + lk), .int .i64 200] 59))
            clear hcq HF0 HW0
            go_wp2_with (first
              | (at_builtin; go_must (refine wpList_append_own _ rfl (.tmp 87) (.tmp 94) 23 rfl W5.heap.size 59 i9 _ 3 24 Tryz.underlying23 hi9 hz90 hz91 hz92 rfl (by decide) (.slice va2 sl cc) sl _ rfl ((HOW.out.alloc _).alloc _) ⟨wr.heap.size + 1, 0, none⟩ 1 1 [.int .i64 mk, .int .i64 (50 + lk), .int .i64 200] rfl rfl (World.news_of_block Y.out.2.1) (by simp [Value.oneCell']) (by simp only [maxLen]; omega) (by omega) (by have := HB.out.size; simp; omega) ?_); intro v1 w7 hown hg1 hiff; clear hiff; obtain ⟨a6, c6, hv6⟩ := owns_form hown; subst hv6; have HOW7 := hide hown; have HB7 := hide (((HB.out.alloc HB.out.size _).alloc (HB.out.alloc HB.out.size _).size _).grown hg1 (by have := HB.out.size; simp; omega) (owns_ge HOW.out (Nat.le_refl _))); have MP7 := hide (HMW.out w7 HB7.out); have hx7 := (hg1.block wr.heap.size (by simp; omega) (fun e => by have := (HOW.out.lt _ e.symm).2; omega)).trans Y.out.1; have k7 := cell_blk hx7 2; have l7 := lt_blk hx7; clear hown hg1 hx7)
              | (at_lookup; refine wpList_lookup_own_int _ rfl _ _ 50 rfl 3 3 .i64 law3 Tryz.underlying50 Tryz.underlying3 (zero3 _) (w.heap.size + 1) k _ rfl MP7.out _ _ rfl (keyOf_int_mk Tryz.underlying3 (WalkArith.wf_i64 (by omega))) ?_; intro q hat hwc; obtain rfl := HCQ.out q hat; clear hat hwc)
              | fail)
            go_roundw
            case rel =>
              refine ⟨j + 1, sl + 1, wl + cq, c6, a6, by omega, by omega, by omega, by go_num, rfl, by go_num, hide ?_⟩
              obtain ⟨h1, h2, h3, h4⟩ := HST.out
              refine ⟨by rw [HF1.out rfl, List.length_append, h1]; rfl, by rw [HW1.out rfl, h2], ?_, HB7.out⟩
              rw [HF1.out rfl, scells_snoc]
              exact HOW7.out
            case measure => simp [intOf]; omega
        · have hji : ((j : Int) < 3) = False := eq_false (by omega)
          obtain ⟨h1, h2, h3, h4⟩ := hst.out
          rw [show j = 3 by omega, szJ_end] at h1 h3
          rw [show j = 3 by omega, wantJ_end, ← want_len (X := X) HXK.out] at h2
          have HA0 := all_no (linesOf X K)
          have HA1 := all_szOf (K := K) HSM.out hp vl rg
          have HA2 := all_more (K := K) HSM.out hp vl rg
          have HFL := few_lines HXK.out (by have := HM.out; omega) HSM.out
          have HMS := hide (fun mb (h : mb ∈ outL (szOf hp vl rg) (linesOf X K)) => mem_size h)
          have HLI := hide (SlAt.lines (SlAt.of_owns (owns_stay HO5.out (fun r hr => h4.block r (HO5.out.lt r hr).2))) HLK.out (Nat.le_refl _))
          obtain ⟨S, hS⟩ : ∃ S, S = szOf hp vl rg := ⟨_, rfl⟩
          obtain ⟨L, hL⟩ : ∃ L, L = linesOf X K := ⟨_, rfl⟩
          obtain ⟨Q, hQ⟩ : ∃ Q, Q = outL S L := ⟨_, rfl⟩
          rw [← hS] at h1 h2 h3 HA1 HA2 HMS
          rw [← hL] at h2 HA0 HA1 HA2 HFL HMS HLI HLK
          rw [← hQ] at h2 HA1 HA2 HMS
          have HLS := hide (SlAt.sizes (SlAt.of_owns h3) h1.symm (Nat.le_refl _))
          have HZS := hide h1; have HQN := hide h2; have HRS := hide h3
          obtain ⟨vv, vcap, hvv, hcap⟩ := owns_cap h3
          injection hvv with e1 e2 e3
          subst e1; subst e3
          clear e2
          have HBw := hide (HB5.out.trans (h4.mono HB5.out.size))
          have HEw := hide (below_blk h4 HE5.out (lt_blk HE5.out))
          have HC1 := hide (fun W (h : Below wr.heap.size wr W) => (hAll_any va k vc L none 0 0 [] B W (Nat.le_trans hB (HBw.out.trans (h.mono HBw.out.size)).size) (HT.out.on (HBw.out.trans (h.mono HBw.out.size)) hB) HLK.out rfl (by omega) (by omega) (Nat.le_refl _) HFL (HLI.out.on h) (fun k hk => absurd hk (by simp))).mono fun e w2 g => allQ_of g HA0.1 HA0.2 rfl)
          have HC2 := hide (fun W (h : Below wr.heap.size wr W) => (hAll_any va k vc L va2 sl cc S B W (Nat.le_trans hB (HBw.out.trans (h.mono HBw.out.size)).size) (HT.out.on (HBw.out.trans (h.mono HBw.out.size)) hB) HLK.out h1.symm (by omega) (by omega) hcap HFL (HLI.out.on h) (HLS.out.on h)).mono fun e w2 g => allQ_of g HA1.1 HA1.2 h2.symm)
          have HC3 := hide (fun a cc (hcc : 1 + sl ≤ cc) W (h : Below wr.heap.size wr W) (hsz : SizesAt W a (szC :: S)) => (hAll_any va k vc L a (1 + sl) cc (szC :: S) B W (Nat.le_trans hB (HBw.out.trans (h.mono HBw.out.size)).size) (HT.out.on (HBw.out.trans (h.mono HBw.out.size)) hB) HLK.out (by rw [List.length_cons, ← h1]; omega) (by omega) (by omega) hcc HFL (HLI.out.on h) hsz).mono fun e w2 g => allQ_of g HA2.1 HA2.2 h2.symm)
          have hc := fun o => cell_blk HEw.out o
          have hl := lt_blk HEw.out
          clear hst h1 h2 h3 h4 HA0 HA1 HA2 HFL hS hL hQ
          go_wp2_with fail
          refine (HC1.out _ (Below.refl _ _)).mono ?_
          rintro e w1 ⟨u1, d1, rfl, hs1, hb1⟩
          have HB1 := hide hb1
          have HE1 := hide (below_blk hb1 HEw.out (lt_blk HEw.out))
          clear hb1 hc hl hs1
          have hc := fun o => cell_blk HE1.out o
          have hl := lt_blk HE1.out
          go_wp2_with fail
          refine (HC2.out _ HB1.out).mono ?_
          rintro e w2 ⟨u2, d2, rfl, hs2, hb2⟩
          have HB2 := hide (HB1.out.trans (hb2.mono HB1.out.size))
          have HE2 := hide (below_blk hb2 HE1.out (lt_blk HE1.out))
          have HS2 := hide hs2
          clear hb2 hc hl hs2
          have hc := fun o => cell_blk HE2.out o
          have hl := lt_blk HE2.out
          go_wp2_with fail
          have HDW := hide (Below.drew ((Below.refl w2.heap.size w2).alloc (Nat.le_refl _) (szO szC)))
          have HOE := hide (own_one w2)
          have HOS := hide (show (w2.alloc (szO szC)).drew.ownsRow W5.heap.size 59 3 (.slice va2 sl cc) sl (scells S) from owns_stay (owns_stay HRS.out (fun r hr => HB2.out.block r (HRS.out.lt r hr).2)) (fun r hr => HDW.out.block r (Nat.lt_of_lt_of_le (HRS.out.lt r hr).2 HB2.out.size)))
          have KS := hide (show ∀ W, Below w2.heap.size w2 W → W.cell? ⟨w.heap.size, 0, none⟩ = some (.slice none 0 0) ∧ W.cell? ⟨w.heap.size, 1, none⟩ = some (.slice none 0 0) ∧ W.cell? ⟨w.heap.size, 2, none⟩ = some (.slice none 0 0) ∧ W.cell? ⟨w.heap.size, 3, none⟩ = some (.slice va k vc) from fun W h => by
            have c := fun o => cell_blk (below_blk h HE2.out (lt_blk HE2.out)) o
            exact ⟨c 0, c 1, c 2, c 3⟩)
          have hone : ∀ u ∈ scells S, u.oneCell' = true := by
            intro u hu
            unfold scells at hu
            obtain ⟨s, _, h⟩ := List.mem_flatMap.1 hu
            simp only [List.mem_cons, List.not_mem_nil, or_false] at h
            rcases h with rfl | rfl | rfl <;> rfl
          have HONE := hide hone
          clear hone
          go_region_held3 (fun w' => w'.cell? ⟨w.heap.size, 0, none⟩ = some (.slice none 0 0) ∧ w'.cell? ⟨w.heap.size, 1, none⟩ = some (.slice none 0 0) ∧ w'.cell? ⟨w.heap.size, 2, none⟩ = some (.slice none 0 0) ∧ w'.cell? ⟨w.heap.size, 3, none⟩ = some (.slice va k vc)) (first | go_keep | with_reducible exact KS.out _ HB5w.out | with_reducible exact KS.out _ HB6w.out)
            (first
              | (refine step_append_row rfl (.tmp 117) (.tmp 118) 23 rfl w2.heap.size 59 i9 _ 3 24 Tryz.underlying23 hi9 hz90 hz91 hz92 rfl (by decide) (.slice (some ⟨w2.heap.size, 0, none⟩) 1 1) 1 _ rfl HOE.out W5.heap.size 59 (.slice va2 sl cc) sl (scells S) rfl HOS.out HONE.out (by simp only [maxLen]; omega) (by omega) (by simp [World.drew]) ?_
                 intro v5 w5 hown5 hg5
                 obtain ⟨va5, vc5, hv5, hcap5⟩ := owns_cap hown5
                 subst hv5
                 have HB5w := hide (HDW.out.grown hg5 HDW.out.size (fun j hj => by cases hj; exact Nat.le_refl _))
                 have HSZ5 := hide (SlAt.sizes (S := szC :: S) (SlAt.of_owns (show w5.ownsRow w2.heap.size 59 3 (.slice va5 (1 + sl) vc5) (1 + sl) (scells (szC :: S)) from hown5)) (by rw [List.length_cons, ← HZS.out]; omega) (Nat.le_refl _))
                 have HCP5 := hide hcap5
                 clear hown5 hg5 hcap5)
              | (go_at_call 10
                 refine (HC3.out va5 vc5 HCP5.out _ (HB2.out.trans (HB5w.out.mono HB2.out.size)) HSZ5.out).mono ?_
                 rintro e w6 ⟨u3, d3, rfl, hs3, hb6⟩
                 have HB6w := hide (HB5w.out.trans (hb6.mono HB5w.out.size))
                 have HS3 := hide hs3
                 clear hs3 hb6))
          have hmx := mx3
          have g1 : ((wl : Int) == (wl : Int)) = true := beq_self_eq_true _
          have g2 : ((wl : Int) != (wl : Int)) = false := by simp only [bne, g1]; rfl
          have HS2w := hide ((HS2.out.below HB6w.out (Nat.le_refl _)).mono HB6w.out.size)
          have hQl : wl ≤ 1000000 := by omega
          have HSM2 := hide (by
            have h := sameMems_any Q (by rw [← HQN.out]; exact hQl) (.slice u2 wl d2) (.slice u3 wl d3) w6.heap.size w6 (Nat.le_refl _) (by rw [← HQN.out]; exact HS2w.out) (by rw [← HQN.out]; exact HS3.out)
            exact h)
          clear HOE HOS KS HONE HSZ5 HCP5 HC1 HC2 HC3 HS3
          go_wp2_with fail
          refine HSM2.out.mono ?_
          rintro e w7 ⟨rfl, hb7⟩
          have HB7 := hide ((HBw.out.trans (HB2.out.mono HBw.out.size)).trans ((HB6w.out.trans (hb7.mono HB6w.out.size)).mono (Nat.le_trans HBw.out.size HB2.out.size)))
          have HLS7 := hide (HLS.out.on (HB2.out.trans ((HB6w.out.trans (hb7.mono HB6w.out.size)).mono HB2.out.size)))
          have HS27 := hide ((HS2w.out.below hb7 (Nat.le_refl _)).mono hb7.size)
          clear hb7 g1 g2 hmx HSM2 HS2w
          go_wp2_with fail
          obtain ⟨wp, hwp⟩ : ∃ wp, wp = wr := ⟨_, rfl⟩
          rw [← hwp] at *
          clear hwp
          go_loopw [147] (fun i wr => ∃ t : Nat, t ≤ wl ∧ i = .int .i64 t ∧ Hid (Below w7.heap.size w7 wr)) (fun i _ => wl - (intOf i).toNat)
          case atStart => exact ⟨0, Nat.zero_le _, rfl, Below.refl _ _⟩
          case round =>
            obtain ⟨s, hs, rfl, hb⟩ := hrel
            by_cases hsw : s < wl
            · have hsi : (s : Int) < (wl : Int) := by omega
              have hsQ : s < Q.length := by rw [← HQN.out]; exact hsw
              obtain ⟨A9, c9, hv9, hA9⟩ := SlAt.mems (l := Q) (w := w7) (v := .slice u2 wl d2) (B := w7.heap.size) (by rw [← HQN.out]; exact HS27.out)
              injection hv9 with e1 e2 e3
              subst e1
              clear e2 e3
              obtain ⟨b9, o9, rfl, hb9, hr⟩ := hA9 s hsQ
              have hmm := HMS.out (Q.getD s mb0) (by simp only [List.getD_eq_getElem?_getD, List.getElem?_eq_getElem hsQ, Option.getD_some]; exact List.getElem_mem hsQ)
              obtain ⟨⟨M, wd, dp⟩, hM⟩ : ∃ x, x = Q.getD s mb0 := ⟨_, rfl⟩
              rw [← hM] at hr hmm
              have HMM := hide hmm
              obtain ⟨kd, hkd⟩ : ∃ x, x = kindP M.k := ⟨_, rfl⟩
              have g9 : ∀ j u, ([.int .i64 kd, .int .i64 M.l, .int .i64 M.r, .string M.a.x, .string M.a.y, .string M.a.z, .string M.b.x, .string M.b.y, .string M.b.z, .int .i64 wd, .int .i64 dp] : List Value)[j]? = some u → wr.cell? ⟨b9, o9 + s * 11 + j, none⟩ = some u := fun j u h => (hb.out.cell (p := ⟨b9, o9 + s * 11 + j, none⟩) hb9).trans (hr j u (by rw [hkd] at h; exact h))
              have p0 : wr.cell? ⟨b9, o9 + s * 11, none⟩ = some (.int .i64 kd) := g9 0 _ rfl
              have p1 : wr.cell? ⟨b9, o9 + s * 11 + 1, none⟩ = some (.int .i64 M.l) := g9 1 _ rfl
              have p2 : wr.cell? ⟨b9, o9 + s * 11 + 2, none⟩ = some (.int .i64 M.r) := g9 2 _ rfl
              have p3 : wr.cell? ⟨b9, o9 + s * 11 + 3, none⟩ = some (.string M.a.x) := g9 3 _ rfl
              have p4 : wr.cell? ⟨b9, o9 + s * 11 + 4, none⟩ = some (.string M.a.y) := g9 4 _ rfl
              have p5 : wr.cell? ⟨b9, o9 + s * 11 + 5, none⟩ = some (.string M.a.z) := g9 5 _ rfl
              have p6 : wr.cell? ⟨b9, o9 + s * 11 + 6, none⟩ = some (.string M.b.x) := g9 6 _ rfl
              have p7 : wr.cell? ⟨b9, o9 + s * 11 + 7, none⟩ = some (.string M.b.y) := g9 7 _ rfl
              have p8 : wr.cell? ⟨b9, o9 + s * 11 + 8, none⟩ = some (.string M.b.z) := g9 8 _ rfl
              have p9 : wr.cell? ⟨b9, o9 + s * 11 + 9, none⟩ = some (.int .i64 wd) := g9 9 _ rfl
              have p10 : wr.cell? ⟨b9, o9 + s * 11 + 10, none⟩ = some (.int .i64 dp) := g9 10 _ rfl
              have X9 := hide (heap1 wr (.cells #[.int .i64 kd, .int .i64 M.l, .int .i64 M.r, .string M.a.x, .string M.a.y, .string M.a.z, .string M.b.x, .string M.b.y, .string M.b.z, .int .i64 wd, .int .i64 dp] 32))
              have HB9 := hide (hb.out.trans (X9.out.2.2.mono hb.out.size))
              have HCT := hide (szContains_any (kd, wd, dp) va2 sl cc S _ HZS.out.symm (by omega) (HLS7.out.on HB9.out) (by rw [hkd]; exact HMM.out))
              clear hr hmm hM hkd g9 hA9 hb9 hsQ HS27
              go_wp2_with fail
              refine HCT.out.mono ?_
              rintro e w9 ⟨rfl, hb10⟩
              have HB10 := hide (HB9.out.trans (hb10.mono HB9.out.size))
              clear hb10 p0 p1 p2 p3 p4 p5 p6 p7 p8 p9 p10
              go_wp2_with fail
              go_roundw
              case rel => exact ⟨s + 1, by omega, by go_num, HB10⟩
              case measure => simp [intOf]; omega
            · have hsi : ((s : Int) < (wl : Int)) = False := eq_false (by omega)
              have HB8 := hide (HB7.out.trans (hb.out.mono HB7.out.size))
              clear hsw
              go_wp2_with fail
              refine (HAW.out _ (Nat.le_trans hB HB8.out.size) (HT.out.on HB8.out hB)).mono ?_
              rintro e w9 ⟨rfl, hb9⟩
              have HB9 := hide (HB8.out.trans (hb9.mono HB8.out.size))
              clear hb9
              go_wp2_with fail
              go_ret
              exact ⟨rfl, HB9.out⟩
open Go.Joins Go.ChangeShapes Go.WideShapes Go.RowKit Go.Deep Go.KP Go.KI

theorem list_of {α : Type} (z : α) (P : Nat → α → Prop) : ∀ n : Nat, (∀ i, i < n → ∃ x, P i x) → ∃ l : List α, l.length = n ∧ ∀ i, i < n → P i (l.getD i z) := by
  intro n
  induction n with
  | zero => intro _; exact ⟨[], rfl, fun i hi => by omega⟩
  | succ n ih =>
    intro h
    obtain ⟨l, hl, hp⟩ := ih (fun i hi => h i (by omega))
    obtain ⟨x, hx⟩ := h n (by omega)
    refine ⟨l ++ [x], by simp [hl], fun i hi => ?_⟩
    simp only [List.getD_eq_getElem?_getD] at hp ⊢
    by_cases hin : i = n
    · subst hin
      have e : (l ++ [x])[i]?.getD z = x := by rw [← hl]; simp
      rw [e]
      exact hx
    · have e : (l ++ [x])[i]?.getD z = l[i]?.getD z := by rw [List.getElem?_append_left (by omega)]
      rw [e]
      exact hp i (by omega)
theorem cell_ltB {w : World} {a : Addr} {n : Nat} {v : Value} (h : w.cell? (a.add n) = some v) : a.block < w.heap.size := by
  unfold World.cell? at h
  rcases Nat.lt_or_ge (a.add n).block w.heap.size with h1 | h1
  · have e : (a.add n).block = a.block := by unfold Addr.add; split <;> rfl
    rw [e] at h1
    exact h1
  · rw [Array.getElem?_eq_none h1] at h
    cases h
section
variable {H : Type} {enc : TypeId × Value → H} {W : World} {base : Nat} {spare : Nat → Bool} {held : Bool}
theorem rows_open {α : Type} (z : α) (f : α → List Value) (C : Nat) (hf : ∀ x, (f x).length = C) (hC0 : 0 < C) {t e : TypeId} {fuel : Nat} {v : Value} {x : DataW H × List MemPlace} (ht : Tryz.prog.underlying t = some (.slice e)) (hC : Tryz.prog.cellsOf e = C)
    (hE : ∀ (n : Nat) (cs : List Value) (y : DataW H × List MemPlace), DataW.trod enc Tryz.prog W base spare held n e cs = some y → ∃ a, cs = f a)
    (h : DataW.trod enc Tryz.prog W base spare held fuel t [v] = some x) :
    ∃ (l : List α) (A : Option Addr) (c : Nat), v = .slice A l.length c ∧ l.length ≤ c ∧ l.length ≤ maxLen ∧ ∀ k, k < l.length → ∃ b o, A = some ⟨b, o, none⟩ ∧ b < W.heap.size ∧ ∀ j u, (f (l.getD k z))[j]? = some u → W.cell? ⟨b, o + k * C + j, none⟩ = some u := by
  rcases open_slice ht h with ⟨h0, _⟩ | ⟨a, len, cap, m, n, D, Pl, hcs, _, hl, hcm, hm, _, hi⟩
  · have hv : v = .slice none 0 0 := by simpa using h0
    exact ⟨[], none, 0, hv, Nat.le_refl _, Nat.zero_le _, fun k hk => absurd hk (by simp)⟩
  · have hv : v = .slice (some a) len cap := by simpa using hcs
    subst hv
    have hml : len ≤ m := by rw [hm]; split <;> omega
    have hall : ∀ i, i < len → ∃ q : α, ∀ j, j < C → W.cell? (a.add (i * C + j)) = (f q)[j]? := by
      intro i hil
      obtain ⟨cs', hc, ht'⟩ := hi i (by omega)
      rw [hC] at hc
      obtain ⟨q, hq⟩ := hE _ _ _ ht'
      obtain ⟨_, hcl, hat⟩ := World.cells?_some hc
      refine ⟨q, fun j hj => ?_⟩
      rw [← hq, ← hat j hj, Go.Deep.add_add]
    rcases Nat.eq_zero_or_pos len with h0 | hpos
    · subst h0
      exact ⟨[], some a, cap, rfl, Nat.zero_le _, Nat.zero_le _, fun k hk => absurd hk (by simp)⟩
    · obtain ⟨q0, hq0⟩ := hall 0 hpos
      have hc0 := hq0 0 hC0
      have hs0 : (f q0)[0]? = some ((f q0)[0]'(by rw [hf]; exact hC0)) := List.getElem?_eq_getElem (by rw [hf]; exact hC0)
      rw [hs0] at hc0
      have hsp := World.cell?_spot hc0
      have hlt : a.block < W.heap.size := cell_ltB hc0
      obtain ⟨b, o, sp⟩ := a
      have : sp = none := by simpa [Addr.add] using hsp
      subst this
      obtain ⟨l, hll, hlp⟩ := list_of z _ len hall
      refine ⟨l, some ⟨b, o, none⟩, cap, by rw [hll], by omega, by omega, fun k hk => ⟨b, o, rfl, hlt, fun j u hu => ?_⟩⟩
      have hj : j < C := by have := (List.getElem?_eq_some_iff.1 hu).1; rw [hf] at this; exact this
      have h9 := hlp k (by omega) j hj
      rw [Addr.add_lit, hu] at h9
      rw [Nat.add_assoc]
      exact h9
end
open Go.Joins Go.ChangeShapes Go.WideShapes Go.RowKit Go.Deep Go.KP Go.KI

section
variable {H : Type} {enc : TypeId × Value → H} {W : World} {base : Nat} {spare : Nat → Bool} {held : Bool}
theorem i8_cell {n : Nat} {v : Value} {y : DataW H × List MemPlace} (h : DataW.trod enc Tryz.prog W base spare held n 51 [v] = some y) : ∃ k : Int, v = .int .i8 k ∧ -128 ≤ k ∧ k ≤ 127 := by
  obtain ⟨k, e, _, hw⟩ := DataW.trod_int Tryz.underlying51 h
  have := bounds_i8 hw
  exact ⟨k, by simpa using e, by omega, by omega⟩
theorem i3_cells (n : Nat) (cs : List Value) (y : DataW H × List MemPlace) (h : DataW.trod enc Tryz.prog W base spare held n 52 cs = some y) : ∃ a : I3, cs = [.int .i8 a.x, .int .i8 a.y, .int .i8 a.z] ∧ small3 a := by
  obtain ⟨xs, n', _, _, hlen, hxl, hf⟩ := DataW.trod_array Tryz.underlying52 h
  have hC : Tryz.prog.cellsOf 52 = 3 := by kernel_rfl
  have k1 : Tryz.prog.cellsOf 51 = 1 := by kernel_rfl
  rw [hC] at hlen
  match cs, hlen with
  | [c0, c1, c2], _ =>
    match xs, hxl with
    | [x0, x1, x2], _ =>
      have f0 := hf 0 (by decide)
      have f1 := hf 1 (by decide)
      have f2 := hf 2 (by decide)
      rw [k1] at f0 f1 f2
      obtain ⟨a, rfl, ha⟩ := i8_cell (v := c0) f0
      obtain ⟨b, rfl, hb⟩ := i8_cell (v := c1) f1
      obtain ⟨c, rfl, hc⟩ := i8_cell (v := c2) f2
      exact ⟨⟨a, b, c⟩, rfl, ha, hb, hc⟩
theorem small_cells (n : Nat) (cs : List Value) (y : DataW H × List MemPlace) (h : DataW.trod enc Tryz.prog W base spare held n 54 cs = some y) : ∃ x : { x : Sm // smallS x }, cs = smCs x.1 := by
  obtain ⟨xs, n', _, _, hlen, hxl, hf⟩ := DataW.trod_struct Tryz.underlying54 h
  have hC : Tryz.prog.cellsOf 54 = 6 := by kernel_rfl
  have k52 : Tryz.prog.cellsOf 52 = 3 := by kernel_rfl
  rw [hC] at hlen
  match cs, hlen with
  | [c0, c1, c2, c3, c4, c5], _ =>
    match xs, hxl with
    | [x0, x1], _ =>
      have f0 : DataW.trod enc Tryz.prog W base spare held n' 52 (([c0, c1, c2, c3, c4, c5].drop 0).take (Tryz.prog.cellsOf 52)) = some x0 := hf 0 _ rfl
      have f1 : DataW.trod enc Tryz.prog W base spare held n' 52 (([c0, c1, c2, c3, c4, c5].drop 3).take (Tryz.prog.cellsOf 52)) = some x1 := hf 1 _ rfl
      rw [k52] at f0 f1
      obtain ⟨a, ha, sa⟩ := i3_cells _ [c0, c1, c2] _ f0
      obtain ⟨b, hb, sb⟩ := i3_cells _ [c3, c4, c5] _ f1
      simp only [List.cons.injEq, and_true] at ha hb
      obtain ⟨rfl, rfl, rfl⟩ := ha
      obtain ⟨rfl, rfl, rfl⟩ := hb
      exact ⟨⟨(a, b), sa, sb⟩, rfl⟩
theorem byte_cells (n : Nat) (cs : List Value) (y : DataW H × List MemPlace) (h : DataW.trod enc Tryz.prog W base spare held n 5 cs = some y) : ∃ x : { x : Nat // x < 256 }, cs = [.int .u8 (x.1 : Nat)] := by
  obtain ⟨k, e, _, hw⟩ := DataW.trod_int Tryz.underlying5 h
  have := bounds_u8 hw
  exact ⟨⟨k.toNat, by omega⟩, by rw [e]; show [Value.int .u8 k] = [Value.int .u8 ((k.toNat : Nat) : Int)]; rw [Int.toNat_of_nonneg (by omega)]⟩
theorem getD_map {α β : Type} (f : α → β) (z : α) (l : List α) (k : Nat) : (l.map f).getD k (f z) = f (l.getD k z) := by
  simp only [List.getD_eq_getElem?_getD, List.getElem?_map]
  cases l[k]? <;> rfl
abbrev smz : { x : Sm // smallS x } := ⟨sm0, by unfold smallS small3; simp⟩
theorem smalls_open {r : Reach} {b0 : Nat} {v : Value} {d : DataW H} {p : List MemPlace} (hv : Value.okWide Tryz.prog W r b0 48 v) (h : DataW.Trod enc Tryz.prog W base spare held 48 v d p) : ∃ (X : List Sm) (A : Option Addr) (c : Nat), v = .slice A X.length c ∧ X.length ≤ maxLen ∧ (∀ x ∈ X, smallS x) ∧ SmallsAt W A X := by
  obtain ⟨a, l, c, rfl⟩ := okWide_slice Tryz.underlying48 hv
  obtain ⟨fuel, hf⟩ := h
  obtain ⟨L, A, c, e, _, hm, hr⟩ := rows_open smz (fun x : { x : Sm // smallS x } => smCs x.1) 6 (fun _ => rfl) (by decide) Tryz.underlying48 (by kernel_rfl) small_cells hf
  refine ⟨L.map Subtype.val, A, c, by rw [List.length_map]; exact e, by rw [List.length_map]; exact hm, ?_, ?_⟩
  · intro x hx
    obtain ⟨y, _, rfl⟩ := List.mem_map.1 hx
    exact y.2
  · intro k hk
    rw [List.length_map] at hk
    obtain ⟨b, o, h1, h2, h3⟩ := hr k hk
    refine ⟨b, o, h1, h2, fun j u hu => h3 j u ?_⟩
    rw [show sm0 = Subtype.val smz from rfl, getD_map] at hu
    exact hu
theorem bytes_open {r : Reach} {b0 : Nat} {v : Value} {d : DataW H} {p : List MemPlace} (hv : Value.okWide Tryz.prog W r b0 49 v) (h : DataW.Trod enc Tryz.prog W base spare held 49 v d p) : ∃ (K : List Nat) (A : Option Addr) (c : Nat), v = .slice A K.length c ∧ K.length ≤ maxLen ∧ (∀ b ∈ K, b < 256) ∧ BytesAt W A K := by
  obtain ⟨a, l, c, rfl⟩ := okWide_slice Tryz.underlying49 hv
  obtain ⟨fuel, hf⟩ := h
  obtain ⟨L, A, c, e, _, hm, hr⟩ := rows_open (⟨0, by decide⟩ : { x : Nat // x < 256 }) (fun x : { x : Nat // x < 256 } => [Value.int .u8 (x.1 : Nat)]) 1 (fun _ => rfl) (by decide) Tryz.underlying49 (by kernel_rfl) byte_cells hf
  refine ⟨L.map Subtype.val, A, c, by rw [List.length_map]; exact e, by rw [List.length_map]; exact hm, ?_, ?_⟩
  · intro x hx
    obtain ⟨y, _, rfl⟩ := List.mem_map.1 hx
    exact y.2
  · intro k hk
    rw [List.length_map] at hk
    obtain ⟨b, o, h1, h2, h3⟩ := hr k hk
    refine ⟨b, o, h1, h2, ?_⟩
    have h4 := h3 0 _ rfl
    rw [Nat.mul_one, Nat.add_zero] at h4
    rw [show (0 : Nat) = Subtype.val (⟨0, by decide⟩ : { x : Nat // x < 256 }) from rfl, getD_map]
    exact h4
end
end Go.Proofs.YtklgpilgalfckaaGreatDoor
