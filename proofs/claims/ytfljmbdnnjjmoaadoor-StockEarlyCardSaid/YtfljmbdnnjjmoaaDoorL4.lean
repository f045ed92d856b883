/-
  The law StockLaid: the walk.
-/
import Derived.Test.YtfljmbdnnjjmoaaDoorL3
namespace Go.Proofs.YtfljmbdnnjjmoaaDoor
open Go.RowKit Go.KP Go.Shelf

theorem ats_bound {k ln : Int} {ps : List (Int × Int)} {ls : List Int} (hk : 0 ≤ k) (hok : partsOk ln 0 ps) (hl : ln ≤ 65536) (hpos : ∀ x ∈ ls, 1 ≤ x) (i : Nat) (hi : i < (fits k ps ls).1.length) : 0 ≤ (fits k ps ls).1[i]?.getD 0 ∧ (fits k ps ls).1[i]?.getD 0 ≤ 65536 := by
  obtain ⟨g, _⟩ := lies k hk ln ps ls 0 hok hpos
  obtain ⟨p, hp, hin⟩ := g.part i hi
  have h1 := inPart_iff.1 hin
  have hlen : i < ls.length := by have := g.len; omega
  have h2 := hpos ls[i] (List.getElem_mem hlen)
  have e : ls[i]?.getD 0 = ls[i] := by simp [hlen]
  obtain ⟨j, hj, rfl⟩ := List.mem_iff_getElem.1 hp
  have h3 := partsOk_at ps ln 0 hok j hj
  simp only [gF, gT, hj, List.getElem?_eq_getElem, Option.getD_some] at h3
  omega
theorem pieces_pos {ls : List Int} (h : ∀ x ∈ ls, okPiece x = true) : ∀ x ∈ ls, 1 ≤ x := fun x hx => (btw_iff.1 (h x hx)).1
theorem pieces_at {ls : List Int} (h : ∀ x ∈ ls, okPiece x = true) (i : Nat) (hi : i < ls.length) : 1 ≤ ls[i]?.getD 0 ∧ ls[i]?.getD 0 ≤ 65536 := by
  have e : ls[i]?.getD 0 = ls[i] := by simp [hi]
  rw [e]
  exact btw_iff.1 (h ls[i] (List.getElem_mem hi))
theorem pieces_any_bad {ls : List Int} (h : ∀ x ∈ ls, okPiece x = true) : ls.any (fun x => !btw x 1 65536) = false := by
  rw [List.any_eq_false]
  intro x hx
  have := h x hx
  unfold okPiece at this
  simp [this]

set_option maxRecDepth 100000 in
set_option maxHeartbeats 2000000 in
theorem law4_any (wd dp ln ct cs kf : Int) (gv : Value) (gs : List (Int × Int)) (A : Option Addr) (n c : Nat) (ls : List Int) (B : Nat) (w : World) (hg : SlAt B w 2 gv gs.length (pcells gs)) (hn : ls.length = n) (hls : IntsAt B w A n ls) (hB : B ≤ w.heap.size)
    (hT : P10 B w) (hk0 : 0 ≤ kf) (hk1 : kf ≤ 255) :
    Calls Tryd.prog 4 #[barV wd dp ln ct cs gv, .slice A n c, .int .u8 kf] w (Ret w (.bool true)) := by
  obtain ⟨ga, gc, hgv⟩ := SlAt.form hg
  subst hgv
  have HG := hide hg; have HLS := hide hls; have HN := hide hn; have HT := hide hT
  clear hg hls hn hT
  have hconv : IntKind.i64.wrap kf = kf := IntWalk.i64_in _ (by omega)
  go_enter Tryd.func4, Tryd.ntmps4
  go_wp2_with fail
  obtain ⟨k, hk⟩ : ∃ k, k = kf % 101 := ⟨_, rfl⟩
  rw [← hk]
  have hk2 : 0 ≤ k := by omega
  have hk3 : k ≤ 100 := by omega
  clear hk hconv
  obtain ⟨m1, m2, m3⟩ := heap1 w (.cells #[.int .i64 wd, .int .i64 dp, .int .i64 ln, .int .i64 ct, .int .i64 cs, .slice ga gs.length gc] 24)
  obtain ⟨w0, hw0⟩ : ∃ w0, w.alloc (.cells #[.int .i64 wd, .int .i64 dp, .int .i64 ln, .int .i64 ct, .int .i64 cs, .slice ga gs.length gc] 24) = w0 := ⟨_, rfl⟩
  rw [hw0] at m1 m2 m3 ⊢
  clear hw0
  have HF := hide (fine_any wd dp ln ct cs (.slice ga gs.length gc) gs B w0 (HG.out.below m3 hB) (by omega))
  refine HF.out.mono ?_
  rintro e w1 ⟨rfl, hb1⟩
  have hs1 := hb1.size
  have m4 := below_blk hb1 m1 (by omega)
  have HB1 := hide (below_left m3 hb1 (by omega))
  clear hb1 HF m1 m3
  by_cases hc : chk wd dp ln ct cs gs = 0
  · rw [show decide (chk wd dp ln ct cs gs = 0) = true by simp [hc]]
    have HC := hide hc; have M4 := hide m4
    clear hc m4
    go_wp2_with fail
    have HP := hide (pieces_any A n c ls w1 HN.out (fun k hk => by
      obtain ⟨b, o, h1, h2, h3⟩ := ints_below HLS.out HB1.out hB k hk
      exact ⟨b, o, h1, by omega, h3⟩))
    refine HP.out.mono ?_
    rintro e w2 ⟨rfl, hb2⟩
    have hs2 := hb2.size
    have m5 := below_blk hb2 M4.out (by omega)
    have HB2 := hide (below_left HB1.out hb2 (by omega))
    clear hb2 HP M4
    by_cases hp : okPieces ls = true
    · rw [hp]
      have hp2 := hp
      simp only [okPieces, Bool.and_eq_true, decide_eq_true_eq, List.all_eq_true] at hp2
      have h10 : n ≤ 10 := by have := HN.out; omega
      have HP2 := hide hp2.2; have M5 := hide m5
      have c5 := fun o => cell_blk m5 o
      have hlt2 : w.heap.size < w2.heap.size := by omega
      clear hp hp2 m5
      have hff := freeFn_any wd dp ln ct cs (.slice ga gs.length gc) gs B w2 (HG.out.below HB2.out hB) (by omega)
      rw [HC.out] at hff
      simp only [if_true] at hff
      have HFF := hide hff
      clear hff
      go_wp2_with fail
      refine HFF.out.mono ?_
      rintro e w3 ⟨r, rfl, hb3, v3, rfl, ho3⟩
      have hs3 := hb3.size
      have m6 := below_blk hb3 M5.out (by omega)
      have HB3 := hide (below_left HB2.out hb3 (by omega))
      have c6 := fun o => cell_blk m6 o
      have M6 := hide m6
      have hlt3 : w.heap.size < w3.heap.size := by omega
      obtain ⟨va, vc, hv3⟩ := owns_form ho3
      subst hv3
      have HPA := hide (SlAt.gapsIn (SlAt.of_owns ho3)).2
      clear hb3 HFF m6 c5 ho3 M5
      go_wp2_with fail
      have HFT := hide (fits_ok wd dp ln ct cs k (.slice ga gs.length gc) gs A n c ls B w3 (HG.out.below HB3.out hB) (by omega) HN.out (ints_below HLS.out HB3.out hB) HC.out hk2 hk3 (by omega) (pieces_any_bad HP2.out))
      refine HFT.out.mono ?_
      rintro e w4 ⟨r, rfl, hb4, v4, rfl, hv4⟩
      have hs4 := hb4.size
      have HB4 := hide (below_left HB3.out hb4 (by omega))
      have HPA4 := hide (HPA.out.below hb4 (Nat.le_refl _))
      clear hb4 HFT c6 M6 HPA
      have HA := hide (awake_any B w4 (HT.out.on (HB4.out.mono hB)) (by omega))
      cases hX : (fits k (parts ln gs) ls).2.isEmpty with
      | false =>
        rw [hX] at hv4
        simp only [Bool.false_eq_true, if_false] at hv4
        subst hv4
        have hnpos : 0 < n := by
          rcases Nat.eq_zero_or_pos n with h0 | h0
          · exfalso
            have : ls = [] := List.eq_nil_of_length_eq_zero (by rw [HN.out]; exact h0)
            have h2 := allFit_nil k (parts ln gs)
            unfold allFit at h2
            rw [this, h2] at hX
            cases hX
          · exact h0
        have hnp : (0 : Int) < (n : Int) := by omega
        clear hX
        go_wp2_with fail
        refine HA.out.mono ?_
        rintro e w8 ⟨rfl, hb8⟩
        have HB8 := hide (below_left HB4.out hb8 (by omega))
        clear hb8 HA
        go_wp2
        go_ret
        exact ⟨rfl, HB8.out⟩
      | true =>
        rw [hX] at hv4
        simp only [if_true] at hv4
        obtain ⟨ta, tc, hv⟩ := owns_form hv4
        subst hv
        have hTI := SlAt.intsIn (SlAt.of_owns hv4)
        have HTI := hide hTI.2
        have hpo := chk_parts HC.out
        have hln := chk_ln HC.out
        have hem : (fits k (parts ln gs) ls).2 = [] := List.isEmpty_iff.1 hX
        have hl4 := laid_any va A ta (parts ln gs).length n (fits k (parts ln gs) ls).1.length vc c tc (parts ln gs) ls (fits k (parts ln gs) ls).1 k w4.heap.size w4 (Nat.le_refl _) (HPA4.out.mono (by omega)) (IntsIn.mono (ints_below HLS.out HB4.out hB) (by omega)) HTI.out rfl HN.out rfl
          (by have := parts_len ln gs; have := freeFn_ok HC.out; omega) (by omega) (fun i hi => by have := pieces_at HP2.out i (by rw [HN.out]; exact hi); omega) (fun i hi => by have := ats_bound hk2 hpo hln.2 (pieces_pos HP2.out) i hi; omega) hk2 (by omega)
        rw [laid_true hk2 hpo (pieces_pos HP2.out) hem] at hl4
        have HL4 := hide hl4
        clear hl4 hX hem hpo hln hTI hv4 HPA4 HTI
        go_wp2_with fail
        refine HL4.out.mono ?_
        rintro e w5 ⟨rfl, hb5⟩
        have hs5 := hb5.size
        have HB5 := hide (below_left HB4.out hb5 (by omega))
        clear hb5 HL4 HA
        go_wp2_with fail
        have HA := hide (awake_any B w5 (HT.out.on (HB5.out.mono hB)) (by omega))
        refine HA.out.mono ?_
        rintro e w8 ⟨rfl, hb8⟩
        have HB8 := hide (below_left HB5.out hb8 (by omega))
        clear hb8 HA
        go_wp2
        go_ret
        exact ⟨rfl, HB8.out⟩
    · rw [show okPieces ls = false by simpa using hp]
      clear hp
      go_wp2_with fail
      have HA := hide (awake_any B w2 (HT.out.on (HB2.out.mono hB)) (by omega))
      refine HA.out.mono ?_
      rintro e w3 ⟨rfl, hb3⟩
      have HB3 := hide (below_left HB2.out hb3 (by omega))
      clear hb3 HA
      go_wp2
      go_ret
      exact ⟨rfl, HB3.out⟩
  · rw [show decide (chk wd dp ln ct cs gs = 0) = false by simp [hc]]
    clear hc m4
    go_wp2_with fail
    have HA := hide (awake_any B w1 (HT.out.on (HB1.out.mono hB)) (by omega))
    refine HA.out.mono ?_
    rintro e w3 ⟨rfl, hb3⟩
    have HB3 := hide (below_left HB1.out hb3 (by omega))
    clear hb3 HA
    go_wp2
    go_ret
    exact ⟨rfl, HB3.out⟩
end Go.Proofs.YtfljmbdnnjjmoaaDoor
