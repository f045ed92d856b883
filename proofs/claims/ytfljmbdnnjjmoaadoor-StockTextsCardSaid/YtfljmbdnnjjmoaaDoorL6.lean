/-
  The law StockCapacity: the walk.
-/
import Derived.Test.YtfljmbdnnjjmoaaDoorS12
import Derived.Test.YtfljmbdnnjjmoaaDoorSQ
namespace Go.Proofs.YtfljmbdnnjjmoaaDoor
open Go.RowKit Go.KP Go.Shelf

theorem max4 (w : World) : (Builtin.max_ #[27, 27, 27, 27] 27 #[.int .i64 0, .int .i64 0, .int .i64 0, .int .i64 0]).run Tryd.prog w = .ok (.int .i64 0) w := by
  simp [Builtin.max_, Builtin.max2, go_sem]
theorem sumK_take (k : Int) (ls : List Int) (j : Nat) (h : j < ls.length) : sumK k (ls.take (j + 1)) = sumK k (ls.take j) + (ls[j]?.getD 0 + k) := by
  rw [List.take_succ_eq_append_getElem h]
  have key : ∀ a : List Int, sumK k (a ++ [ls[j]]) = sumK k a + (ls[j] + k) := by
    intro a
    induction a with
    | nil => simp [sumK]
    | cons x r ih => simp only [List.cons_append, sumK, ih]; omega
  rw [key]
  simp [h]

theorem sumK_bound {k : Int} (hk : 0 ≤ k) (hk1 : k ≤ 100) (ls : List Int) (h : ∀ x ∈ ls, okPiece x = true) : ∀ j, j ≤ ls.length → 0 ≤ sumK k (ls.take j) ∧ sumK k (ls.take j) ≤ 65636 * (j : Int) := by
  intro j
  induction j with
  | zero => intro _; simp [sumK]
  | succ j ih =>
    intro hj
    have h1 := ih (by omega)
    rw [sumK_take k ls j (by omega)]
    have h2 := btw_iff.1 (h ls[j] (List.getElem_mem (by omega)))
    have e : ls[j]?.getD 0 = ls[j] := by simp [show j < ls.length by omega]
    rw [e]
    omega
theorem set_blk {w : World} {b o : Nat} {cs : Array Value} {t : TypeId} {v : Value} (h : w.heap[b]? = some (.cells cs t (0, 0))) : (w.setCell ⟨b, o, none⟩ v).heap[b]? = some (.cells (cs.setIfInBounds o v) t (0, 0)) := by
  obtain ⟨hlt, hk⟩ := Array.getElem?_eq_some_iff.1 h
  show (w.heap.modify b _)[b]? = _
  rw [Array.getElem?_eq_getElem (by rw [Array.size_modify]; exact hlt), Array.getElem_modify_self, hk]
  rfl
theorem chk_gapless {wd dp ln ct cs : Int} {gs : List (Int × Int)} (h : chk wd dp ln ct cs gs = 0) : chk wd dp ln ct cs [] = 0 := chk_zero.2 ⟨(chk_zero.1 h).1, by simp, trivial⟩
theorem chk_ln {wd dp ln ct cs : Int} {gs : List (Int × Int)} (h : chk wd dp ln ct cs gs = 0) : 1 ≤ ln ∧ ln ≤ 65536 := (chk_head (b := ⟨wd, dp, ln, ct, cs, .slice none 0 0, gs⟩) h).2.2.1
theorem chk_parts {wd dp ln ct cs : Int} {gs : List (Int × Int)} (h : chk wd dp ln ct cs gs = 0) : partsOk ln 0 (parts ln gs) := by
  have := chk_ln h
  exact parts_ok (by omega) (chk_zero.1 h).2.2
/-- The arguments of a law on a bar and lengths. -/
abbrev IntsAt (B : Nat) (w : World) (A : Option Addr) (n : Nat) (ls : List Int) : Prop := ∀ k, k < n → ∃ b o, A = some ⟨b, o, none⟩ ∧ b < B ∧ w.cell? ⟨b, o + k, none⟩ = some (.int .i64 (ls[k]?.getD 0))
theorem ints_below {B n0 : Nat} {w w2 : World} {A : Option Addr} {n : Nat} {ls : List Int} (h : IntsAt B w A n ls) (hb : Below n0 w w2) (hB : B ≤ n0) : IntsAt B w2 A n ls := fun k hk => by
  obtain ⟨b, o, h1, h2, h3⟩ := h k hk
  exact ⟨b, o, h1, h2, (hb.cell (p := ⟨b, o + k, none⟩) (by simp; omega)).trans h3⟩

set_option maxRecDepth 100000 in
set_option maxHeartbeats 2000000 in
theorem law6_any (wd dp ln ct cs kf : Int) (gv : Value) (gs : List (Int × Int)) (A : Option Addr) (n c : Nat) (ls : List Int) (B : Nat) (w : World) (hg : SlAt B w 2 gv gs.length (pcells gs)) (hn : ls.length = n) (hls : IntsAt B w A n ls) (hB : B ≤ w.heap.size)
    (hT : P10 B w) (hk0 : 0 ≤ kf) (hk1 : kf ≤ 255) :
    Calls Tryd.prog 6 #[barV wd dp ln ct cs gv, .slice A n c, .int .u8 kf] w (Ret w (.bool true)) := by
  obtain ⟨ga, gc, hgv⟩ := SlAt.form hg
  subst hgv
  have HG := hide hg; have HLS := hide hls; have HN := hide hn; have HT := hide hT
  clear hg hls hn hT
  have hconv : IntKind.i64.wrap kf = kf := IntWalk.i64_in _ (by omega)
  go_enter Tryd.func6, Tryd.ntmps6
  go_wp2_with fail
  obtain ⟨k, hk⟩ : ∃ k, k = kf % 101 := ⟨_, rfl⟩
  rw [← hk]
  have hk2 : 0 ≤ k := by omega
  have hk3 : k ≤ 100 := by omega
  clear hk hconv
  obtain ⟨m1, m2, m3⟩ := heap1 w (.cells #[.int .i64 wd, .int .i64 dp, .int .i64 ln, .int .i64 ct, .int .i64 cs, .slice ga gs.length gc] 24)
  obtain ⟨w0, hw0⟩ : ∃ w0, w.alloc (.cells #[.int .i64 wd, .int .i64 dp, .int .i64 ln, .int .i64 ct, .int .i64 cs, .slice ga gs.length gc] 24) = w0 := ⟨_, rfl⟩
  rw [hw0] at m1 m2 m3 ⊢
  clear hw0
  have HF := hide (fine_any wd dp ln ct cs (.slice ga gs.length gc) gs B w0 (HG.out.below m3 hB) (by omega))
  refine HF.out.mono ?_
  rintro e w1 ⟨rfl, hb1⟩
  have hs1 := hb1.size
  have m4 := below_blk hb1 m1 (by omega)
  have HB1 := hide (below_left m3 hb1 (by omega))
  clear hb1 HF m1 m3
  by_cases hc : chk wd dp ln ct cs gs = 0
  · rw [show decide (chk wd dp ln ct cs gs = 0) = true by simp [hc]]
    have HC := hide hc; have M4 := hide m4
    clear hc m4
    go_wp2_with fail
    have HP := hide (pieces_any A n c ls w1 HN.out (fun k hk => by
      obtain ⟨b, o, h1, h2, h3⟩ := ints_below HLS.out HB1.out hB k hk
      exact ⟨b, o, h1, by omega, h3⟩))
    refine HP.out.mono ?_
    rintro e w2 ⟨rfl, hb2⟩
    have hs2 := hb2.size
    have m5 := below_blk hb2 M4.out (by omega)
    have HB2 := hide (below_left HB1.out hb2 (by omega))
    clear hb2 HP M4
    by_cases hp : okPieces ls = true
    · rw [hp]
      have hp2 := hp
      simp only [okPieces, Bool.and_eq_true, decide_eq_true_eq, List.all_eq_true] at hp2
      have h10 : n ≤ 10 := by have := HN.out; omega
      have HP2 := hide hp2.2; have M5 := hide m5
      have c5 := fun o => cell_blk m5 o
      have hlt2 : w.heap.size < w2.heap.size := by omega
      clear hp hp2 m5
      go_wp2_with fail
      go_loopw [35, 8] (fun i s wr => ∃ j : Nat, j ≤ n ∧ i = .int .i64 j ∧ s = .int .i64 (sumK k (ls.take j)) ∧ wr = w2) (fun i _ _ => n - (intOf i).toNat)
      case atStart => exact ⟨0, Nat.zero_le _, rfl, by simp [sumK], rfl⟩
      case round =>
        obtain ⟨j, hj, rfl, rfl, rfl⟩ := hrel
        by_cases hlj : j < n
        · obtain ⟨b, o, rfl, hb, hcell⟩ := ints_below HLS.out HB2.out hB j hlj
          have hbb : b < wr.heap.size := by omega
          have e3 : (j : Int) < (n : Int) := by omega
          have hjl : j < ls.length := by have := HN.out; omega
          have hx := btw_iff.1 (HP2.out ls[j] (List.getElem_mem hjl))
          have hxe : ls[j]?.getD 0 = ls[j] := by simp [hjl]
          have hb1 := sumK_bound hk2 hk3 ls HP2.out j (by omega)
          have hst := sumK_take k ls j hjl
          rw [hxe] at hcell hst
          have hw1 : IntKind.i64.wrap (ls[j] + k) = ls[j] + k := IntWalk.i64_in _ (by omega)
          have hw2 : IntKind.i64.wrap (sumK k (ls.take j) + (ls[j] + k)) = sumK k (ls.take j) + (ls[j] + k) := IntWalk.i64_in _ (by omega)
          have HST := hide hst
          clear hst hxe
          go_wp2
          refine ⟨⟨j + 1, by omega, by go_num, by rw [HST.out], trivial⟩, by simp [intOf]; omega⟩
        · obtain rfl : j = n := by omega
          have hfull : ls.take j = ls := List.take_of_length_le (by have := HN.out; omega)
          rw [hfull]
          have hsb := sumK_bound hk2 hk3 ls HP2.out ls.length (Nat.le_refl _)
          rw [List.take_length] at hsb
          clear hfull
          go_wp2_with fail
          have HCP := hide (capacity_ok wd dp ln ct cs k (.slice ga gs.length gc) gs B wr (HG.out.below HB2.out hB) (by omega) HC.out hk2 hk3)
          refine HCP.out.mono ?_
          rintro e w3 ⟨rfl, hb3⟩
          have hs3 := hb3.size
          have m6 := below_blk hb3 M5.out (by omega)
          have HB3 := hide (below_left HB2.out hb3 (by omega))
          have c6 := fun o => cell_blk m6 o
          have M6 := hide m6
          clear hb3 HCP m6 c5
          go_wp2_with fail
          have hv : ls.any (fun x => !btw x 1 65536) = false := by
            rw [List.any_eq_false]
            intro x hx
            have := HP2.out x hx
            unfold okPiece at this
            simp [this]
          have HFT := hide (fits_ok wd dp ln ct cs k (.slice ga gs.length gc) gs A j c ls B w3 (HG.out.below HB3.out hB) (by omega) HN.out (ints_below HLS.out HB3.out hB) HC.out hk2 hk3 (by omega) hv)
          have HV := hide hv
          clear hv
          refine HFT.out.mono ?_
          rintro e w4 ⟨r, rfl, hb4, v4, rfl, hv4⟩
          have hs4 := hb4.size
          have m7 := below_blk hb4 M6.out (by omega)
          have HB4 := hide (below_left HB3.out hb4 (by omega))
          have c7 := fun o => cell_blk m7 o
          have f7 := fun o => froz_blk m7 o
          have hlt4 : w.heap.size < w4.heap.size := by omega
          have M7 := hide m7
          clear hb4 HFT m7 c6 hv4
          go_wp2_with fail
          have m8 := set_blk (o := 5) (v := .slice none 0 0) M7.out
          have HB5 := hide (show Below w.heap.size w (w4.setCell ⟨w.heap.size, 5, none⟩ (.slice none 0 0)) from HB4.out.setCell (p := ⟨w.heap.size, 5, none⟩) (Nat.le_refl _) _)
          have hs5 : (w4.setCell ⟨w.heap.size, 5, none⟩ (.slice none 0 0)).heap.size = w4.heap.size := by simp [World.setCell]
          obtain ⟨w5, hw5⟩ : ∃ w5, w4.setCell ⟨w.heap.size, 5, none⟩ (.slice none 0 0) = w5 := ⟨_, rfl⟩
          rw [hw5] at m8 HB5 hs5 ⊢
          have M8 := hide m8
          clear hw5 m8 c7 f7 M7
          have HC2 := hide (chk_gapless HC.out)
          have HCP := hide (capacity_ok wd dp ln ct cs k (.slice none 0 0) [] B w5 (SlAt.nil B w5 2) (by omega) HC2.out hk2 hk3)
          refine HCP.out.mono ?_
          rintro e w6 ⟨rfl, hb6⟩
          have hs6 := hb6.size
          have m9 := below_blk hb6 M8.out (by omega)
          have HB6 := hide (below_left HB5.out hb6 (by omega))
          have c9 := fun o => cell_blk m9 o
          have M9 := hide m9
          clear hb6 HCP m9
          go_wp2_with fail
          have HFT := hide (fits_ok wd dp ln ct cs k (.slice none 0 0) [] A j c ls B w6 (SlAt.nil B w6 2) (by omega) HN.out (ints_below HLS.out HB6.out hB) HC2.out hk2 hk3 (by omega) HV.out)
          refine HFT.out.mono ?_
          rintro e w7 ⟨r, rfl, hb7, v7, rfl, hv7⟩
          have hs7 := hb7.size
          have m10 := below_blk hb7 M9.out (by omega)
          have HB7 := hide (below_left HB6.out hb7 (by omega))
          have c10 := fun o => cell_blk m10 o
          have hlt7 : w.heap.size < w7.heap.size := by omega
          have hln := chk_ln HC.out
          have hcw := cap_whole (ln := ln) (k := k) (ls := ls) hk2 (by omega) (fun x hx => (btw_iff.1 (HP2.out x hx)).1)
          have hpn : capOf k (parts ln []) = ln + k := by rw [parts_nil (by omega)]; simp [capOf]
          rw [hcw, hpn]
          have hwr : IntKind.i64.wrap (ln + k) = ln + k := IntWalk.i64_in _ (by omega)
          have HA := hide (awake_any B w7 (HT.out.on (HB7.out.mono hB)) (by omega))
          clear hb7 HFT hv7 c9 hcw hpn m10
          have hmx := max4
          cases hX : (fits k (parts ln gs) ls).2.isEmpty with
          | false =>
            clear hX
            go_wp2_with fail
            refine HA.out.mono ?_
            rintro e w8 ⟨rfl, hb8⟩
            have HB8 := hide (below_left HB7.out hb8 (by omega))
            clear hb8 HA
            go_wp2
            go_ret
            exact ⟨rfl, HB8.out⟩
          | true =>
            have hle := cap_le hk2 (chk_parts HC.out) hX
            clear hX
            go_wp2_with fail
            refine HA.out.mono ?_
            rintro e w8 ⟨rfl, hb8⟩
            have HB8 := hide (below_left HB7.out hb8 (by omega))
            clear hb8 HA
            go_wp2
            go_ret
            exact ⟨rfl, HB8.out⟩
    · rw [show okPieces ls = false by simpa using hp]
      clear hp
      go_wp2_with fail
      have HA := hide (awake_any B w2 (HT.out.on (HB2.out.mono hB)) (by omega))
      refine HA.out.mono ?_
      rintro e w3 ⟨rfl, hb3⟩
      have HB3 := hide (below_left HB2.out hb3 (by omega))
      clear hb3 HA
      go_wp2
      go_ret
      exact ⟨rfl, HB3.out⟩
  · rw [show decide (chk wd dp ln ct cs gs = 0) = false by simp [hc]]
    clear hc m4
    go_wp2_with fail
    have HA := hide (awake_any B w1 (HT.out.on (HB1.out.mono hB)) (by omega))
    refine HA.out.mono ?_
    rintro e w3 ⟨rfl, hb3⟩
    have HB3 := hide (below_left HB1.out hb3 (by omega))
    clear hb3 HA
    go_wp2
    go_ret
    exact ⟨rfl, HB3.out⟩
end Go.Proofs.YtfljmbdnnjjmoaaDoor
