/-
  The law StockEarly: the walk.
-/
import Derived.Test.YtfljmbdnnjjmoaaDoorL7
namespace Go.Proofs.YtfljmbdnnjjmoaaDoor
open Go.RowKit Go.KP Go.Shelf

def longB (y : Int) (p : Int × Int) : Bool := decide (y ≤ IntKind.i64.wrap (p.2 - p.1))
set_option maxHeartbeats 400000 in
/-- The closure over lengths and a number: is a part as long? -/
theorem long1_any (a b y : Int) (i : Nat) (A : Option Addr) (n c : Nat) (Bl Bi : Nat) (w : World) (hl : w.heap[Bl]? = some (.cells #[.slice A n c] 34 (0, 0))) (hi : w.heap[Bi]? = some (.cells #[.int .i64 i] 3 (0, 0)))
    (hin : i < n) (hls : ∃ b o, A = some ⟨b, o, none⟩ ∧ b < w.heap.size ∧ w.cell? ⟨b, o + i, none⟩ = some (.int .i64 y)) :
    Calls Tryd.prog 19 #[.agg #[.int .i64 a, .int .i64 b], .pointer (some ⟨Bl, 0, none⟩), .pointer (some ⟨Bi, 0, none⟩)] w (Ret w (.bool (longB y (a, b)))) := by
  obtain ⟨bl, ol, rfl, hbl, hcell⟩ := hls
  have c1 := cell_blk hl 0
  have c2 := cell_blk hi 0
  have l1 := lt_blk hl
  have l2 := lt_blk hi
  have e3 : (i : Int) < n := by omega
  obtain ⟨D, hD⟩ : ∃ D, D = IntKind.i64.wrap (b - a) := ⟨_, rfl⟩
  have HD := hide (show longB y (a, b) = decide (y ≤ D) by rw [hD]; rfl)
  have e2 : IntKind.i64.wrap (b - a) = D := hD.symm
  simp at c1 c2
  clear hl hi hD
  go_enter Tryd.func19, Tryd.ntmps19
  go_wp2_with fail
  go_quiet (fail)
  go_wp2
  all_goals
    go_ret
    refine ⟨ret_bool2 ?_, below_drewN ((Below.refl _ _).alloc (Nat.le_refl _) _) _⟩
    rw [HD.out]
    try simp
    try omega
/-- The same for parts that lie in a bar: what ContainsFunc asks of the closure. -/
theorem containsLong_any (y : Int) (i : Nat) (A : Option Addr) (n c : Nat) (Bl Bi : Nat) (A1 : Option Addr) (n1 c1 : Nat) (ps : List (Int × Int)) (w : World) (hps : ps.length = n1) (hmax : n1 ≤ 1000000) (hc : GapsIn w.heap.size w A1 n1 ps) (hbd : ∀ p ∈ ps, -1000000 ≤ p.2 - p.1 ∧ p.2 - p.1 ≤ 1000000)
    (hl : w.heap[Bl]? = some (.cells #[.slice A n c] 34 (0, 0))) (hi : w.heap[Bi]? = some (.cells #[.int .i64 i] 3 (0, 0)))
    (hin : i < n) (hls : ∃ b o, A = some ⟨b, o, none⟩ ∧ b < w.heap.size ∧ w.cell? ⟨b, o + i, none⟩ = some (.int .i64 y)) :
    Calls Tryd.prog 14 #[.slice A1 n1 c1, .func (.func 19) #[] #[.pointer (some ⟨Bl, 0, none⟩), .pointer (some ⟨Bi, 0, none⟩)]] w (Ret w (.bool (ps.any fun p => decide (y ≤ p.2 - p.1)))) := by
  have h := containsGap_any 19 #[.pointer (some ⟨Bl, 0, none⟩), .pointer (some ⟨Bi, 0, none⟩)] (longB y) A1 n1 c1 ps w hps hmax hc ⟨enters_of Tryd.func19 (by kernel_rfl) rfl, fun x W hW => long1_any x.1 x.2 y i A n c Bl Bi W (below_blk hW hl (lt_blk hl)) (below_blk hW hi (lt_blk hi)) hin (by
    obtain ⟨b, o, h1, h2, h3⟩ := hls
    exact ⟨b, o, h1, by have := hW.size; omega, (hW.cell (p := ⟨b, o + i, none⟩) h2).trans h3⟩)⟩
  have e : ps.any (longB y) = ps.any fun p => decide (y ≤ p.2 - p.1) := by
    rw [Bool.eq_iff_iff, List.any_eq_true, List.any_eq_true]
    have key : ∀ p ∈ ps, longB y p = decide (y ≤ p.2 - p.1) := fun p hp => by
      unfold longB
      have := hbd p hp
      rw [IntWalk.i64_in _ (by omega)]
    constructor
    · rintro ⟨p, hp, h⟩
      exact ⟨p, hp, by rw [← key p hp]; exact h⟩
    · rintro ⟨p, hp, h⟩
      exact ⟨p, hp, by rw [key p hp]; exact h⟩
  rw [← e]
  exact h

/-- Parts of a row of ints that lies. -/
theorem IntsIn.part {B : Nat} {w : World} {b o n : Nat} {ls : List Int} (h : IntsIn B w (some ⟨b, o, none⟩) n ls) (i m : Nat) (hi : i + m ≤ n) : IntsIn B w (some ⟨b, o + i, none⟩) m ((ls.drop i).take m) := fun k hk => by
  obtain ⟨b2, o2, e, h2, h3⟩ := h (i + k) (by omega)
  cases e
  refine ⟨b, o + i, rfl, h2, ?_⟩
  rw [Nat.add_assoc, h3, List.getElem?_take, List.getElem?_drop]
  simp [hk]
theorem take_one (ls : List Int) (i : Nat) (h : i < ls.length) : (ls.drop i).take 1 = [ls[i]?.getD 0] := by
  rw [List.drop_eq_getElem_cons h, List.take_succ_cons, List.take_zero]
  simp [h]
theorem IntsIn.first {B : Nat} {w : World} {A : Option Addr} {n : Nat} {ls : List Int} (h : IntsIn B w A n ls) (m : Nat) (hm : m ≤ n) : IntsIn B w A m (ls.take m) := fun k hk => by
  obtain ⟨b2, o2, e, h2, h3⟩ := h k (by omega)
  refine ⟨b2, o2, e, h2, ?_⟩
  rw [h3, List.getElem?_take]
  simp [hk]

set_option maxRecDepth 100000 in
set_option maxHeartbeats 2000000 in
theorem law5_any (wd dp ln ct cs kf wh by2 : Int) (gv : Value) (gs : List (Int × Int)) (A : Option Addr) (n c : Nat) (ls : List Int) (B : Nat) (w : World) (hg : SlAt B w 2 gv gs.length (pcells gs)) (hn : ls.length = n) (hls : IntsAt B w A n ls) (hB : B ≤ w.heap.size)
    (hT : P10 B w) (hcap : n ≤ c) (hk0 : 0 ≤ kf) (hk1 : kf ≤ 255) (hw0 : 0 ≤ wh) (hw1 : wh ≤ 255) (hy0 : 0 ≤ by2) (hy1 : by2 ≤ 65535) :
    Calls Tryd.prog 5 #[barV wd dp ln ct cs gv, .slice A n c, .int .u8 kf, .int .u8 wh, .int .u16 by2] w (Ret w (.bool true)) := by
  obtain ⟨ga, gc, hgv⟩ := SlAt.form hg
  subst hgv
  have HG := hide hg; have HLS := hide hls; have HN := hide hn; have HT := hide hT
  clear hg hls hn hT
  have hconv : IntKind.i64.wrap kf = kf := IntWalk.i64_in _ (by omega)
  have hconv2 : IntKind.i64.wrap wh = wh := IntWalk.i64_in _ (by omega)
  have hconv3 : IntKind.i64.wrap by2 = by2 := IntWalk.i64_in _ (by omega)
  go_enter Tryd.func5, Tryd.ntmps5
  go_wp2_with fail
  obtain ⟨k, hk⟩ : ∃ k, k = kf % 101 := ⟨_, rfl⟩
  rw [← hk]
  have hk2 : 0 ≤ k := by omega
  have hk3 : k ≤ 100 := by omega
  clear hk hconv
  obtain ⟨m1, m1b, m2, m3⟩ := heap2 w (.cells #[.int .i64 wd, .int .i64 dp, .int .i64 ln, .int .i64 ct, .int .i64 cs, .slice ga gs.length gc] 24) (.cells #[.slice A n c] 34)
  obtain ⟨w0, hw0⟩ : ∃ w0, (w.alloc (.cells #[.int .i64 wd, .int .i64 dp, .int .i64 ln, .int .i64 ct, .int .i64 cs, .slice ga gs.length gc] 24)).alloc (.cells #[.slice A n c] 34) = w0 := ⟨_, rfl⟩
  rw [hw0] at m1 m1b m2 m3 ⊢
  clear hw0
  have HF := hide (fine_any wd dp ln ct cs (.slice ga gs.length gc) gs B w0 (HG.out.below m3 hB) (by omega))
  refine HF.out.mono ?_
  rintro e w1 ⟨rfl, hb1⟩
  have hs1 := hb1.size
  have m4 := below_blk hb1 m1 (by omega)
  have m4b := below_blk hb1 m1b (by omega)
  have HB1 := hide (below_left m3 hb1 (by omega))
  clear hb1 HF m1 m1b m3
  by_cases hc : chk wd dp ln ct cs gs = 0
  · rw [show decide (chk wd dp ln ct cs gs = 0) = true by simp [hc]]
    have HC := hide hc; have M4 := hide m4; have M4b := hide m4b
    have c4 := cell_blk m4b 0
    have lt4 := lt_blk m4b
    simp at c4
    clear hc m4 m4b
    go_wp2_with fail
    have HP := hide (pieces_any A n c ls w1 HN.out (fun k hk => by
      obtain ⟨b, o, h1, h2, h3⟩ := ints_below HLS.out HB1.out hB k hk
      exact ⟨b, o, h1, by omega, h3⟩))
    refine HP.out.mono ?_
    rintro e w2 ⟨rfl, hb2⟩
    have hs2 := hb2.size
    have m5 := below_blk hb2 M4.out (by omega)
    have m5b := below_blk hb2 M4b.out (by omega)
    have HB2 := hide (below_left HB1.out hb2 (by omega))
    have c5b := cell_blk m5b 0
    have lt5 := lt_blk m5b
    simp at c5b
    clear hb2 HP M4 M4b c4 lt4
    have HA := hide (awake_any B w2 (HT.out.on (HB2.out.mono hB)) (by omega))
    by_cases hp : okPieces ls = true
    · rw [hp]
      have hp2 := hp
      simp only [okPieces, Bool.and_eq_true, decide_eq_true_eq, List.all_eq_true] at hp2
      have h10 : n ≤ 10 := by have := HN.out; omega
      have HP2 := hide hp2.2; have M5 := hide m5; have M5b := hide m5b
      clear hp hp2 m5 m5b
      by_cases hn0 : n = 0
      · have hbe : ((n : Int) == 0) = true := by simp; omega
        clear hn0
        go_wp2_with fail
        refine HA.out.mono ?_
        rintro e w3 ⟨rfl, hb3⟩
        have HB3 := hide (below_left HB2.out hb3 (by omega))
        clear hb3 HA
        go_wp2
        go_ret
        exact ⟨rfl, HB3.out⟩
      · have hbe : ((n : Int) == 0) = false := by simp; omega
        have hnp : 1 ≤ (n : Int) := by omega
        clear hn0 HA
        have c5 := fun o => cell_blk M5.out o
        have hlt2 : w.heap.size < w2.heap.size := by omega
        go_wp2_with fail
        obtain ⟨i, hi⟩ : ∃ i : Nat, (i : Int) = wh % (n : Int) := ⟨(wh % (n : Int)).toNat, Int.toNat_of_nonneg (Int.emod_nonneg _ (by omega))⟩
        have hin : i < n := by have := Int.emod_lt_of_pos wh (show (0 : Int) < n by omega); omega
        rw [← hi]
        obtain ⟨g1, g2, g3⟩ := heap1 w2 (.cells #[.int .i64 i] 3)
        obtain ⟨w3, hw3⟩ : ∃ w3, w2.alloc (.cells #[.int .i64 i] 3) = w3 := ⟨_, rfl⟩
        rw [hw3] at g1 g2 g3 ⊢
        have HB3 := hide (HB2.out.trans (g3.mono (by omega)))
        have M6 := hide (below_blk g3 M5.out (by omega)); have M6b := hide (below_blk g3 M5b.out (by omega)); have G1 := hide g1
        have hff := freeFn_any wd dp ln ct cs (.slice ga gs.length gc) gs B w3 (HG.out.below HB3.out hB) (by omega)
        rw [HC.out] at hff
        simp only [if_true] at hff
        have HFF := hide hff
        clear hi hconv2 hw3 g1 g3 hff c5 c5b M5 M5b
        refine HFF.out.mono ?_
        rintro e w4 ⟨r, rfl, hb4, v4, rfl, ho4⟩
        have hs4 := hb4.size
        have HB4 := hide (below_left HB3.out hb4 (by omega))
        obtain ⟨va, vc, hv4⟩ := owns_form ho4
        subst hv4
        have HPA := hide (SlAt.gapsIn (SlAt.of_owns ho4)).2
        have m7 := below_blk hb4 M6.out (by omega)
        have m7b := below_blk hb4 M6b.out (by omega)
        have m7c := below_blk hb4 G1.out (by omega)
        have M7 := hide m7; have M7b := hide m7b; have M7c := hide m7c
        have c7 := fun o => cell_blk M7.out o
        have c7b := cell_blk M7b.out 0
        have c7c := cell_blk M7c.out 0
        have l7 := lt_blk m7
        have l7b := lt_blk m7b
        have l7c := lt_blk m7c
        simp at c7b c7c
        clear hb4 HFF ho4 m7 m7b m7c M6 M6b G1
        obtain ⟨b0, o0, hA0, hb0, _⟩ := HLS.out i hin
        subst hA0
        have e1 : IntKind.i64.wrap ((i : Int) + 1) = (i : Int) + 1 := IntWalk.i64_in _ (by omega)
        have e4 : (i : Int) + 1 ≤ (c : Int) := by omega
        have e5 : ((i : Int) + 1).toNat = i + 1 := by omega
        have e6 : i + 1 - i = 1 := by omega
        have e7 : (c = i) = False := eq_false (by omega)
        have e8 : 0 ≤ (i : Int) + 1 := by omega
        go_wp2_with fail
        refine region_call 7 _ (by kernel_rfl) (by decide) rfl (by kernel_rfl) (by kernel_rfl) (by kernel_rfl) (by kernel_rfl) (by kernel_rfl) (by kernel_rfl) (C := fun w' => ∃ m, w' = w4.drewN m) ⟨1, rfl⟩ ?_
        simp only [List.take_succ_cons, List.take_zero, List.drop_succ_cons, List.drop_zero]
        repeat (quiet_step (fail))
        refine wpQuiet_nil ?_
        intro _ hw'
        obtain ⟨nq, rfl⟩ := hw'
        go_wp2_with fail
        obtain ⟨y, hy⟩ : ∃ y, y = ls[i]?.getD 0 := ⟨_, rfl⟩
        have hyl : (ls.drop i).take 1 = [y] := by
          rw [hy]
          exact take_one ls i (by rw [HN.out]; exact hin)
        have hyp := pieces_at HP2.out i (by rw [HN.out]; exact hin)
        rw [← hy] at hyp
        have HY := hide hy
        have hI1 := IntsIn.part (ints_below HLS.out (below_drewN HB4.out nq) hB) i 1 (by omega)
        rw [hyl] at hI1
        have HFT := hide (fits_at_any wd dp ln ct cs k (.slice ga gs.length gc) gs (some ⟨b0, o0 + i, none⟩) 1 (c - i) [y] B (w4.drewN nq) (HG.out.below (below_drewN HB4.out nq) hB) (show B ≤ w4.heap.size by omega) rfl B (show B ≤ w4.heap.size by omega) hI1 HC.out hk2 hk3 (by omega) (fun x hx => by
          obtain rfl : x = y := by simpa using hx
          exact btw_iff.2 hyp))
        have hs0 : w.heap.size ≤ w4.heap.size := by omega
        clear hy hyl hI1 e1 e4 e5 e6 e7 e8
        refine HFT.out.mono ?_
        rintro e w5 ⟨r, rfl, hb5, v5, rfl⟩
        have hs5 : w4.heap.size ≤ w5.heap.size := hb5.size
        have HB5 := hide ((below_drewN HB4.out nq).trans (hb5.mono hs0))
        have hb45 := (below_drewN (Below.refl w4.heap.size w4) nq).trans hb5
        have M8 := hide (below_blk hb45 M7.out l7); have M8b := hide (below_blk hb45 M7b.out l7b); have M8c := hide (below_blk hb45 M7c.out l7c)
        have HPA5 := hide (HPA.out.below hb45 (Nat.le_refl _))
        clear hb5 hb45 HFT c7 c7b c7c M7 M7b M7c HPA
        rw [fits_one]
        obtain ⟨one, hone⟩ : ∃ one, one = (parts ln gs).any (fun p => decide (y ≤ p.2 - p.1)) := ⟨_, rfl⟩
        rw [← hone]
        have HONE := hide hone
        clear hone
        go_wp2_with fail
        refine ⟨fun w'' => ∃ m, w'' = w5.drewN m, ⟨0, rfl⟩, ?_⟩
        repeat (quiet_step (fail))
        refine wpQuiet_nil ?_
        intro _ hw'
        obtain ⟨nq2, rfl⟩ := hw'
        obtain ⟨w6, hw6⟩ : ∃ w6, w6 = w5.drewN nq2 := ⟨_, rfl⟩
        have hs6 : w6.heap.size = w5.heap.size := by rw [hw6]; rfl
        have hb56 : Below w5.heap.size w5 w6 := by rw [hw6]; exact below_drewN (Below.refl _ _) nq2
        have HB6 := hide (HB5.out.trans (hb56.mono (by omega)))
        have M9 := hide (below_blk hb56 M8.out (by omega)); have M9b := hide (below_blk hb56 M8b.out (by omega)); have M9c := hide (below_blk hb56 M8c.out (by omega))
        have HPA6 := hide (HPA5.out.below hb56 (by omega))
        have c9 := fun o => cell_blk M9.out o
        have c9b := cell_blk M9b.out 0
        have l9 := lt_blk M9.out
        have l9b := lt_blk M9b.out
        simp at c9b
        rw [← hw6]
        clear hw6 hb56 M8 M8b M8c HPA5
        go_wp2_with fail
        have HFT := hide (fits_ok wd dp ln ct cs k (.slice ga gs.length gc) gs (some ⟨b0, o0, none⟩) n c ls B w6 (HG.out.below HB6.out hB) (by omega) HN.out (ints_below HLS.out HB6.out hB) HC.out hk2 hk3 (by omega) (pieces_any_bad HP2.out))
        refine HFT.out.mono ?_
        rintro e w7 ⟨r, rfl, hb7, v7, rfl, hv7⟩
        have hs7 : w6.heap.size ≤ w7.heap.size := hb7.size
        have HB7 := hide (HB6.out.trans (hb7.mono (by omega)))
        have M10b := hide (below_blk hb7 M9b.out l9b); have M10c := hide (below_blk hb7 M9c.out (lt_blk M9c.out))
        have HPA7 := hide (HPA6.out.below hb7 (by omega))
        have c10b := cell_blk M10b.out 0
        have c10c := cell_blk M10c.out 0
        have l10b := lt_blk M10b.out
        have l10c := lt_blk M10c.out
        simp at c10b c10c
        have HV7 := hide hv7
        clear hb7 HFT hv7 c9 c9b M9 M9b M9c HPA6
        have hmx := max3
        have hpo := chk_parts HC.out
        have hln := chk_ln HC.out
        have hcl := containsLong_any y i (some ⟨b0, o0, none⟩) n c (w.heap.size + 1) w2.heap.size va (parts ln gs).length vc (parts ln gs) w7 rfl (by have := parts_len ln gs; have := freeFn_ok HC.out; omega) (HPA7.out.mono (by omega)) (fun p hp => by
          obtain ⟨j, hj, rfl⟩ := List.mem_iff_getElem.1 hp
          have h3 := partsOk_at (parts ln gs) ln 0 hpo j hj
          simp only [gF, gT, hj, List.getElem?_eq_getElem, Option.getD_some] at h3
          omega) M10b.out M10c.out hin (by
          obtain ⟨b, o, q1, q2, q3⟩ := ints_below HLS.out HB7.out hB i hin
          rw [← HY.out] at q3
          exact ⟨b, o, q1, by omega, q3⟩)
        rw [← HONE.out] at hcl
        have HCL := hide hcl
        have HPO := hide hpo
        clear hcl hpo
        go_wp2_with fail
        refine HCL.out.mono ?_
        rintro e w8 ⟨rfl, hb8⟩
        have hs8 : w7.heap.size ≤ w8.heap.size := hb8.size
        have HB8 := hide (HB7.out.trans (hb8.mono (by omega)))
        have M11b := hide (below_blk hb8 M10b.out l10b); have M11c := hide (below_blk hb8 M10c.out l10c)
        have HPA8 := hide (HPA7.out.below hb8 (by omega))
        have HB78 := hide hb8
        have c11b := cell_blk M11b.out 0
        have c11c := cell_blk M11c.out 0
        have l11b := lt_blk M11b.out
        have l11c := lt_blk M11c.out
        simp at c11b c11c
        clear hb8 HCL c10b c10c M10b M10c HPA7
        have hoo : (one != one) = false := by simp
        cases hX : (fits k (parts ln gs) ls).2.isEmpty with
        | false =>
          clear hX
          have HA := hide (awake_any B w8 (HT.out.on (HB8.out.mono hB)) (by omega))
          go_wp2_with fail
          refine HA.out.mono ?_
          rintro e w9 ⟨rfl, hb9⟩
          have HB9 := hide (HB8.out.trans (hb9.mono (by omega)))
          clear hb9 HA
          go_wp2
          go_ret
          exact ⟨rfl, HB9.out⟩
        | true =>
          have hem : (fits k (parts ln gs) ls).2 = [] := List.isEmpty_iff.1 hX
          have h1 : one = true := by rw [HONE.out, HY.out]; exact fits_one_of hk2 HPO.out (pieces_pos HP2.out) hem i (by rw [HN.out]; exact hin)
          subst h1
          have hv := HV7.out
          rw [hX] at hv
          simp only [if_true] at hv
          have hal : (fits k (parts ln gs) ls).1.length = n := by
            obtain ⟨g, hd2⟩ := lies k hk2 ln (parts ln gs) ls 0 HPO.out (pieces_pos HP2.out)
            rw [hem] at hd2
            have h1 := List.drop_eq_nil_iff.1 hd2.symm
            have h2 := g.len
            have h3 := HN.out
            omega
          obtain ⟨T, hT⟩ : ∃ T, T = (fits k (parts ln gs) ls).1 := ⟨_, rfl⟩
          rw [← hT] at hv hal
          rw [hal] at hv
          obtain ⟨g, cap, hvv, hNew⟩ := NewInts.of_owns hv (by omega)
          subst hvv
          have HT2 := hide hT; have HNew := hide hNew; have HEM := hide hem
          clear hX hem hv hT hNew hoo HV7
          have hbn : ((n : Int) != (n : Int)) = false := by simp
          have e1 : IntKind.i64.wrap ((i : Int) + 1) = (i : Int) + 1 := IntWalk.i64_in _ (by omega)
          have hcapn : n ≤ cap := HNew.out.capn
          have e4 : (i : Int) + 1 ≤ (cap : Int) := by omega
          have e5 : ((i : Int) + 1).toNat = i + 1 := by omega
          have e8 : 0 ≤ (i : Int) + 1 := by omega
          go_wp2_with fail
          have hTI : IntsIn w8.heap.size w8 (some ⟨g, 0, none⟩) (i + 1) (T.take (i + 1)) := IntsIn.first (n := n) (fun j hj => ⟨g, 0, rfl, by have := HNew.out.hi; omega, (HB78.out.cell (p := ⟨g, 0 + j, none⟩) HNew.out.hi).trans (HNew.out.cell j hj)⟩) (i + 1) (by omega)
          have HCI := hide (cloneInts_any (some ⟨g, 0, none⟩) (i + 1) cap (T.take (i + 1)) w8.heap.size w8 (by simp; have := HNew.out.len; omega) (by omega) (by omega) hTI)
          clear hTI e1 e4 e5 e8 hbn HNew
          refine HCI.out.mono ?_
          rintro e w9 ⟨g2, cap2, rfl, hN2, hb9⟩
          have hs9 := hb9.size
          have HB9 := hide (HB8.out.trans (hb9.mono (by omega)))
          have M12b := hide (below_blk hb9 M11b.out l11b); have M12c := hide (below_blk hb9 M11c.out l11c)
          have HPA9 := hide (HPA8.out.below hb9 (by omega))
          have c12b := cell_blk M12b.out 0
          have c12c := cell_blk M12c.out 0
          have l12b := lt_blk M12b.out
          have l12c := lt_blk M12c.out
          simp at c12b c12c
          have hg2 := hN2.lo
          have hg3 := hN2.hi
          have hx9 := hN2.cell i (by omega)
          have hf9 := hN2.froz i (by omega)
          rw [Nat.zero_add] at hx9 hf9
          have hTi : (T.take (i + 1))[i]?.getD 0 = T[i]?.getD 0 := by rw [List.getElem?_take]; simp
          rw [hTi] at hx9
          obtain ⟨x, hx⟩ : ∃ x, x = T[i]?.getD 0 := ⟨_, rfl⟩
          have hxb := ats_bound hk2 HPO.out hln.2 (pieces_pos HP2.out) i (by rw [← HT2.out]; omega)
          rw [← HT2.out, ← hx] at hxb
          rw [← hx] at hx9
          obtain ⟨hxb1, hxb2⟩ := hxb
          have HX := hide hx; have HN2 := hide hN2
          have e3 : (i : Int) < (i : Int) + 1 := by omega
          have hcap3 : i + 1 ≤ cap2 := hN2.capn
          clear hb9 HCI hN2 hTi hx c11b c11c M11b M11c HPA8 HB78
          go_wp2_with fail
          obtain ⟨E, hE⟩ : ∃ E, E = (T.take (i + 1)).set i (x - (1 + by2)) := ⟨_, rfl⟩
          have hB10 : Below w8.heap.size w9 (w9.setCell ⟨g2, i, none⟩ (.int .i64 (x - (1 + by2)))) := (Below.refl _ _).setCell (p := ⟨g2, i, none⟩) hg2 _
          have hIE : IntsIn w9.heap.size (w9.setCell ⟨g2, i, none⟩ (.int .i64 (x - (1 + by2)))) (some ⟨g2, 0, none⟩) (i + 1) E := fun j hj => by
            refine ⟨g2, 0, rfl, hg3, ?_⟩
            rw [Nat.zero_add]
            by_cases hji : j = i
            · subst hji
              rw [World.cell?_setCell_same _ _ _ hx9, hE, List.getElem?_set_self (by have := HN2.out.len; omega)]
              rfl
            · rw [World.cell?_setCell_other _ _ _ _ (by intro h; injection h with _ h2 _; exact hji h2.symm), hE, List.getElem?_set_ne (Ne.symm hji)]
              have := HN2.out.cell j hj
              rwa [Nat.zero_add] at this
          have hs10 : (w9.setCell ⟨g2, i, none⟩ (.int .i64 (x - (1 + by2)))).heap.size = w9.heap.size := by simp [World.setCell]
          obtain ⟨w10, hw10⟩ : ∃ w10, w9.setCell ⟨g2, i, none⟩ (.int .i64 (x - (1 + by2))) = w10 := ⟨_, rfl⟩
          rw [hw10] at hB10 hIE hs10 ⊢
          have HB10 := hide (HB9.out.trans (hB10.mono (by omega)))
          have hl18 := laid_any va (some ⟨b0, o0, none⟩) (some ⟨g2, 0, none⟩) (parts ln gs).length (i + 1) (i + 1) vc c cap2 (parts ln gs) (ls.take (i + 1)) E k w10.heap.size w10 (Nat.le_refl _) ((HPA9.out.below hB10 (by omega)).mono (by omega)) ((IntsIn.first (ints_below HLS.out HB10.out hB) (i + 1) (by omega)).mono (by omega)) (hIE.mono (by omega)) rfl
            (by have := HN.out; simp; omega) (by rw [hE]; have := HN2.out.len; simp at this ⊢; omega) (by have := parts_len ln gs; have := freeFn_ok HC.out; omega) (by omega)
            (fun j hj => by
              have h1 := pieces_at HP2.out j (by rw [HN.out]; omega)
              rw [List.getElem?_take]
              simp only [show j < i + 1 from hj, if_true]
              omega)
            (fun j hj => by
              rw [hE]
              by_cases hji : j = i
              · subst hji
                rw [List.getElem?_set_self (by have := HN2.out.len; omega)]
                simp only [Option.getD_some]
                omega
              · rw [List.getElem?_set_ne (Ne.symm hji), List.getElem?_take]
                simp only [show j < i + 1 from hj, if_true]
                have := ats_bound hk2 HPO.out hln.2 (pieces_pos HP2.out) j (by rw [← HT2.out]; omega)
                rw [← HT2.out] at this
                omega) hk2 (by omega)
          have hlf := laid_false hk2 HPO.out (pieces_pos HP2.out) HEM.out i (by rw [HN.out]; exact hin) (1 + by2) (by omega)
          rw [← HT2.out, ← HX.out, ← hE] at hlf
          rw [hlf] at hl18
          have HL18 := hide hl18
          clear hl18 hlf hIE hB10 hw10 hE hx9 hf9 c12b c12c M12b M12c HPA9 HN2
          refine HL18.out.mono ?_
          rintro e w11 ⟨rfl, hb11⟩
          have hs11 := hb11.size
          have HB11 := hide (HB10.out.trans (hb11.mono (by omega)))
          clear hb11 HL18
          have HA := hide (awake_any B w11 (HT.out.on (HB11.out.mono hB)) (by omega))
          go_wp2_with fail
          refine HA.out.mono ?_
          rintro e w12 ⟨rfl, hb12⟩
          have HB12 := hide (HB11.out.trans (hb12.mono (by omega)))
          clear hb12 HA
          go_wp2
          go_ret
          exact ⟨rfl, HB12.out⟩
    · rw [show okPieces ls = false by simpa using hp]
      clear hp
      go_wp2_with fail
      refine HA.out.mono ?_
      rintro e w3 ⟨rfl, hb3⟩
      have HB3 := hide (below_left HB2.out hb3 (by omega))
      clear hb3 HA
      go_wp2
      go_ret
      exact ⟨rfl, HB3.out⟩
  · rw [show decide (chk wd dp ln ct cs gs = 0) = false by simp [hc]]
    clear hc m4 m4b
    go_wp2_with fail
    have HA := hide (awake_any B w1 (HT.out.on (HB1.out.mono hB)) (by omega))
    refine HA.out.mono ?_
    rintro e w3 ⟨rfl, hb3⟩
    have HB3 := hide (below_left HB1.out hb3 (by omega))
    clear hb3 HA
    go_wp2
    go_ret
    exact ⟨rfl, HB3.out⟩
end Go.Proofs.YtfljmbdnnjjmoaaDoor
