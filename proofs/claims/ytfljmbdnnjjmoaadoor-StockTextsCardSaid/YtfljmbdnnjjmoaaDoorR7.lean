/-
  The reference's Fits: the walk.
-/
import Derived.Test.YtfljmbdnnjjmoaaDoorL8
namespace Go.Proofs.YtfljmbdnnjjmoaaDoor
open Go.RowKit Go.KP Go.Shelf

theorem fits_place {k q t n : Int} {r : List (Int × Int)} {ls : List Int} (h : q + n ≤ t) : fits k ((q, t) :: r) (n :: ls) = (q :: (fits k ((q + (n + k), t) :: r) ls).1, (fits k ((q + (n + k), t) :: r) ls).2) := by
  simp only [fits, fill]
  rw [if_pos h]
  rfl
theorem fits_skip {k q t n : Int} {r : List (Int × Int)} {ls : List Int} (h : ¬ q + n ≤ t) : fits k ((q, t) :: r) (n :: ls) = fits k r (n :: ls) := by
  simp only [fits, fill]
  rw [if_neg h]
  simp
theorem fits_done (k : Int) : ∀ ps : List (Int × Int), fits k ps [] = ([], []) := by
  intro ps
  induction ps with
  | nil => rfl
  | cons p r ih => obtain ⟨f, t⟩ := p; simp only [fits, fill, ih]; rfl
/-- The parts from p on, pieces being laid from q on in the first. -/
def partsFrom (P : List (Int × Int)) (p : Nat) (q : Int) : List (Int × Int) := if p < P.length then (q, gT P p) :: P.drop (p + 1) else []
theorem partsFrom_start (P : List (Int × Int)) (p : Nat) : partsFrom P p (gF P p) = P.drop p := by
  unfold partsFrom
  by_cases h : p < P.length
  · have e : (gF P p, gT P p) = P[p] := by simp [gF, gT, h]
    rw [if_pos h, e]
    exact (List.drop_eq_getElem_cons h).symm
  · rw [if_neg h, List.drop_eq_nil_of_le (by omega)]
/-- How the reference has come so far: part p, place a, in all i pieces at O. -/
structure RFits (k : Int) (P : List (Int × Int)) (ls : List Int) (p : Nat) (a : Int) (i : Nat) (O : List Int) : Prop where
  lp : p ≤ P.length
  la : 0 ≤ a ∧ a ≤ 65536
  todo : ∃ q : Int, (p < P.length → gF P p ≤ q ∧ max a (gF P p) = min q (gT P p)) ∧ O ++ (fits k (partsFrom P p q) (ls.drop i)).1 = (fits k P ls).1 ∧ (fits k (partsFrom P p q) (ls.drop i)).2 = (fits k P ls).2
  len : O.length = i
theorem RFits.start {k : Int} {P : List (Int × Int)} {ls : List Int} (hP : ∀ j, j < P.length → 0 ≤ gF P j ∧ gF P j < gT P j ∧ gT P j ≤ 65536) : RFits k P ls 0 0 0 [] := by
  refine ⟨Nat.zero_le _, ⟨by omega, by omega⟩, ⟨gF P 0, fun h => ?_, ?_, ?_⟩, rfl⟩
  · have := hP 0 h
    omega
  · rw [partsFrom_start]; simp
  · rw [partsFrom_start]; simp
theorem RFits.skip {k : Int} {P : List (Int × Int)} {ls : List Int} {p : Nat} {a : Int} {i : Nat} {O : List Int} (h : RFits k P ls p a i O) (hP : ∀ j, j < P.length → 0 ≤ gF P j ∧ gF P j < gT P j ∧ gT P j ≤ 65536) (hN : ∀ j, j + 1 < P.length → gT P j < gF P (j + 1))
    (hp : p < P.length) (hi : i < ls.length) (hn : 1 ≤ ls[i]?.getD 0) (ht : gT P p < max a (gF P p) + ls[i]?.getD 0) : RFits k P ls (p + 1) a i O := by
  obtain ⟨q, h1, h2, h3⟩ := h.todo
  obtain ⟨h4, h5⟩ := h1 hp
  have hb := hP p hp
  have hsk : fits k (partsFrom P p q) (ls.drop i) = fits k (partsFrom P (p + 1) (gF P (p + 1))) (ls.drop i) := by
    rw [partsFrom_start]
    unfold partsFrom
    rw [if_pos hp, List.drop_eq_getElem_cons hi]
    have e : ls[i]?.getD 0 = ls[i] := by simp [hi]
    rw [e] at hn ht
    exact fits_skip (by omega)
  refine ⟨hp, h.la, ⟨gF P (p + 1), fun h6 => ⟨Int.le_refl _, ?_⟩, ?_, ?_⟩, h.len⟩
  · have := hN p h6
    have := hP (p + 1) h6
    omega
  · rw [← hsk]; exact h2
  · rw [← hsk]; exact h3
theorem RFits.place {k : Int} {P : List (Int × Int)} {ls : List Int} {p : Nat} {a : Int} {i : Nat} {O : List Int} (h : RFits k P ls p a i O) (hP : ∀ j, j < P.length → 0 ≤ gF P j ∧ gF P j < gT P j ∧ gT P j ≤ 65536) (hk : 0 ≤ k)
    (hp : p < P.length) (hi : i < ls.length) (hn : 1 ≤ ls[i]?.getD 0) (ht : ¬ gT P p < max a (gF P p) + ls[i]?.getD 0) : RFits k P ls p (min (max a (gF P p) + ls[i]?.getD 0 + k) (gT P p)) (i + 1) (O ++ [max a (gF P p)]) := by
  obtain ⟨q, h1, h2, h3⟩ := h.todo
  obtain ⟨h4, h5⟩ := h1 hp
  have hb := hP p hp
  have e : ls[i]?.getD 0 = ls[i] := by simp [hi]
  have hq : max a (gF P p) = q := by omega
  have hpl : fits k (partsFrom P p q) (ls.drop i) = (q :: (fits k (partsFrom P p (q + (ls[i]?.getD 0 + k))) (ls.drop (i + 1))).1, (fits k (partsFrom P p (q + (ls[i]?.getD 0 + k))) (ls.drop (i + 1))).2) := by
    unfold partsFrom
    rw [if_pos hp, if_pos hp, List.drop_eq_getElem_cons hi, e]
    exact fits_place (by rw [e] at ht hn; omega)
  refine ⟨h.lp, by omega, ⟨q + (ls[i]?.getD 0 + k), fun _ => ⟨by omega, by omega⟩, ?_, ?_⟩, by simp [h.len]⟩
  · rw [hpl] at h2
    rw [hq]
    simpa using h2
  · rw [hpl] at h3
    exact h3
theorem RFits.stuck {k : Int} {P : List (Int × Int)} {ls : List Int} {p : Nat} {a : Int} {i : Nat} {O : List Int} (h : RFits k P ls p a i O) (hp : ¬ p < P.length) (hi : i < ls.length) : (fits k P ls).2.isEmpty = false := by
  obtain ⟨q, _, _, h3⟩ := h.todo
  unfold partsFrom at h3
  rw [if_neg hp, List.drop_eq_getElem_cons hi] at h3
  rw [← h3]
  rfl
theorem RFits.done {k : Int} {P : List (Int × Int)} {ls : List Int} {p : Nat} {a : Int} {i : Nat} {O : List Int} (h : RFits k P ls p a i O) (hi : ls.length ≤ i) : (fits k P ls).2.isEmpty = true ∧ (fits k P ls).1 = O := by
  obtain ⟨q, _, h2, h3⟩ := h.todo
  rw [List.drop_eq_nil_of_le hi, fits_done] at h2 h3
  rw [← h3, ← h2]
  simp

/-- What Fits returns: an error, or whether and where. -/
def fitsIs (c k ln : Int) (gs : List (Int × Int)) (ls : List Int) : Bool := decide (fitErr c k ls = 0) && (fits k (parts ln gs) ls).2.isEmpty
def fitsL (c k ln : Int) (gs : List (Int × Int)) (ls : List Int) : List Int := if fitsIs c k ln gs ls then (fits k (parts ln gs) ls).1 else []
def FitsRes (c k ln : Int) (gs : List (Int × Int)) (ls : List Int) (r : Value) (w' : World) : Prop := ∃ v, r = .tuple #[v, .bool (fitsIs c k ln gs ls), .int .i64 (fitErr c k ls)] ∧ SlAt w'.heap.size w' 1 v (fitsL c k ln gs ls).length ((fitsL c k ln gs ls).map (Value.int .i64))
theorem fitsRes_err {c k ln : Int} {gs : List (Int × Int)} {ls : List Int} {E : Int} (h : fitErr c k ls = E) (hE : E ≠ 0) (w : World) : FitsRes c k ln gs ls (.tuple #[.slice none 0 0, .bool false, .int .i64 E]) w := by
  have h1 : fitsIs c k ln gs ls = false := by unfold fitsIs; rw [h]; simp [hE]
  refine ⟨_, by rw [h1, h], ?_⟩
  unfold fitsL
  rw [h1]
  exact SlAt.nil _ _ _

set_option maxRecDepth 100000 in
set_option maxHeartbeats 2000000 in
theorem rfits_any (wd dp ln ct cs k : Int) (gv : Value) (gs : List (Int × Int)) (A : Option Addr) (n c : Nat) (ls : List Int) (B : Nat) (w : World) (hg : SlAt B w 2 gv gs.length (pcells gs)) (hB : B ≤ w.heap.size) (hn : ls.length = n) (hnm : n ≤ 1000000) (hls : IntsIn B w A n ls) :
    Calls Tryd.prog 43 #[barV wd dp ln ct cs gv, .slice A n c, .int .i64 k] w (RetEx w (FitsRes (chk wd dp ln ct cs gs) k ln gs ls)) := by
  obtain ⟨ga, gc, hgv⟩ := SlAt.form hg
  subst hgv
  have HG := hide hg; have HLS := hide hls; have HN := hide hn
  have HF := hide (rfree_any wd dp ln ct cs (.slice ga gs.length gc) gs B (w.alloc (.cells #[.int .i64 wd, .int .i64 dp, .int .i64 ln, .int .i64 ct, .int .i64 cs, .slice ga gs.length gc] 24)) (HG.out.below (n0 := w.heap.size) ((Below.refl _ _).alloc (Nat.le_refl _) _) hB) (by simp; omega))
  clear hg hls hn
  go_enter Tryd.func43, Tryd.ntmps43
  go_wp2_with fail
  refine HF.out.mono ?_
  rintro e w1 ⟨r, rfl, hb1, v1, rfl, hv1⟩
  have HB1 := hide (below_one hb1)
  have hs1 := (below_one hb1).size
  clear hb1 HF
  obtain ⟨C, hC⟩ : ∃ C, C = chk wd dp ln ct cs gs := ⟨_, rfl⟩
  by_cases hc : chk wd dp ln ct cs gs = 0
  · rw [if_pos hc] at hv1 ⊢
    cases hk : btw k 0 100 with
    | false =>
      have HR := hide (fitsRes_err (c := chk wd dp ln ct cs gs) (k := k) (ln := ln) (gs := gs) (ls := ls) (E := 2) (by simp [fitErr, kerfErr, hc, hk]) (by decide))
      clear hv1 hc hC
      go_wp2_with (first | (go_at_call 55; refine (outside_any _ _ _ _).mono ?_; rintro e w' ⟨rfl, rfl⟩; rw [hk]) | fail)
      go_ret3
      exact ⟨_, rfl, HB1.out, HR.out _⟩
    | true =>
      by_cases h64 : 64 < n
      · have HR := hide (fitsRes_err (c := chk wd dp ln ct cs gs) (k := k) (ln := ln) (gs := gs) (ls := ls) (E := 4) (by have := HN.out; simp [fitErr, kerfErr, hc, hk]; omega) (by decide))
        have h64i : (64 : Int) < (n : Int) := by omega
        clear hv1 hc hC
        go_wp2_with (first | (go_at_call 55; refine (outside_any _ _ _ _).mono ?_; rintro e w' ⟨rfl, rfl⟩; rw [hk]) | fail)
        go_ret3
        exact ⟨_, rfl, HB1.out, HR.out _⟩
      · have h64i : ¬ (64 : Int) < (n : Int) := by omega
        have hfe : fitErr (chk wd dp ln ct cs gs) k ls = if ls.any (fun x => !btw x 1 65536) then 2 else 0 := by
          unfold fitErr
          have : kerfErr (chk wd dp ln ct cs gs) k = 0 := by simp [kerfErr, hc, hk]
          rw [if_pos this, if_neg (by rw [HN.out]; exact h64)]
        have HFE := hide hfe; have HV1 := hide hv1; have HC := hide hc; have HK := hide (btw_iff.1 hk)
        clear hv1 hc hC hfe h64
        go_wp2_with (first | (go_at_call 55; refine (outside_any _ _ _ _).mono ?_; rintro e w' ⟨rfl, rfl⟩; rw [hk]) | fail)
        go_loopw [11] (fun i wr => ∃ j : Nat, j ≤ n ∧ i = .int .i64 j ∧ wr = w1 ∧ Hid (∀ i, i < j → btw (ls[i]?.getD 0) 1 65536 = true)) (fun i _ => n - (intOf i).toNat)
        case atStart => exact ⟨0, Nat.zero_le _, rfl, rfl, hide (fun i hi => by omega)⟩
        case round =>
          obtain ⟨j, hj, rfl, rfl, hin⟩ := hrel
          by_cases hlt : j < n
          · obtain ⟨b, o, rfl, hb, hcell⟩ := HLS.out.below HB1.out hB j hlt
            have e3 : (j : Int) < (n : Int) := by omega
            have hbl : b < wr.heap.size := by omega
            cases hbt : btw (ls[j]?.getD 0) 1 65536 with
            | false =>
              have HR := hide (fitsRes_err (c := chk wd dp ln ct cs gs) (k := k) (ln := ln) (gs := gs) (ls := ls) (E := 2) (by
                rw [HFE.out, if_pos]
                rw [List.any_eq_true]
                have hjl : j < ls.length := by rw [HN.out]; exact hlt
                refine ⟨ls[j], List.getElem_mem hjl, ?_⟩
                have e : ls[j]?.getD 0 = ls[j] := by simp [hjl]
                rw [e] at hbt
                rw [hbt]
                rfl) (by decide))
              go_wp2_with (first | (go_at_call 55; refine (outside_any _ _ _ _).mono ?_; rintro e w' ⟨rfl, rfl⟩; rw [hbt]) | fail)
              go_ret3
              exact ⟨_, rfl, HB1.out, HR.out _⟩
            | true =>
              go_wp2_with (first | (go_at_call 55; refine (outside_any _ _ _ _).mono ?_; rintro e w' ⟨rfl, rfl⟩; rw [hbt]) | fail)
              go_roundw
              case rel =>
                refine ⟨j + 1, by omega, by go_num, trivial, hide fun i hi => ?_⟩
                by_cases hij : i = j
                · rw [hij]; exact hbt
                · exact hin.out i (by omega)
              case measure => simp [intOf]; omega
          · obtain rfl : j = n := by omega
            have hok : ls.any (fun x => !btw x 1 65536) = false := by
              rw [List.any_eq_false]
              intro x hx
              obtain ⟨i, hi, rfl⟩ := List.mem_iff_getElem.1 hx
              have h1 := hin.out i (by rw [← HN.out]; exact hi)
              have e : ls[i]?.getD 0 = ls[i] := by simp [hi]
              rw [e] at h1
              simp [h1]
            have hfe0 : fitErr (chk wd dp ln ct cs gs) k ls = 0 := by rw [HFE.out, hok]; rfl
            have HF0 := hide hfe0
            clear hok hfe0
            have hfr := HV1.out
            obtain ⟨va, vc, hva⟩ := owns_form hfr
            subst hva
            have hpo := chk_parts HC.out
            have hln := chk_ln HC.out
            have hpl := parts_len ln gs
            have hg16 := freeFn_ok HC.out
            obtain ⟨P, hP⟩ : ∃ P, P = parts ln gs := ⟨_, rfl⟩
            have hPA := (SlAt.gapsIn (SlAt.of_owns hfr)).2
            rw [← hP] at hPA hpo hpl ⊢
            have hPb : ∀ i, i < P.length → 0 ≤ gF P i ∧ gF P i < gT P i ∧ gT P i ≤ 65536 := fun i hi => by
              have := partsOk_at P ln 0 hpo i hi
              omega
            have hPn : ∀ i, i + 1 < P.length → gT P i < gF P (i + 1) := partsOk_next P ln 0 hpo
            have HPA := hide hPA; have HPB := hide hPb; have HPN := hide hPn; have HP := hide hP
            have hP17 : P.length ≤ 17 := by omega
            obtain ⟨hk0, hk1⟩ := HK.out
            obtain ⟨i0, hi0, hz0, hz1, hz2⟩ := info_parts info3
            have HI0 := hide hi0; have HZ0 := hide hz0; have HZ1 := hide hz1; have HZ2 := hide hz2
            clear hfr hpo hln hpl hg16 hP hPA hPb hPn hi0 hz0 hz1 hz2 HV1 HFE hj hlt hnm
            obtain ⟨wo, hwo⟩ : ∃ wo, wo = wr := ⟨_, rfl⟩
            subst hwo
            go_wp2_with fail
            go_loopw [12, 13, 14, 15] (fun o p a i w2 => ∃ (m q : Nat) (z : Int) (O : List Int), m ≤ j ∧ q ≤ P.length ∧ i = .int .i64 m ∧ p = .int .i64 q ∧ a = .int .i64 z ∧ Hid (RFits k P ls q z m O ∧ w2.ownsRow wo.heap.size 3 1 o O.length (O.map (Value.int .i64)) ∧ Below wo.heap.size wo w2)) (fun _ _ _ i _ => j - (intOf i).toNat)
            case atStart => exact ⟨0, 0, 0, [], Nat.zero_le _, Nat.zero_le _, rfl, rfl, rfl, RFits.start HPB.out, World.ownsRow_nil _ _ _ _, Below.refl _ _⟩
            case round =>
              obtain ⟨m, q, z, O, hm, hq, rfl, rfl, rfl, hrf⟩ := hrel
              obtain ⟨w2, hw2⟩ : ∃ w2, w2 = wr := ⟨_, rfl⟩
              subst hw2
              have hs2 := hrf.out.2.2.size
              by_cases hlt : m < j
              · have hml : m < ls.length := by rw [HN.out]; exact hlt
                have e3 : (m : Int) < (j : Int) := by omega
                obtain ⟨b, o, rfl, hb, hcell⟩ := HLS.out.below (HB1.out.trans (hrf.out.2.2.mono hs1)) hB m hlt
                have hval := btw_iff.1 (hin.out m hlt)
                obtain ⟨y, hy⟩ : ∃ y, y = ls[m]?.getD 0 := ⟨_, rfl⟩
                rw [← hy] at hcell hval
                have HY := hide hy
                obtain ⟨hv1, hv2⟩ := hval
                have hbl : b < w2.heap.size := by omega
                have hla := hrf.out.1.la
                clear hy
                go_wp2_with fail
                go_loopw [13] (fun p w3 => ∃ (q : Nat), q ≤ P.length ∧ p = .int .i64 q ∧ Hid (RFits k P ls q z m O ∧ ∃ d, w3 = w2.drewN d)) (fun p _ => P.length - (intOf p).toNat)
                case atStart => exact ⟨q, hq, rfl, hrf.out.1, 0, rfl⟩
                case round =>
                  obtain ⟨q, hq, rfl, hrf2⟩ := hrel
                  obtain ⟨d, hd⟩ := hrf2.out.2
                  have hcw : ∀ x, wr.cell? x = w2.cell? x := fun x => by rw [hd]; rfl
                  have hcell2 := (hcw _).trans hcell
                  have hsz2 : wr.heap.size = w2.heap.size := by rw [hd]; rfl
                  have HD := hide hd
                  have hbl2 : b < wr.heap.size := by omega
                  clear hd
                  by_cases hp : q < P.length
                  · obtain ⟨b1, o1, rfl, hb1, x1, x2⟩ := HPA.out.below hrf.out.2.2 (Nat.le_refl _) q hp
                    obtain ⟨p1, p2, p3⟩ := HPB.out q hp
                    obtain ⟨f, hf⟩ : ∃ f, f = gF P q := ⟨_, rfl⟩
                    obtain ⟨t, ht⟩ : ∃ t, t = gT P q := ⟨_, rfl⟩
                    rw [← hf] at x1 p1 p2
                    rw [← ht] at x2 p2 p3
                    have y1 := (hcw _).trans x1
                    have y2 := (hcw _).trans x2
                    have HF := hide hf; have HT := hide ht
                    have hb1l : b1 < wr.heap.size := by omega
                    have e4 : (q : Int) < (P.length : Int) := by omega
                    have hlz := hla.1
                    have hlz2 := hla.2
                    have e5 : IntKind.i64.wrap (max z f + y) = max z f + y := IntWalk.i64_in _ (by omega)
                    clear hf ht x1 x2 hcw hcell
                    by_cases hgt : t < max z f + y
                    · have hnext := RFits.skip hrf2.out.1 HPB.out HPN.out hp hml (by rw [← HY.out]; exact hv1) (by rw [← HF.out, ← HT.out, ← HY.out]; exact hgt)
                      have HNX := hide hnext
                      clear hnext
                      go_wp2_with fail
                      go_quiet (fail)
                      go_wp2_with fail
                      go_roundw
                      case rel =>
                        refine ⟨q + 1, by omega, by go_num, HNX.out, d + nq, ?_⟩
                        rw [HD.out, World.drewN_drewN]
                      case measure => simp [intOf]; omega
                    · have hplace := RFits.place hrf2.out.1 HPB.out hk0 hp hml (by rw [← HY.out]; exact hv1) (by rw [← HF.out, ← HT.out, ← HY.out]; exact hgt)
                      rw [← HF.out, ← HT.out, ← HY.out] at hplace
                      have HPL := hide hplace
                      have hle : max z f + y ≤ t := by omega
                      have hgtd : decide (t < max z f + y) = false := by simpa using hgt
                      have hne : ((q : Int) == (P.length : Int)) = false := beq_eq_false_iff_ne.2 (by omega)
                      clear hplace hgt
                      go_wp2_with fail
                      go_quiet (fail)
                      clear e5
                      obtain ⟨w4, hw4⟩ : ∃ w4, w4 = wr.drewN nq := ⟨_, rfl⟩
                      have hb24 : Below w2.heap.size w2 w4 := by
                        rw [hw4, HD.out]
                        exact below_drewN (below_drewN (Below.refl _ _) d) nq
                      have hs4 : w2.heap.size ≤ w4.heap.size := by rw [hw4]; exact Nat.le_of_eq hsz2.symm
                      have hOl := hrf2.out.1.len
                      have HOW := hide (show w4.ownsRow wo.heap.size 3 1 u12 O.length (O.map (Value.int .i64)) from owns_stay hrf.out.2.1 (fun r hr => hb24.block r (hrf.out.2.1.lt r hr).2))
                      have HB4 := hide (hrf.out.2.2.trans (hb24.mono hs2))
                      have HNW := hide (show ∀ j u, ([.int .i64 (max z f)] : List Value)[j]? = some u → (w4.alloc (.cells #[.int .i64 (max z f)] 3)).cell? ((⟨w4.heap.size, 0, none⟩ : Addr).add j) = some u from World.news_of_block (cs := #[.int .i64 (max z f)]) (t := 3) (fr := (0, 0)) (heap_alloc_new w4 _))
                      have z1 : w4.cell? ⟨b, o + m, none⟩ = some (.int .i64 y) := by rw [hw4]; exact hcell2
                      have z2 : w4.cell? ⟨b1, o1 + q * 2, none⟩ = some (.int .i64 f) := by rw [hw4]; exact y1
                      have z3 : w4.cell? ⟨b1, o1 + q * 2 + 1, none⟩ = some (.int .i64 t) := by rw [hw4]; exact y2
                      have zl : b < w4.heap.size := by omega
                      have zl1 : b1 < w4.heap.size := by omega
                      have hnb : some b ≠ u12.ownBlock := owns_ne HOW.out (by omega)
                      have hnb1 : some b1 ≠ u12.ownBlock := owns_ne HOW.out (by omega)
                      rw [← hw4]
                      clear hb24 hw4 hcell2 y1 y2 hsz2
                      go_wp2_with (at_builtin; go_must (refine wpList_append_own _ rfl (.tmp 83) (.tmp 85) 34 rfl wo.heap.size 3 i0 (.int .i64 0) 1 8 Tryd.underlying34 HI0.out HZ0.out HZ1.out HZ2.out rfl (by decide) u12 _ _ rfl (HOW.out.alloc _) ⟨w4.heap.size, 0, none⟩ 1 1 [.int .i64 (max z f)] rfl rfl HNW.out (by simp [Value.oneCell']) (by simp only [maxLen]; omega) (by omega) (by simp; omega) ?_); intro v5 w5 hown5 hg5 hiff; clear hiff; have HO5 := hide hown5; have HG5 := hide hg5; have k1 := hg5.cell ((World.cell?_alloc_past _ _ _ zl).trans z1) hnb; have k2 := hg5.cell ((World.cell?_alloc_past _ _ _ zl1).trans z2) hnb1; have k3 := hg5.cell ((World.cell?_alloc_past _ _ _ zl1).trans z3) hnb1; have k4 : b < w5.heap.size := Nat.lt_of_lt_of_le zl (Nat.le_trans (by simp) hg5.size); have k5 : b1 < w5.heap.size := Nat.lt_of_lt_of_le zl1 (Nat.le_trans (by simp) hg5.size); clear hown5 hg5 z1 z2 z3)
                      go_roundw
                      case rel =>
                        refine ⟨m + 1, q, min (max z f + y + k) t, O ++ [max z f], by omega, hq, by go_num, rfl, rfl, HPL.out, ?_, (HB4.out.alloc (by omega) _).grown HG5.out (by simp; omega) (owns_ge HOW.out (Nat.le_refl _))⟩
                        have h5 := HO5.out
                        rw [kcells_snoc, List.length_append]
                        simpa using h5
                      case measure => simp [intOf]; omega
                  · obtain rfl : q = P.length := by omega
                    have hst := hrf2.out.1.stuck (Nat.lt_irrefl _) hml
                    have hqd : decide ((P.length : Int) < (P.length : Int)) = false := by simp
                    have hqe : ((P.length : Int) == (P.length : Int)) = true := by simp
                    have hR : FitsRes (chk wd dp ln ct cs gs) k ln gs ls (.tuple #[.slice none 0 0, .bool false, .int .i64 0]) wr → True := fun _ => trivial
                    have HST := hide hst
                    have HBW := hide (show Below wo.heap.size wo wr by rw [HD.out]; exact below_drewN hrf.out.2.2 d)
                    clear hst hR hcw hcell hcell2
                    go_wp2_with fail
                    go_quiet (fail)
                    go_wp2_with fail
                    go_ret3
                    have his : fitsIs (chk wd dp ln ct cs gs) k ln gs ls = false := by
                      unfold fitsIs
                      rw [← HP.out, HST.out]
                      simp
                    refine ⟨_, rfl, HB1.out.trans ((below_drewN HBW.out _).mono hs1), .slice none 0 0, by rw [his, HF0.out]; rfl, ?_⟩
                    unfold fitsL
                    rw [his]
                    exact SlAt.nil _ _ _
              · obtain rfl : m = j := by omega
                obtain ⟨hdn, hdl⟩ := hrf.out.1.done (by rw [HN.out]; exact Nat.le_refl _)
                have HDN := hide hdn; have HDL := hide hdl
                clear hdn hdl
                go_wp2_with fail
                go_ret3
                have his : fitsIs (chk wd dp ln ct cs gs) k ln gs ls = true := by
                  unfold fitsIs
                  rw [← HP.out, HDN.out, HF0.out]
                  rfl
                refine ⟨_, rfl, HB1.out.trans (hrf.out.2.2.mono hs1), u12, by rw [his, HF0.out]; rfl, ?_⟩
                unfold fitsL
                rw [his, if_pos rfl, ← HP.out, HDL.out]
                exact SlAt.of_owns hrf.out.2.1
  · have hke : fitErr (chk wd dp ln ct cs gs) k ls = 1 := by simp [fitErr, kerfErr, hc]
    have HR := hide (fitsRes_err (c := chk wd dp ln ct cs gs) (k := k) (ln := ln) (gs := gs) (ls := ls) (E := 1) hke (by decide))
    rw [if_neg hc]
    clear hv1 hc hke hC
    go_wp2_with fail
    go_ret3
    exact ⟨_, rfl, HB1.out, HR.out _⟩
end Go.Proofs.YtfljmbdnnjjmoaaDoor
