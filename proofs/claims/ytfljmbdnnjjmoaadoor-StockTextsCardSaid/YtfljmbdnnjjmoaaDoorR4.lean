/-
  OfSection, the program's and the reference's; a clone of bars: the walks.
-/
import Derived.Test.YtfljmbdnnjjmoaaDoorR3
namespace Go.Proofs.YtfljmbdnnjjmoaaDoor
open Go.RowKit Go.KP Go.Shelf

def ofSec (l : List Br) (a b : Int) (i : Nat) : Bool := decide ((bAt l i).wd = a) && decide ((bAt l i).dp = b)
/-- The numbers below k of the bars of a section. -/
def secTo (l : List Br) (a b : Int) (k : Nat) : List Int := ((List.range k).filter (ofSec l a b)).map fun i : Nat => (i : Int)
theorem secTo_succ (l : List Br) (a b : Int) (k : Nat) : secTo l a b (k + 1) = if ofSec l a b k then secTo l a b k ++ [(k : Int)] else secTo l a b k := by
  unfold secTo
  rw [List.range_succ, List.filter_append, List.map_append]
  by_cases h : ofSec l a b k = true
  · rw [if_pos h]
    simp [h]
  · rw [if_neg h]
    simp [h]
theorem secTo_len (l : List Br) (a b : Int) (k : Nat) : (secTo l a b k).length ≤ k := by
  unfold secTo
  rw [List.length_map]
  have := List.length_filter_le (ofSec l a b) (List.range k)
  simpa using this
theorem mem_secTo {l : List Br} {a b : Int} {k : Nat} {x : Int} : x ∈ secTo l a b k ↔ ∃ i, i < k ∧ ofSec l a b i = true ∧ x = i := by
  unfold secTo
  simp only [List.mem_map, List.mem_filter, List.mem_range]
  constructor
  · rintro ⟨i, ⟨h1, h2⟩, rfl⟩
    exact ⟨i, h1, h2, rfl⟩
  · rintro ⟨i, h1, h2, rfl⟩
    exact ⟨i, ⟨h1, h2⟩, rfl⟩
theorem kcells_snoc (O : List Int) (x : Int) : (O ++ [x]).map (Value.int .i64) = O.map (Value.int .i64) ++ [.int .i64 x] := by simp

set_option maxRecDepth 100000 in
set_option maxHeartbeats 1000000 in
theorem sec_any (v : Value) (l : List Br) (a b : Int) (B : Nat) (w : World) (hg : BarsAt B w v l) (hB : B ≤ w.heap.size) (hl : l.length ≤ 1000000) :
    Calls Tryd.prog 33 #[v, .int .i64 a, .int .i64 b] w (RetEx w fun r w' => w'.ownsRow w.heap.size 3 1 r (secTo l a b l.length).length ((secTo l a b l.length).map (Value.int .i64))) := by
  obtain ⟨ga, gc, hv⟩ := SlAt.form hg.1
  subst hv
  have HG := hide hg
  clear hg
  obtain ⟨i0, hi0, hz0, hz1, hz2⟩ := info_parts info3
  go_enter Tryd.func33, Tryd.ntmps33
  go_wp2_with fail
  go_loopw [7, 12] (fun s i wr => ∃ k : Nat, k ≤ l.length ∧ i = .int .i64 k ∧ Hid (wr.ownsRow w.heap.size 3 1 s (secTo l a b k).length ((secTo l a b k).map (Value.int .i64)) ∧ Below w.heap.size w wr)) (fun _ i _ => l.length - (intOf i).toNat)
  case atStart => exact ⟨0, Nat.zero_le _, rfl, World.ownsRow_nil _ _ _ _, Below.refl _ _⟩
  case round =>
    obtain ⟨k, hk, rfl, hin⟩ := hrel
    have hsz := hin.out.2.size
    by_cases hlt : k < l.length
    · rcases (HG.out.below hin.out.2 hB).rows with ⟨_, _, _, h0⟩ | ⟨bb, o, cap, hv, hb, hc⟩
      · rw [h0] at hlt
        simp at hlt
      · cases hv
        obtain ⟨x1, x2, x3, x4, x5, x6⟩ := hc k hlt
        obtain ⟨ha, hc2, hgv⟩ := SlAt.form (HG.out.2 k hlt)
        rw [hgv] at x6
        have e3 : (k : Int) < l.length := by omega
        have hbb : bb < wr.heap.size := by omega
        have hln := secTo_len l a b k
        have hst := secTo_succ l a b k
        have HST := hide hst
        obtain ⟨bw, hbw⟩ : ∃ bw, bw = (bAt l k).wd := ⟨_, rfl⟩
        obtain ⟨bd, hbd⟩ : ∃ bd, bd = (bAt l k).dp := ⟨_, rfl⟩
        have hof : ofSec l a b k = (decide (bw = a) && decide (bd = b)) := by rw [hbw, hbd]; rfl
        rw [← hbw] at x1
        rw [← hbd] at x2
        have HOF := hide hof
        have HALL := hide (show Below w.heap.size w (wr.alloc (.cells #[.int .i64 bw, .int .i64 bd, .int .i64 (bAt l k).ln, .int .i64 (bAt l k).ct, .int .i64 (bAt l k).cs, .slice ha (bAt l k).gs.length hc2] 24)) from hin.out.2.alloc hsz _)
        have HOW := hide (show (wr.alloc (.cells #[.int .i64 bw, .int .i64 bd, .int .i64 (bAt l k).ln, .int .i64 (bAt l k).ct, .int .i64 (bAt l k).cs, .slice ha (bAt l k).gs.length hc2] 24)).ownsRow w.heap.size 3 1 u7 (secTo l a b k).length ((secTo l a b k).map (Value.int .i64)) from hin.out.1.alloc _)
        clear hc hgv hst hbw hbd hof
        by_cases h1 : bw = a
        · have h1b : (bw == a) = true := by simpa using h1
          by_cases h2 : bd = b
          · have h2b : (bd == b) = true := by simpa using h2
            have hof2 : secTo l a b (k + 1) = secTo l a b k ++ [(k : Int)] := by rw [HST.out, HOF.out]; simp [h1, h2]
            have HO2 := hide hof2
            have hnw : ∀ j u, ([.int .i64 (k : Int)] : List Value)[j]? = some u → ((wr.alloc (.cells #[.int .i64 bw, .int .i64 bd, .int .i64 (bAt l k).ln, .int .i64 (bAt l k).ct, .int .i64 (bAt l k).cs, .slice ha (bAt l k).gs.length hc2] 24)).alloc (.cells #[.int .i64 (k : Int)] 3)).cell? ((⟨wr.heap.size + 1, 0, none⟩ : Addr).add j) = some u := by
              have := World.news_of_block (cs := #[.int .i64 (k : Int)]) (t := 3) (fr := (0, 0)) (heap_alloc_new (wr.alloc (.cells #[.int .i64 bw, .int .i64 bd, .int .i64 (bAt l k).ln, .int .i64 (bAt l k).ct, .int .i64 (bAt l k).cs, .slice ha (bAt l k).gs.length hc2] 24)) (.cells #[.int .i64 (k : Int)] 3))
              simpa using this
            have HNW := hide hnw
            clear hof2 h1 h2 hnw
            go_wp2_with (at_builtin; go_must (refine wpList_append_own _ rfl (.tmp 27) (.tmp 29) 34 rfl w.heap.size 3 i0 (.int .i64 0) 1 8 Tryd.underlying34 hi0 hz0 hz1 hz2 rfl (by decide) u7 _ _ rfl (HOW.out.alloc _) ⟨wr.heap.size + 1, 0, none⟩ 1 1 [.int .i64 k] rfl rfl HNW.out (by simp [Value.oneCell']) (by simp only [maxLen]; omega) (by omega) (by simp; omega) ?_); intro v1 w1 hown hg1 _; have HOW2 := hide hown; have HGR := hide hg1; clear hown hg1)
            go_roundw
            case rel =>
              refine ⟨k + 1, by omega, by go_num, ?_, (HALL.out.alloc (by simp; omega) _).grown HGR.out (by simp; omega) (owns_ge hin.out.1 (Nat.le_refl _))⟩
              rw [HO2.out, kcells_snoc, List.length_append]
              simpa using HOW2.out
            case measure => simp [intOf]; omega
          · have h2b : (bd == b) = false := by simpa using h2
            have hof2 : secTo l a b (k + 1) = secTo l a b k := by rw [HST.out, HOF.out]; simp [h2]
            have HO2 := hide hof2
            clear hof2 h1 h2
            go_wp2_with fail
            go_roundw
            case rel => exact ⟨k + 1, by omega, by go_num, by rw [HO2.out]; exact HOW.out, HALL.out⟩
            case measure => simp [intOf]; omega
        · have h1b : (bw == a) = false := by simpa using h1
          have hof2 : secTo l a b (k + 1) = secTo l a b k := by rw [HST.out, HOF.out]; simp [h1]
          have HO2 := hide hof2
          clear hof2 h1
          go_wp2_with fail
          go_roundw
          case rel => exact ⟨k + 1, by omega, by go_num, by rw [HO2.out]; exact HOW.out, HALL.out⟩
          case measure => simp [intOf]; omega
    · obtain rfl : k = l.length := by omega
      go_wp2_with fail
      go_ret
      exact ⟨u7, rfl, hin.out.2, hin.out.1⟩
set_option maxRecDepth 100000 in
set_option maxHeartbeats 1000000 in
theorem rsec_any (v : Value) (l : List Br) (a b : Int) (B : Nat) (w : World) (hg : BarsAt B w v l) (hB : B ≤ w.heap.size) (hl : l.length ≤ 1000000) :
    Calls Tryd.prog 34 #[v, .int .i64 a, .int .i64 b] w (RetEx w fun r w' => w'.ownsRow w.heap.size 3 1 r (secTo l a b l.length).length ((secTo l a b l.length).map (Value.int .i64))) := by
  obtain ⟨ga, gc, hv⟩ := SlAt.form hg.1
  subst hv
  have HG := hide hg
  clear hg
  obtain ⟨i0, hi0, hz0, hz1, hz2⟩ := info_parts info3
  go_enter Tryd.func34, Tryd.ntmps34
  go_wp2_with fail
  go_loopw [7, 8] (fun s i wr => ∃ k : Nat, k ≤ l.length ∧ i = .int .i64 k ∧ Hid (wr.ownsRow w.heap.size 3 1 s (secTo l a b k).length ((secTo l a b k).map (Value.int .i64)) ∧ Below w.heap.size w wr)) (fun _ i _ => l.length - (intOf i).toNat)
  case atStart => exact ⟨0, Nat.zero_le _, rfl, World.ownsRow_nil _ _ _ _, Below.refl _ _⟩
  case round =>
    obtain ⟨k, hk, rfl, hin⟩ := hrel
    have hsz := hin.out.2.size
    by_cases hlt : k < l.length
    · rcases (HG.out.below hin.out.2 hB).rows with ⟨_, _, _, h0⟩ | ⟨bb, o, cap, hv, hb, hc⟩
      · rw [h0] at hlt
        simp at hlt
      · cases hv
        obtain ⟨x1, x2, x3, x4, x5, x6⟩ := hc k hlt
        obtain ⟨ha, hc2, hgv⟩ := SlAt.form (HG.out.2 k hlt)
        rw [hgv] at x6
        have e3 : (k : Int) < l.length := by omega
        have hbb : bb < wr.heap.size := by omega
        have hln := secTo_len l a b k
        have hst := secTo_succ l a b k
        have HST := hide hst
        obtain ⟨bw, hbw⟩ : ∃ bw, bw = (bAt l k).wd := ⟨_, rfl⟩
        obtain ⟨bd, hbd⟩ : ∃ bd, bd = (bAt l k).dp := ⟨_, rfl⟩
        have hof : ofSec l a b k = (decide (bw = a) && decide (bd = b)) := by rw [hbw, hbd]; rfl
        rw [← hbw] at x1
        rw [← hbd] at x2
        have HOF := hide hof
        have HALL := hide (show Below w.heap.size w wr from hin.out.2)
        have HOW := hide (show wr.ownsRow w.heap.size 3 1 u7 (secTo l a b k).length ((secTo l a b k).map (Value.int .i64)) from hin.out.1)
        clear hc hgv hst hbw hbd hof
        by_cases h1 : bw = a
        · have h1b : (bw == a) = true := by simpa using h1
          by_cases h2 : bd = b
          · have h2b : (bd == b) = true := by simpa using h2
            have hof2 : secTo l a b (k + 1) = secTo l a b k ++ [(k : Int)] := by rw [HST.out, HOF.out]; simp [h1, h2]
            have HO2 := hide hof2
            have hnw : ∀ j u, ([.int .i64 (k : Int)] : List Value)[j]? = some u → (wr.alloc (.cells #[.int .i64 (k : Int)] 3)).cell? ((⟨wr.heap.size, 0, none⟩ : Addr).add j) = some u := by
              have := World.news_of_block (cs := #[.int .i64 (k : Int)]) (t := 3) (fr := (0, 0)) (heap_alloc_new wr (.cells #[.int .i64 (k : Int)] 3))
              simpa using this
            have HNW := hide hnw
            clear hof2 h1 h2 hnw
            go_wp2_with (at_builtin; go_must (refine wpList_append_own _ rfl (.tmp 31) (.tmp 33) 34 rfl w.heap.size 3 i0 (.int .i64 0) 1 8 Tryd.underlying34 hi0 hz0 hz1 hz2 rfl (by decide) u7 _ _ rfl (HOW.out.alloc _) ⟨wr.heap.size, 0, none⟩ 1 1 [.int .i64 k] rfl rfl HNW.out (by simp [Value.oneCell']) (by simp only [maxLen]; omega) (by omega) (by simp; omega) ?_); intro v1 w1 hown hg1 _; have HOW2 := hide hown; have HGR := hide hg1; clear hown hg1)
            go_roundw
            case rel =>
              refine ⟨k + 1, by omega, by go_num, ?_, (HALL.out.alloc hsz _).grown HGR.out (by simp; omega) (owns_ge hin.out.1 (Nat.le_refl _))⟩
              rw [HO2.out, kcells_snoc, List.length_append]
              simpa using HOW2.out
            case measure => simp [intOf]; omega
          · have h2b : (bd == b) = false := by simpa using h2
            have hof2 : secTo l a b (k + 1) = secTo l a b k := by rw [HST.out, HOF.out]; simp [h2]
            have HO2 := hide hof2
            clear hof2 h1 h2
            go_wp2_with fail
            go_roundw
            case rel => exact ⟨k + 1, by omega, by go_num, by rw [HO2.out]; exact HOW.out, HALL.out⟩
            case measure => simp [intOf]; omega
        · have h1b : (bw == a) = false := by simpa using h1
          have hof2 : secTo l a b (k + 1) = secTo l a b k := by rw [HST.out, HOF.out]; simp [h1]
          have HO2 := hide hof2
          clear hof2 h1
          go_wp2_with fail
          go_roundw
          case rel => exact ⟨k + 1, by omega, by go_num, by rw [HO2.out]; exact HOW.out, HALL.out⟩
          case measure => simp [intOf]; omega
    · obtain rfl : k = l.length := by omega
      go_wp2_with fail
      go_ret
      exact ⟨u7, rfl, hin.out.2, hin.out.1⟩

theorem info24 : (Tryd.prog.info? 24).map (fun i => (i.zero, i.size, i.bytes)) = some (some (.agg #[.int .i64 0, .int .i64 0, .int .i64 0, .int .i64 0, .int .i64 0, .slice none 0 0]), 6, 64) := by kernel_rfl
set_option maxRecDepth 20000 in
set_option maxHeartbeats 400000 in
theorem cloneBar_some (b o n cap : Nat) (xs : List Value) (w : World) (hl : xs.length = n * 6) (hb : b < w.heap.size) (hc : ∀ i u, xs[i]? = some u → w.cell? ⟨b, o + i, none⟩ = some u) (h1 : ∀ u ∈ xs, u.oneCell' = true) (hn : n ≤ 65536) :
    Calls Tryd.prog 35 #[.slice (some ⟨b, o, none⟩) n cap] w fun e w' => ∃ v, e = .returned v ∧ w'.ownsRow w.heap.size 24 6 v n xs ∧ Below w.heap.size w w' := by
  obtain ⟨i0, hi, hz0, hz1, hz2⟩ := info_parts info24
  have heq : ∀ W, (binOp .eql 47 (.slice (some ⟨b, o, none⟩) n cap) (.slice none 0 0)).run Tryd.prog W = .ok (.bool false) W := fun W => Lib.run_eql_slice_nil W 47 _ _ _ _ 0 0 Tryd.underlying47
  have HC := hide hc; have H1 := hide h1; have HL := hide hl
  clear hc h1 hl
  go_enter Tryd.func35, Tryd.ntmps35
  have hmade : (w.alloc (.cells #[] 24)).ownsRow w.heap.size 24 6 (.slice (some ⟨w.heap.size, 0, none⟩) 0 0) 0 [] := World.ownsRow_made w #[] 0 (Nat.le_refl _) (by simp [maxLen]) (by simp)
  have HM := hide hmade
  clear hmade
  go_wp2_with (at_builtin; go_loud (refine wpList_append_own _ rfl (.tmp 5) (.tmp 6) 47 rfl w.heap.size 24 i0 _ 6 64 Tryd.underlying47 hi hz0 hz1 hz2 rfl (by decide) _ _ _ rfl HM.out ⟨b, o, none⟩ n cap xs rfl HL.out (fun j u hu => by rw [Addr.add_lit]; exact (World.cell?_alloc_past _ _ _ hb).trans (HC.out j u hu)) H1.out (by simp only [maxLen]; omega) (by omega) (by simp) ?_); intro v1 w1 hown hg1 _)
  go_ret
  refine ⟨v1, rfl, by simpa using hown, ((Below.refl _ _).alloc (Nat.le_refl _) _).grown hg1 (by simp) (fun k hk => by cases hk; exact Nat.le_refl _)⟩
set_option maxRecDepth 20000 in
set_option maxHeartbeats 400000 in
theorem cloneBar_zero (a0 : Addr) (cap : Nat) (w : World) :
    Calls Tryd.prog 35 #[.slice (some a0) 0 cap] w fun e w' => ∃ v, e = .returned v ∧ w'.ownsRow w.heap.size 24 6 v 0 [] ∧ Below w.heap.size w w' := by
  obtain ⟨i0, hi, hz0, hz1, hz2⟩ := info_parts info24
  have heq : ∀ W, (binOp .eql 47 (.slice (some a0) 0 cap) (.slice none 0 0)).run Tryd.prog W = .ok (.bool false) W := fun W => Lib.run_eql_slice_nil W 47 _ _ _ _ 0 0 Tryd.underlying47
  go_enter Tryd.func35, Tryd.ntmps35
  have hmade : (w.alloc (.cells #[] 24)).ownsRow w.heap.size 24 6 (.slice (some ⟨w.heap.size, 0, none⟩) 0 0) 0 [] := World.ownsRow_made w #[] 0 (Nat.le_refl _) (by simp [maxLen]) (by simp)
  have HM := hide hmade
  clear hmade
  go_wp2_with (at_builtin; go_loud (refine wpList_append_own _ rfl (.tmp 5) (.tmp 6) 47 rfl w.heap.size 24 i0 _ 6 64 Tryd.underlying47 hi hz0 hz1 hz2 rfl (by decide) _ _ _ rfl HM.out a0 0 cap [] rfl rfl (fun j u hu => by simp at hu) (fun u hu => by cases hu) (by simp only [maxLen]; omega) (by omega) (by simp) ?_); intro v1 w1 hown hg1 _)
  go_ret
  refine ⟨v1, rfl, by simpa using hown, ((Below.refl _ _).alloc (Nat.le_refl _) _).grown hg1 (by simp) (fun k hk => by cases hk; exact Nat.le_refl _)⟩
set_option maxHeartbeats 400000 in
theorem cloneBar_nil (c0 : Nat) (w : World) : Calls Tryd.prog 35 #[.slice none 0 c0] w fun e w' => ∃ v, e = .returned v ∧ w'.ownsRow w.heap.size 24 6 v 0 [] ∧ Below w.heap.size w w' := by
  have heq : ∀ W, (binOp .eql 47 (.slice none 0 c0) (.slice none 0 0)).run Tryd.prog W = .ok (.bool true) W := fun W => Lib.run_eql_slice_nil W 47 _ _ _ _ 0 0 Tryd.underlying47
  go_enter Tryd.func35, Tryd.ntmps35
  go_wp2_with fail
  go_ret
  exact ⟨.slice none 0 0, rfl, World.ownsRow_nil _ _ _ _, Below.refl _ _⟩
theorem bcells_one {B : Nat} {w : World} {v : Value} {l : List Br} (h : BarsAt B w v l) : ∀ u ∈ bcells l, u.oneCell' = true := by
  intro u hu
  simp only [bcells, List.mem_flatMap] at hu
  obtain ⟨b, hb, hu⟩ := hu
  obtain ⟨i, hi, rfl⟩ := List.mem_iff_getElem.1 hb
  obtain ⟨a, c, hv⟩ := SlAt.form (h.2 i hi)
  have e : bAt l i = l[i] := by simp [bAt, hi]
  rw [e] at hv
  simp only [Br.cells, List.mem_cons, List.not_mem_nil, or_false] at hu
  rcases hu with rfl | rfl | rfl | rfl | rfl | rfl
  · rfl
  · rfl
  · rfl
  · rfl
  · rfl
  · rw [hv]; rfl
/-- A new row of bars, writable. -/
theorem cloneBars_any (v : Value) (l : List Br) (B : Nat) (w : World) (h : BarsAt B w v l) (hB : B ≤ w.heap.size) (hn : l.length ≤ 65536) :
    Calls Tryd.prog 35 #[v] w fun e w' => ∃ v, e = .returned v ∧ w'.ownsRow w.heap.size 24 6 v l.length (bcells l) ∧ Below w.heap.size w w' := by
  rcases h.1.cases with ⟨a0, c0, rfl, h0, h1⟩ | ⟨b, o, cap, rfl, hb, hc⟩
  · rw [h0, h1]
    cases a0 with
    | none => exact cloneBar_nil c0 w
    | some a0 => exact cloneBar_zero a0 c0 w
  · exact cloneBar_some b o l.length cap (bcells l) w h.1.1 (by omega) hc (bcells_one h) hn
end Go.Proofs.YtfljmbdnnjjmoaaDoor
