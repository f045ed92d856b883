/-
  ref.SameGaps, the law's example, awake: the walks.
-/
import Derived.Test.YtfljmbdnnjjmoaaDoorS9
namespace Go.Proofs.YtfljmbdnnjjmoaaDoor
open Go.RowKit Go.KP Go.Shelf

theorem gaps_ext {a b : List (Int × Int)} (hl : a.length = b.length) (h : ∀ i, i < a.length → gF a i = gF b i ∧ gT a i = gT b i) : a = b := by
  apply List.ext_getElem hl
  intro i h1 h2
  obtain ⟨h3, h4⟩ := h i h1
  simp only [gF, gT, List.getElem?_eq_getElem h1, List.getElem?_eq_getElem h2, Option.getD_some] at h3 h4
  exact Prod.ext h3 h4

set_option maxHeartbeats 400000 in
theorem sameGaps_any (va vb : Value) (ga gb : List (Int × Int)) (B : Nat) (w : World) (h1 : SlAt B w 2 va ga.length (pcells ga)) (h2 : SlAt B w 2 vb gb.length (pcells gb)) (hB : B ≤ w.heap.size) (hla : ga.length ≤ 1000000) :
    Calls Tryd.prog 26 #[va, vb] w fun e w' => e = .returned (.bool (decide (ga = gb))) ∧ ∃ n, w' = w.drewN n := by
  obtain ⟨aa, ca, hva⟩ := SlAt.form h1
  obtain ⟨ab, cb, hvb⟩ := SlAt.form h2
  subst hva; subst hvb
  have H1 := hide h1; have H2 := hide h2
  clear h1 h2
  by_cases hl : ga.length = gb.length
  · have HL := hide hl
    go_enter Tryd.func26, Tryd.ntmps26
    go_wp2
    go_loopw [5] (fun i wr => ∃ k : Nat, k ≤ ga.length ∧ i = .int .i64 k ∧ Hid ((∃ n, wr = w.drewN n) ∧ ∀ i, i < k → gF ga i = gF gb i ∧ gT ga i = gT gb i)) (fun i _ => ga.length - (intOf i).toNat)
    case atStart => exact ⟨0, Nat.zero_le _, rfl, ⟨0, rfl⟩, fun i hi => by omega⟩
    case round =>
      obtain ⟨k, hk, rfl, hin⟩ := hrel
      by_cases hlt : k < ga.length
      · rcases H1.out.pairs with ⟨_, _, _, hn⟩ | ⟨b1, o1, c1, hv1, hb1, hc1⟩
        · rw [hn] at hlt; simp at hlt
        rcases H2.out.pairs with ⟨_, _, _, hn⟩ | ⟨b2, o2, c2, hv2, hb2, hc2⟩
        · have := HL.out; rw [hn] at this; simp at this; rw [this] at hlt; simp at hlt
        cases hv1; cases hv2
        obtain ⟨n0, hn0⟩ := hin.out.1
        subst hn0
        obtain ⟨y1, y2⟩ := hc1 k hlt
        obtain ⟨y3, y4⟩ := hc2 k (by omega)
        clear hc1 hc2
        have e3 : (k : Int) < (ga.length : Int) := by omega
        have e4 : (k : Int) < (gb.length : Int) := by omega
        have hbb1 : b1 < w.heap.size := by omega
        have hbb2 : b2 < w.heap.size := by omega
        have HIN := hide hin.out.2
        clear hin
        by_cases hF : gF ga k = gF gb k
        · by_cases hT : gT ga k = gT gb k
          · go_wp2_with fail
            go_quiet (fail)
            go_wp2
            refine ⟨⟨k + 1, by omega, by go_num, ⟨_, rfl⟩, fun i hi => ?_⟩, by simp [intOf]; omega⟩
            rcases Nat.lt_or_ge i k with h | h
            · exact HIN.out i h
            · obtain rfl : i = k := by omega
              exact ⟨hF, hT⟩
          · have hne : ga ≠ gb := fun e => hT (by rw [e])
            have HE := hide hne
            clear hne
            go_wp2_with fail
            go_quiet (fail)
            go_wp2
            go_ret
            exact ⟨by simp [HE.out], n0 + nq, by simp⟩
        · have hne : ga ≠ gb := fun e => hF (by rw [e])
          have HE := hide hne
          clear hne
          go_wp2_with fail
          go_quiet (fail)
          go_wp2
          go_ret
          exact ⟨by simp [HE.out], n0 + nq, by simp⟩
      · obtain rfl : k = ga.length := by omega
        have he : ga = gb := gaps_ext HL.out hin.out.2
        have HE := hide he
        clear he
        go_wp2
        go_ret
        refine ⟨by simp [HE.out], hin.out.1⟩
  · have HE := hide (show ga ≠ gb from fun e => hl (by rw [e]))
    have hl2 : ((ga.length : Int) != (gb.length : Int)) = true := by simp; omega
    go_enter Tryd.func26, Tryd.ntmps26
    go_wp2
    all_goals (go_ret; exact ⟨by simp [HE.out], 0, rfl⟩)

def exGs : List (Int × Int) := [(400, 450)]
/-- The bar of the chapter: its gaps lie in a new block. -/
def ExBar (w : World) (r : Value) (w' : World) : Prop := ∃ gv, r = barV 60 120 1000 2 7 gv ∧ w'.ownsRow w.heap.size 31 2 gv 1 (pcells exGs)
theorem example_any (w : World) : Calls Tryd.prog 44 #[] w (RetEx w (ExBar w)) := by
  go_enter Tryd.func44, Tryd.ntmps44
  go_wp2
  have hcell : ∀ o, ((w.alloc (.cells #[.int .i64 60, .int .i64 120, .int .i64 1000, .int .i64 2, .int .i64 7, .slice (some ⟨w.heap.size + 1, 0, none⟩) 1 1] 24)).alloc (.cells #[.int .i64 400, .int .i64 450] 31)).cell? ⟨w.heap.size, o, none⟩ = (#[.int .i64 60, .int .i64 120, .int .i64 1000, .int .i64 2, .int .i64 7, .slice (some ⟨w.heap.size + 1, 0, none⟩) 1 1] : Array Value)[o]? := fun o => cell_blk (heap2 w _ _).1 o
  refine bodyPost_ret (v := barV 60 120 1000 2 7 (.slice (some ⟨w.heap.size + 1, 0, none⟩) 1 1)) ?_ rfl ?_
  · simp [results, go_sem, hcell]
  · refine ⟨_, rfl, (heap2 w _ _).2.2.2, _, rfl, ?_⟩
    have h := World.ownsRow_lit (base := w.heap.size) (e := 31) (size := 2) (w.alloc (.cells #[.int .i64 60, .int .i64 120, .int .i64 1000, .int .i64 2, .int .i64 7, .slice (some ⟨w.heap.size + 1, 0, none⟩) 1 1] 24)) #[.int .i64 400, .int .i64 450] 1 (by simp) (by simp [maxLen]) (by simp)
    have e : (w.alloc (.cells #[.int .i64 60, .int .i64 120, .int .i64 1000, .int .i64 2, .int .i64 7, .slice (some ⟨w.heap.size + 1, 0, none⟩) 1 1] 24)).heap.size = w.heap.size + 1 := by simp
    rw [e] at h
    exact h
end Go.Proofs.YtfljmbdnnjjmoaaDoor
