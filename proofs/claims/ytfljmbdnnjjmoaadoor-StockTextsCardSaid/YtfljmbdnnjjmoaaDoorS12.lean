/-
  fine, pieces: the walks.
-/
import Derived.Test.YtfljmbdnnjjmoaaDoorS11
namespace Go.Proofs.YtfljmbdnnjjmoaaDoor
open Go.RowKit Go.KP Go.Shelf

set_option maxHeartbeats 400000 in
theorem fine_any (wd dp ln ct cs : Int) (gv : Value) (gs : List (Int × Int)) (B : Nat) (w : World) (hg : SlAt B w 2 gv gs.length (pcells gs)) (hB : B ≤ w.heap.size) :
    Calls Tryd.prog 11 #[barV wd dp ln ct cs gv] w (Ret w (.bool (decide (chk wd dp ln ct cs gs = 0)))) := by
  obtain ⟨ga, gc, hgv⟩ := SlAt.form hg
  subst hgv
  have HG := hide hg
  clear hg
  go_enter Tryd.func11, Tryd.ntmps11
  go_wp2_with fail
  obtain ⟨m1, m2, m3, m4⟩ := heap2 w (.cells #[.int .i64 wd, .int .i64 dp, .int .i64 ln, .int .i64 ct, .int .i64 cs, .slice ga gs.length gc] 24) (.cells #[.int .i64 wd, .int .i64 dp, .int .i64 ln, .int .i64 ct, .int .i64 cs, .slice ga gs.length gc] 24)
  have hbr := SlAt.of_owns (World.ownsRow_lit (base := w.heap.size + 1) (e := 24) (size := 6) (w.alloc (.cells #[.int .i64 wd, .int .i64 dp, .int .i64 ln, .int .i64 ct, .int .i64 cs, .slice ga gs.length gc] 24)) #[.int .i64 wd, .int .i64 dp, .int .i64 ln, .int .i64 ct, .int .i64 cs, .slice ga gs.length gc] 1 (by simp) (by simp [maxLen]) (by simp))
  rw [show (w.alloc (.cells #[.int .i64 wd, .int .i64 dp, .int .i64 ln, .int .i64 ct, .int .i64 cs, .slice ga gs.length gc] 24)).heap.size = w.heap.size + 1 by simp] at hbr
  obtain ⟨w1, hw1⟩ : ∃ w1, (w.alloc (.cells #[.int .i64 wd, .int .i64 dp, .int .i64 ln, .int .i64 ct, .int .i64 cs, .slice ga gs.length gc] 24)).alloc (.cells #[.int .i64 wd, .int .i64 dp, .int .i64 ln, .int .i64 ct, .int .i64 cs, .slice ga gs.length gc] 24) = w1 := ⟨_, rfl⟩
  rw [hw1] at m1 m2 m3 m4 hbr ⊢
  have hc := checks_any (.slice (some ⟨w.heap.size + 1, 0, none⟩) 1 1) [⟨wd, dp, ln, ct, cs, .slice ga gs.length gc, gs⟩] w1.heap.size w1 ⟨hbr, fun i hi => by
    obtain rfl : i = 0 := by simp at hi; exact hi
    exact (HG.out.below m4 hB).mono (by omega)⟩ (Nat.le_refl _)
  have he : chks [⟨wd, dp, ln, ct, cs, .slice ga gs.length gc, gs⟩] = chk wd dp ln ct cs gs := by
    have key : ∀ x : Int, (if x = 0 then 0 else x) = x := fun x => by split <;> omega
    exact key _
  rw [he] at hc
  have HC := hide hc; have HM := hide m4
  clear hc he hbr m1 m2 m4 hw1
  refine HC.out.mono ?_
  rintro e w2 ⟨rfl, hb2⟩
  have HB2 := hide (HM.out.trans (hb2.mono (by omega)))
  clear hb2 HC
  go_wp2
  go_ret
  exact ⟨rfl, HB2.out⟩

def okPiece (x : Int) : Bool := btw x 1 65536
def okPieces (ls : List Int) : Bool := decide (ls.length ≤ 10) && ls.all okPiece
theorem ret_bool {a b : Bool} (h : (a = true) ↔ (b = true)) : Ending.returned (.bool a) = Ending.returned (.bool b) := by rw [Bool.eq_iff_iff.2 h]
theorem pieces1_any (n : Int) (w : World) : Calls Tryd.prog 49 #[.int .i64 n] w (Ret w (.bool (!okPiece n))) := by
  unfold okPiece btw
  go_enter Tryd.func49, Tryd.ntmps49
  go_wp2
  all_goals (go_ret; refine ⟨?_, Below.refl _ _⟩)
  · refine ret_bool ?_
    simp
  · refine ret_bool ?_
    simp
    omega
theorem pieces1_answers (w : World) : Answers 49 #[] (Value.int .i64) (fun x => !okPiece x) w := ⟨enters_of Tryd.func49 (by kernel_rfl) rfl, fun x W _ => pieces1_any x W⟩
set_option maxHeartbeats 400000 in
theorem pieces_any (A : Option Addr) (n c : Nat) (ls : List Int) (w : World) (hn : ls.length = n)
    (hls : ∀ k, k < n → ∃ b o, A = some ⟨b, o, none⟩ ∧ b < w.heap.size ∧ w.cell? ⟨b, o + k, none⟩ = some (.int .i64 (ls[k]?.getD 0))) :
    Calls Tryd.prog 16 #[.slice A n c] w (Ret w (.bool (okPieces ls))) := by
  have HL := hide hls; have HN := hide hn
  clear hls hn
  by_cases h10 : n ≤ 10
  · have hx := containsInt_any 49 #[] (fun x => !okPiece x) A n c ls w HN.out (by omega) HL.out (pieces1_answers w)
    have HX := hide hx
    have hi : (n : Int) ≤ 10 := by omega
    clear hx
    go_enter Tryd.func16, Tryd.ntmps16
    go_wp2_with fail
    refine HX.out.mono ?_
    rintro e w1 ⟨rfl, hb1⟩
    have HB1 := hide hb1
    clear hb1
    go_wp2
    all_goals (go_ret; refine ⟨?_, HB1.out⟩)
    all_goals refine ret_bool ?_
    all_goals simp only [okPieces, Bool.and_eq_true, decide_eq_true_eq, Bool.not_eq_true', List.any_eq_false, List.all_eq_true]
    all_goals have := HN.out
    all_goals constructor
    · intro h
      exact ⟨by omega, fun x hx => by simpa using h x hx⟩
    · intro h x hx
      simpa using h.2 x hx
  · have hi : ¬ (n : Int) ≤ 10 := by omega
    go_enter Tryd.func16, Tryd.ntmps16
    go_wp2
    all_goals (go_ret; refine ⟨?_, Below.refl _ _⟩)
    all_goals refine ret_bool ?_
    all_goals simp only [okPieces, Bool.and_eq_true, decide_eq_true_eq]
    all_goals have := HN.out
    all_goals constructor
    · intro h
      cases h
    · intro h
      omega
end Go.Proofs.YtfljmbdnnjjmoaaDoor
