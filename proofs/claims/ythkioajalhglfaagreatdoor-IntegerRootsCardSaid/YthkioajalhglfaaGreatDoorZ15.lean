/-
  Texts of the integers, laid together: L4.
-/
import Derived.Test.YthkioajalhglfaaGreatDoorZ12
import Derived.Test.YthkioajalhglfaaGreatDoorZ14
namespace Go.Proofs.YthkioajalhglfaaGreatDoor
open Go.RowKit Go.KP Go.KI Go.Shelf
attribute [local go_sem] Oper.semAt_some

set_option maxRecDepth 100000 in
set_option maxHeartbeats 4000000 in
theorem roots_any (a : ByteArray) (k : Int) (B : Nat) (w : World) (hB : B ≤ w.heap.size) (hT : P10 B w) :
    Calls Tryz.prog 4 #[.string a, .int .i64 k] w (Ret w (.bool true)) := by
  have HT := hide hT
  have HAW := hide (fun w2 (hb : Below w.heap.size w w2) => awake_any B w2 (Nat.le_trans hB hb.size) (hT.on hb hB))
  clear hT
  have HF := hide (fun t => great_any w.heap.size [a] (w.alloc (.cells #[.string a] t)) (by simp) (heap_one w a t))
  obtain ⟨F, hF⟩ : ∃ F, F = decide (∃ s ∈ [a], greatS s) := ⟨_, rfl⟩
  rw [← hF] at HF
  have G0 := hide (fun o => (heap1 w o).2.2)
  cases F
  · have hf := of_decide_eq_false hF.symm
    have la := great_len (a := a) (fun h => hf ⟨a, by simp, h⟩)
    clear hF hf
    obtain ⟨rq, re, hr⟩ := Root_same a (by omega)
    obtain ⟨pq, pe, hp⟩ := Power_same a k (by omega)
    have D1 := hide hr.1; have D2 := hide hr.2; have E1 := hide hp.1; have E2 := hide hp.2
    clear la hr hp
    go_enter Tryz.func4, Tryz.ntmps4
    go_wp2_with fail
    refine (HF.out _).mono ?_
    rintro e w1 ⟨rfl, hb1⟩
    have HB := hide ((G0.out _).trans (hb1.mono (G0.out _).size))
    clear hb1 HF G0
    go_wp2_with fail
    refine (D1.out B _ (Nat.le_trans hB HB.out.size) (HT.out.on HB.out hB)).mono ?_
    rintro e w2 ⟨rfl, hb2⟩
    have HB2 := hide (HB.out.trans (hb2.mono HB.out.size))
    clear hb2 HB
    have HB := HB2
    clear HB2
    go_wp2_with fail
    refine (D2.out B _ (Nat.le_trans hB HB.out.size) (HT.out.on HB.out hB)).mono ?_
    rintro e w2 ⟨rfl, hb2⟩
    have HB2 := hide (HB.out.trans (hb2.mono HB.out.size))
    clear hb2 HB
    have HB := HB2
    clear HB2
    go_wp2_with fail
    refine (E1.out B _ (Nat.le_trans hB HB.out.size) (HT.out.on HB.out hB)).mono ?_
    rintro e w2 ⟨rfl, hb2⟩
    have HB2 := hide (HB.out.trans (hb2.mono HB.out.size))
    clear hb2 HB
    have HB := HB2
    clear HB2
    go_wp2_with fail
    refine (E2.out B _ (Nat.le_trans hB HB.out.size) (HT.out.on HB.out hB)).mono ?_
    rintro e w2 ⟨rfl, hb2⟩
    have HB2 := hide (HB.out.trans (hb2.mono HB.out.size))
    clear hb2 HB
    have HB := HB2
    clear HB2
    go_wp2_with fail
    refine (HAW.out _ HB.out).mono ?_
    rintro e w2 ⟨rfl, hb2⟩
    have HB2 := hide (HB.out.trans (hb2.mono HB.out.size))
    clear hb2 HB
    have HB := HB2
    clear HB2
    go_wp2_with fail
    go_ret
    exact ⟨rfl, HB.out⟩
  · clear hF
    go_enter Tryz.func4, Tryz.ntmps4
    go_wp2_with fail
    refine (HF.out _).mono ?_
    rintro e w1 ⟨rfl, hb1⟩
    have HB1 := hide ((G0.out _).trans (hb1.mono (G0.out _).size))
    clear hb1 HF G0
    go_wp2_with fail
    refine (HAW.out _ HB1.out).mono ?_
    rintro e w2 ⟨rfl, hb2⟩
    have HB2 := hide (HB1.out.trans (hb2.mono HB1.out.size))
    clear hb2 HAW HB1
    go_wp2_with fail
    go_ret
    exact ⟨rfl, HB2.out⟩
end Go.Proofs.YthkioajalhglfaaGreatDoor
