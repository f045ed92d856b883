/-
  Integers: the law's guard fine walked.
-/
import Derived.Test.YthkioajalhglfaaGreatDoorPu
namespace Go.Proofs.YthkioajalhglfaaGreatDoor
open Go.RowKit Go.KP Go.KI Go.Shelf
attribute [local go_sem] Oper.semAt_some

/-- A list of texts that may be used. -/
def fineS (s : ByteArray) : Prop := s.size ≤ 80 ∧ chkI s.data.toList = 0
instance (s : ByteArray) : Decidable (fineS s) := by unfold fineS; infer_instance
set_option maxRecDepth 100000 in
set_option maxHeartbeats 4000000 in
theorem fine_any (b : Nat) (l : List ByteArray) (w : World) (hl : l.length ≤ 1000) (hc : ∀ (i : Nat) s, l[i]? = some s → w.cell? ⟨b, i, none⟩ = some (.string s)) (hb : b < w.heap.size) :
    Calls Tryz.prog 25 #[.slice (some ⟨b, 0, none⟩) l.length l.length] w (Ret w (.bool (decide (∀ s ∈ l, fineS s)))) := by
  obtain ⟨n, hn⟩ : ∃ n, n = l.length := ⟨_, rfl⟩
  rw [← hn] at hl ⊢
  have HC := hide hc; have HN := hide hn
  clear hc hn
  go_enter Tryz.func25, Tryz.ntmps25
  go_wp2_with fail
  go_loopw [7] (fun i wr => ∃ k : Nat, k ≤ n ∧ i = .int .i64 k ∧ Hid ((∀ s ∈ l.take k, fineS s) ∧ Below w.heap.size w wr)) (fun i _ => n - (intOf i).toNat)
  case atStart => exact ⟨0, Nat.zero_le _, rfl, fun s hs => by simp at hs, Below.refl _ _⟩
  case round =>
    obtain ⟨k, hk, rfl, hin⟩ := hrel
    have IN := hide hin.out
    clear hin
    by_cases hlt : k < n
    · have hki : (k : Int) < (n : Int) := by omega
      have hk0 : (0 : Int) ≤ (k : Int) := by omega
      obtain ⟨s, hs⟩ : ∃ s, l[k]? = some s := ⟨_, List.getElem?_eq_getElem (by rw [← HN.out]; exact hlt)⟩
      have hmem : s ∈ l := List.mem_of_getElem? hs
      have hcell : wr.cell? ⟨b, k, none⟩ = some (.string s) := by
        rw [← HC.out k s hs]
        simp only [World.cell?, IN.out.2.block b hb]
      have HS := hide hs
      clear hs
      by_cases h80 : 80 < s.size
      · have HE := hide (show decide (∀ s ∈ l, fineS s) = false from decide_eq_false (fun e => by have := (e s hmem).1; omega))
        have q1 : (80 : Int) < (s.size : Int) := by omega
        clear h80 hmem hlt
        go_wp2_with fail
        go_ret
        rw [HE.out]
        exact ⟨rfl, IN.out.2⟩
      · have q1 : ((80 : Int) < (s.size : Int)) = False := eq_false (by omega)
        have HR := hide (rcheck_any s (by omega) wr)
        by_cases hch : chkI s.data.toList = 0
        · have HF := hide (show fineS s from ⟨by omega, hch⟩)
          rw [hch] at HR
          clear h80 hmem hch hlt
          go_wp2_with fail
          refine HR.out.mono ?_
          rintro e w2 ⟨rfl, hb2⟩
          have HB2 := hide (IN.out.2.trans (hb2.mono IN.out.2.size))
          clear hb2 HR hcell
          go_wp2_with fail
          go_roundw
          case rel =>
            refine ⟨k + 1, by omega, by simp, ?_, HB2.out⟩
            intro c hc
            rw [List.take_add_one, HS.out] at hc
            rcases List.mem_append.1 hc with h | h
            · exact IN.out.1 c h
            · simp at h
              rw [h]
              exact HF.out
          case measure => simp [intOf]; omega
        · have HE := hide (show decide (∀ s ∈ l, fineS s) = false from decide_eq_false (fun e => hch (e s hmem).2))
          have q2 : (chkI s.data.toList != 0) = true := by simpa using hch
          obtain ⟨E, hE⟩ : ∃ E, E = chkI s.data.toList := ⟨_, rfl⟩
          rw [← hE] at HR q2
          clear h80 hmem hch hlt hE
          go_wp2_with fail
          refine HR.out.mono ?_
          rintro e w2 ⟨rfl, hb2⟩
          have HB2 := hide (IN.out.2.trans (hb2.mono IN.out.2.size))
          clear hb2 HR hcell
          go_wp2_with fail
          go_ret
          rw [HE.out]
          exact ⟨rfl, HB2.out⟩
    · obtain rfl : k = n := by omega
      have hki : ((k : Int) < (k : Int)) = False := eq_false (by omega)
      have HE := hide (show decide (∀ s ∈ l, fineS s) = true from decide_eq_true (fun s hs => IN.out.1 s (by rw [List.take_of_length_le (by rw [← HN.out]; exact Nat.le_refl _)]; exact hs)))
      clear hlt
      go_wp2_with fail
      go_ret
      rw [HE.out]
      exact ⟨rfl, IN.out.2⟩
end Go.Proofs.YthkioajalhglfaaGreatDoor
