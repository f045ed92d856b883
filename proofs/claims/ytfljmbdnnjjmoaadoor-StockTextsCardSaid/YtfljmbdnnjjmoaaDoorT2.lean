/-
  The reference's number: the walk.
-/
import Derived.Test.YtfljmbdnnjjmoaaDoorT1
namespace Go.Proofs.YtfljmbdnnjjmoaaDoor
open Go.RowKit Go.KP Go.Shelf

theorem tw_pre {α : Type} (p : α → Bool) (l : List α) : (l.takeWhile p) <+: l := by
  have h := List.takeWhile_append_dropWhile (p := p) (l := l)
  exact ⟨_, h⟩
theorem tw_take {α : Type} (p : α → Bool) (l : List α) : l.takeWhile p = l.take (l.takeWhile p).length := (List.prefix_iff_eq_take.1 (tw_pre p l))
theorem tw_all {α : Type} (p : α → Bool) : ∀ (l : List α), ∀ x ∈ l.takeWhile p, p x = true := by
  intro l
  induction l with
  | nil => intro x hx; simp at hx
  | cons a r ih =>
    intro x hx
    by_cases hp : p a = true
    · rw [List.takeWhile_cons_of_pos hp] at hx
      rcases List.mem_cons.1 hx with rfl | hx
      · exact hp
      · exact ih x hx
    · rw [List.takeWhile_cons_of_neg hp] at hx
      simp at hx
theorem tw_in {α : Type} (p : α → Bool) (l : List α) (j : Nat) (h : j < (l.takeWhile p).length) : ∃ x, l[j]? = some x ∧ p x = true := by
  have h1 : (l.takeWhile p)[j]? = some (l.takeWhile p)[j] := List.getElem?_eq_getElem h
  refine ⟨(l.takeWhile p)[j], ?_, tw_all p l _ (List.getElem_mem h)⟩
  obtain ⟨t, ht⟩ := tw_pre p l
  rw [← h1]
  conv => lhs; rw [← ht]
  rw [List.getElem?_append_left h]
theorem tw_end {α : Type} (p : α → Bool) (l : List α) (h : (l.takeWhile p).length < l.length) : ∃ x, l[(l.takeWhile p).length]? = some x ∧ p x = false := by
  induction l with
  | nil => simp at h
  | cons a r ih =>
    by_cases hp : p a = true
    · rw [List.takeWhile_cons_of_pos hp] at h ⊢
      simp only [List.length_cons] at h ⊢
      obtain ⟨x, h1, h2⟩ := ih (by omega)
      exact ⟨x, by simpa using h1, h2⟩
    · rw [List.takeWhile_cons_of_neg hp]
      exact ⟨a, rfl, by simpa using hp⟩
/-- A byte by its number. -/
theorem by_at {s : ByteArray} {j : Nat} {x : UInt8} (hx : s.data.toList[j]? = some x) (h : j < s.size) : s[j] = x := by
  have h1 : s.data.toList[j]? = some s.data[j] := by simp
  rw [h1] at hx
  injection hx
theorem ex_take (s : ByteArray) (m : Nat) : (s.extract 0 m).data.toList = s.data.toList.take m := Lib.extract_from_zero s m
set_option maxRecDepth 100000 in
set_option maxHeartbeats 1000000 in
theorem rnumber_any (s : ByteArray) (hl : s.size ≤ 1000000) (B : Nat) (w : World) (hT : PT B w) (hB : B ≤ w.heap.size) :
    Calls Tryd.prog 75 #[.string s] w (Ret w (.tuple #[.int .i64 (rnumL s.data.toList).1, .int .i64 (rnumL s.data.toList).2])) := by
  have HT := hide hT
  clear hT
  obtain ⟨m, hm⟩ : ∃ m, m = (s.data.toList.takeWhile isDg).length := ⟨_, rfl⟩
  have hms : m ≤ s.size := by
    rw [hm]
    have := (List.takeWhile_sublist isDg (l := s.data.toList)).length_le
    rw [Array.length_toList] at this
    exact this
  have HM := hide hm
  clear hm
  go_enter Tryd.func75, Tryd.ntmps75
  go_wp2_with fail
  go_loopw [4] (fun i wr => ∃ j : Nat, j ≤ m ∧ i = .int .i64 j ∧ wr = w) (fun i _ => m - (intOf i).toNat)
  case atStart => exact ⟨0, Nat.zero_le _, rfl, rfl⟩
  case round =>
    obtain ⟨j, hj, rfl, rfl⟩ := hrel
    by_cases hlt : j < m
    · obtain ⟨x, hx1, hx2⟩ := tw_in isDg s.data.toList j (by rw [← HM.out]; exact hlt)
      have e3 : (j : Int) < s.size := by omega
      have hj2 : j < s.size := by omega
      have hx3 := isDg_iff.1 hx2
      rw [← by_at hx1 hj2] at hx3
      have q1 : (48 : Int) ≤ (s[j]'hj2).toNat := by omega
      have q2 : ((s[j]'hj2).toNat : Int) ≤ 57 := by omega
      clear hx1 hx2 hx3
      go_wp2_with fail
      go_roundw
      case rel => exact ⟨j + 1, by omega, by go_num, trivial⟩
      case measure => simp [intOf]; omega
    · obtain rfl : j = m := by omega
      have hend : s.size ≤ j ∨ (∃ h : j < s.size, ((s[j]'h).toNat : Int) < 48) ∨ ∃ h : j < s.size, (48 : Int) ≤ (s[j]'h).toNat ∧ (57 : Int) < (s[j]'h).toNat := by
        rcases Nat.lt_or_ge j s.size with h | h
        · obtain ⟨x, h1, h2⟩ := tw_end isDg s.data.toList (by rw [← HM.out, Array.length_toList]; exact h)
          rw [← HM.out] at h1
          have h3 : ¬ (48 ≤ x.toNat ∧ x.toNat ≤ 57) := fun h => by rw [isDg_iff.2 h] at h2; cases h2
          rw [← by_at h1 h] at h3
          by_cases h4 : 48 ≤ (s[j]'h).toNat
          · exact .inr (.inr ⟨h, by omega, by omega⟩)
          · exact .inr (.inl ⟨h, by omega⟩)
        · exact .inl (by omega)
      have hout : numL (s.data.toList.takeWhile isDg) = none ∧ (10 < j ∨ (1 < j ∧ j ≤ 10 ∧ ∃ h : 0 < s.size, ((s[0]'h).toNat : Int) = 48) ∨ j ≤ 0) ∨ (1 ≤ j ∧ j ≤ 10 ∧ (j ≤ 1 ∨ ∃ h : 0 < s.size, ¬ ((s[0]'h).toNat : Int) = 48) ∧ ∃ v, numL (s.data.toList.takeWhile isDg) = some v) := by
        have hd := tw_all isDg s.data.toList
        have hmm := HM.out
        by_cases h1 : 10 < j
        · exact .inl ⟨numL_long _ (by omega), .inl h1⟩
        by_cases h0 : j = 0
        · refine .inl ⟨?_, .inr (.inr (by omega))⟩
          rw [List.eq_nil_of_length_eq_zero (hmm.symm.trans h0)]
          exact numL_nil
        have h2 : 0 < s.size := by omega
        have hhead : (s.data.toList.takeWhile isDg).head? = some (s[0]'h2) := by
          obtain ⟨x, h3, h4⟩ := tw_in isDg s.data.toList 0 (by omega)
          rw [by_at h3 h2, tw_take, List.head?_take, if_neg (by omega), ← h3, List.head?_eq_getElem?]
        by_cases hz : s[0]'h2 = 48
        · by_cases h3 : 1 < j
          · refine .inl ⟨numL_lead _ (by omega) (by rw [hhead, hz]), .inr (.inl ⟨h3, by omega, h2, by rw [hz]; rfl⟩)⟩
          · refine .inr ⟨by omega, by omega, .inl (by omega), numL_some (fun h => ?_) hd (fun h => by omega) (by omega)⟩
            rw [h] at hmm
            simp at hmm
            omega
        · refine .inr ⟨by omega, by omega, .inr ⟨h2, fun h => hz (UInt8.toNat_inj.1 ?_)⟩, numL_some (fun h => ?_) hd (fun h => by rw [hhead]; intro h5; injection h5 with h5; exact hz h5) (by omega)⟩
          · have : (48 : UInt8).toNat = 48 := rfl
            omega
          · rw [h] at hmm
            simp at hmm
            omega
      have htk : (s.extract 0 j).data.toList = s.data.toList.takeWhile isDg := by rw [ex_take, HM.out, ← tw_take]
      have HTK := hide htk
      clear htk
      rcases hout with ⟨hn, hc⟩ | ⟨h1, h10, hc, v, hv⟩
      · have hr : rnumL s.data.toList = (0, 0) := by unfold rnumL; rw [hn]
        have HR := hide hr
        clear hr hn
        rcases hc with hc | ⟨hc1, hc2, hc3, hc4⟩ | hc
        · rcases hend with he | ⟨he1, he2⟩ | ⟨he1, he2, he3⟩ <;> (go_wp2_with fail; go_ret2; rw [HR.out]; exact ⟨rfl, Below.refl _ _⟩)
        · have hq : ((((s[0]'hc3).toNat : Int)) == 48) = true := by simpa using hc4
          clear hc4
          rcases hend with he | ⟨he1, he2⟩ | ⟨he1, he2, he3⟩ <;> (go_wp2_with fail; go_ret2; rw [HR.out]; exact ⟨rfl, Below.refl _ _⟩)
        · have HR2 := hide (show rnumL s.data.toList = (0, j) by rw [HR.out, Nat.le_zero.1 hc])
          have hex : s.extract 0 j = ⟨#[]⟩ := by
            apply bytes_inj
            rw [ex_take, Nat.le_zero.1 hc]
            rfl
          have HA := hide (show Calls Tryd.prog 81 #[.string (s.extract 0 j)] _ _ from hex ▸ atoi_none B _ HT.out)
          clear hex
          rcases hend with he | ⟨he1, he2⟩ | ⟨he1, he2, he3⟩ <;> (go_wp2_with fail; refine HA.out.mono ?_; rintro e w1 ⟨N, rfl, _, hb1⟩; have HB1 := hide hb1; clear hb1; go_wp2_with fail; go_ret2; rw [HR2.out]; exact ⟨rfl, HB1.out⟩)
      · have hr : rnumL s.data.toList = (v, j) := by unfold rnumL; rw [hv, HM.out]
        have HA := hide (atoi_good (s.extract 0 j) (by simp; omega) v (by rw [HTK.out]; exact (numL_dg hv).2.2.2) wr)
        have HR := hide hr
        clear hr hv
        rcases hc with hc | ⟨hc3, hc4⟩
        · rcases hend with he | ⟨he1, he2⟩ | ⟨he1, he2, he3⟩ <;> (go_wp2_with fail; refine HA.out.mono ?_; rintro e w1 ⟨rfl, hb1⟩; have HB1 := hide hb1; clear hb1; go_wp2_with fail; go_ret2; rw [HR.out]; exact ⟨rfl, HB1.out⟩)
        · have hq : ((((s[0]'hc3).toNat : Int)) == 48) = false := by simpa using hc4
          clear hc4
          by_cases hj1 : 1 < j
          · rcases hend with he | ⟨he1, he2⟩ | ⟨he1, he2, he3⟩ <;> (go_wp2_with fail; refine HA.out.mono ?_; rintro e w1 ⟨rfl, hb1⟩; have HB1 := hide hb1; clear hb1; go_wp2_with fail; go_ret2; rw [HR.out]; exact ⟨rfl, HB1.out⟩)
          · rcases hend with he | ⟨he1, he2⟩ | ⟨he1, he2, he3⟩ <;> (go_wp2_with fail; refine HA.out.mono ?_; rintro e w1 ⟨rfl, hb1⟩; have HB1 := hide hb1; clear hb1; go_wp2_with fail; go_ret2; rw [HR.out]; exact ⟨rfl, HB1.out⟩)
end Go.Proofs.YtfljmbdnnjjmoaaDoor
