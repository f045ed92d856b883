/-
  Integers: the reference's Check walked.
-/
import Derived.Test.YthkioajalhglfaaGreatDoorPt
namespace Go.Proofs.YthkioajalhglfaaGreatDoor
open Go.RowKit Go.KP Go.KI Go.Shelf
attribute [local go_sem] Oper.semAt_some

theorem chk_empty {l : List UInt8} (h : digs l = []) : chkI l = 11 := if_pos (.inl h)
theorem chk_zero {l : List UInt8} (h : (digs l).head? = some 48) (h2 : l ≠ [48]) : chkI l = 11 := if_pos (.inr (.inl ⟨h, h2⟩))
theorem chk_nodg {l : List UInt8} {c : UInt8} (h : c ∈ digs l) (h2 : isDg c = false) : chkI l = 11 := by
  refine if_pos (.inr (.inr (fun e => ?_)))
  rw [List.all_eq_true] at e
  have := e c h
  rw [h2] at this
  cases this
theorem chk_rest {l : List UInt8} (h : digs l ≠ []) (h2 : (digs l).head? = some 48 → l = [48]) (h3 : ∀ c ∈ digs l, isDg c = true) : chkI l = if 300 < (digs l).length then 4 else 0 := by
  refine if_neg ?_
  rintro (e | ⟨e, e2⟩ | e)
  · exact h e
  · exact e2 (h2 e)
  · exact e (List.all_eq_true.2 h3)
set_option maxRecDepth 100000 in
set_option maxHeartbeats 4000000 in
theorem rcheck_any (s : ByteArray) (hs : s.size ≤ 1000000) (w : World) :
    Calls Tryz.prog 33 #[.string s] w (Ret w (.int .i64 (chkI s.data.toList))) := by
  by_cases h45 : s.data.toList.head? = some 45
  · have hD : digs s.data.toList = s.data.toList.drop 1 := by
      cases hl : s.data.toList with
      | nil => rfl
      | cons c r =>
        rw [hl] at h45
        injection h45 with h45
        subst h45
        rfl
    obtain ⟨hp, hh⟩ := bytes_head (s := s) (fun e => by rw [e] at h45; cases h45)
    have hp0 : (0 : Int) < (s.size : Int) := by omega
    have p2 : ((s[0].toNat : Int) == 45) = true := by
      rw [hh] at h45
      injection h45 with h45
      rw [h45]
      rfl
    clear hh h45
    by_cases hn0 : s.size = 1
    · have HE := hide (show chkI s.data.toList = 11 from chk_empty (by rw [hD]; exact List.drop_eq_nil_of_le (by rw [bytes_len]; omega)))
      have q1 : ((1 : Int) == (s.size : Int)) = true := by rw [hn0]; rfl
      clear hD hn0
      go_enter Tryz.func33, Tryz.ntmps33
      go_wp2_with fail
      go_ret
      rw [HE.out]
      exact ⟨rfl, Below.refl _ _⟩
    · have hlt : 1 < s.size := by omega
      have hlti : (1 : Int) < (s.size : Int) := by omega
      have q1 : ((1 : Int) == (s.size : Int)) = false := by
        have : ¬ (1 : Int) = (s.size : Int) := by omega
        simpa using this
      have hat : s.data.toList[1]? = some (s[1]'hlt) := by
        have h1 : s.data.toList[1]? = some s.data[1] := by simp
        exact h1
      have hhd : (digs s.data.toList).head? = some (s[1]'hlt) := by rw [hD, List.head?_drop]; exact hat
      by_cases hz : s[1]'hlt = 48 ∧ 1 < s.size
      · have HE := hide (show chkI s.data.toList = 11 from chk_zero (by rw [hhd, hz.1]) (fun e => by have := bytes_len s; rw [e] at this; have := hz.2; simp at *; omega))
        have q2 : (((s[1]'hlt).toNat : Int) == 48) = true := by rw [hz.1]; rfl
        have q3 : (1 : Int) < (s.size : Int) := by have := hz.2; omega
        clear hD hn0 hz hat hhd
        go_enter Tryz.func33, Tryz.ntmps33
        go_wp2_with fail
        go_ret
        rw [HE.out]
        exact ⟨rfl, Below.refl _ _⟩
      · have hway : (((s[1]'hlt).toNat : Int) == 48) = false ∨ ((((s[1]'hlt).toNat : Int) == 48) = true ∧ ((1 : Int) < (s.size : Int)) = False) := by
          by_cases h48 : s[1]'hlt = 48
          · exact .inr ⟨by rw [h48]; rfl, eq_false (by have : ¬ 1 < s.size := fun e => hz ⟨h48, e⟩; omega)⟩
          · refine .inl ?_
            have : (s[1]'hlt).toNat ≠ 48 := fun h => h48 (UInt8.toNat_inj.1 h)
            simp only [beq_eq_false_iff_ne, ne_eq]
            omega
        have HZ := hide (show (digs s.data.toList).head? = some 48 → s.data.toList = [48] from fun e => by
          rw [hhd] at e
          injection e with e
          have h1 : s.size = 1 := by have : ¬ 1 < s.size := fun h => hz ⟨e, h⟩; omega
          have h2 := bytes_len s
          rw [h1] at h2
          obtain ⟨c, hc⟩ := List.length_eq_one_iff.1 h2
          have h0 : (1 : Nat) = 0 := by omega
          have h3 := hat
          rw [e, hc] at h3
          rw [hc]
          first
            | (simp at h3; done)
            | (injection h3 with h3; rw [h3]))
        have HD := hide hD
        clear hD hn0 hz hat hhd
        rcases hway with q2 | ⟨q2, q3⟩
        case inr => exact absurd hlti (fun h => by rw [q3] at h; exact h)
        all_goals
          go_enter Tryz.func33, Tryz.ntmps33
          go_wp2_with fail
          go_loopw [4] (fun i wr => ∃ k : Nat, 1 ≤ k ∧ k ≤ s.size ∧ i = .int .i64 k ∧ Hid (∀ c ∈ (s.data.toList.take k).drop 1, isDg c = true) ∧ wr = w) (fun i _ => s.size - (intOf i).toNat)
          case' atStart => exact ⟨1, Nat.le_refl _, by omega, rfl, fun c hc => by rw [List.drop_eq_nil_of_le (by rw [List.length_take]; omega)] at hc; simp at hc, rfl⟩
          case' round =>
            obtain ⟨k, hk1, hk2, rfl, hin, rfl⟩ := hrel
            by_cases hlt2 : k < s.size
            · have hki : (k : Int) < (s.size : Int) := by omega
              have hk0 : (0 : Int) ≤ (k : Int) := by omega
              have hat2 : s.data.toList[k]? = some (s[k]'hlt2) := by
                have h1 : s.data.toList[k]? = some s.data[k] := by simp
                exact h1
              have hmem : s[k]'hlt2 ∈ digs s.data.toList := by
                rw [HD.out]
                refine List.mem_of_getElem? (i := k - 1) ?_
                rw [List.getElem?_drop, show 1 + (k - 1) = k by omega]
                exact hat2
              obtain ⟨y, hyv⟩ : ∃ y : Nat, y = (s[k]'hlt2).toNat := ⟨_, rfl⟩
              have hyv2 : (s[k]'hlt2).toNat = y := hyv.symm
              by_cases hy1 : y < 48
              · have HE := hide (show chkI s.data.toList = 11 from chk_nodg hmem (by unfold isDg; rw [hyv2, decide_eq_false (by omega : ¬ 48 ≤ y)]; rfl))
                have q4 : (y : Int) < 48 := by omega
                clear hat2 hmem hyv hin hy1
                go_wp2_with fail
                go_ret
                rw [HE.out]
                exact ⟨rfl, Below.refl _ _⟩
              · by_cases hy2 : 57 < y
                · have HE := hide (show chkI s.data.toList = 11 from chk_nodg hmem (by unfold isDg; rw [hyv2, decide_eq_false (by omega : ¬ y ≤ 57), Bool.and_false]))
                  have q4 : ((y : Int) < 48) = False := eq_false (by omega)
                  have q5 : (57 : Int) < (y : Int) := by omega
                  clear hat2 hmem hyv hin hy1 hy2
                  go_wp2_with fail
                  go_ret
                  rw [HE.out]
                  exact ⟨rfl, Below.refl _ _⟩
                · have hdg : isDg (s[k]'hlt2) = true := isDg_iff.2 (by omega)
                  have HN := hide (show ∀ c ∈ (s.data.toList.take (k + 1)).drop 1, isDg c = true from fun c hc => by
                    rw [List.take_add_one, hat2, List.drop_append_of_le_length (by rw [List.length_take, bytes_len]; omega)] at hc
                    rcases List.mem_append.1 hc with h | h
                    · exact hin.out c h
                    · simp at h
                      rw [h]
                      exact hdg)
                  have q4 : ((y : Int) < 48) = False := eq_false (by omega)
                  have q5 : ((57 : Int) < (y : Int)) = False := eq_false (by omega)
                  clear hat2 hmem hyv hin hy1 hy2 hdg
                  go_wp2_with fail
                  go_roundw
                  case rel => exact ⟨k + 1, by omega, by omega, by simp, HN.out, trivial⟩
                  case measure => simp [intOf]; omega
            · obtain rfl : k = s.size := by omega
              have hki : ((s.size : Int) < (s.size : Int)) = False := eq_false (by omega)
              have hlen : (digs s.data.toList).length = s.size - 1 := by rw [HD.out, List.length_drop, bytes_len]
              have hrest := chk_rest (l := s.data.toList) (fun e => by rw [e] at hlen; simp at hlen; omega) HZ.out (fun c hc => by
                rw [HD.out] at hc
                refine hin.out c ?_
                rw [List.take_of_length_le (by rw [bytes_len]; exact Nat.le_refl _)]
                exact hc)
              rw [hlen] at hrest
              by_cases h3 : 300 < s.size - 1
              · rw [if_pos h3] at hrest
                have HE := hide hrest
                have q4 : (300 : Int) < (s.size : Int) - 1 := by omega
                clear hin hlen hrest h3 hlt2
                go_wp2_with fail
                go_ret
                rw [HE.out]
                exact ⟨rfl, Below.refl _ _⟩
              · rw [if_neg h3] at hrest
                have HE := hide hrest
                have q4 : ((300 : Int) < (s.size : Int) - 1) = False := eq_false (by omega)
                clear hin hlen hrest h3 hlt2
                go_wp2_with fail
                go_ret
                rw [HE.out]
                exact ⟨rfl, Below.refl _ _⟩
  · have hD : digs s.data.toList = s.data.toList.drop 0 := by
      rw [List.drop_zero]
      cases hl : s.data.toList with
      | nil => rfl
      | cons c r =>
        rw [hl] at h45
        have : c ≠ 45 := fun e => h45 (by rw [e]; rfl)
        simp [digs, this]
    have hway0 : ((0 : Int) < (s.size : Int)) = False ∨ ∃ hp : 0 < s.size, (0 : Int) < (s.size : Int) ∧ ((s[0].toNat : Int) == 45) = false := by
      by_cases h0 : s.data.toList = []
      · refine .inl (eq_false ?_)
        have := bytes_len s
        rw [h0] at this
        simp at this
        omega
      · obtain ⟨hp, hh⟩ := bytes_head h0
        refine .inr ⟨hp, by omega, ?_⟩
        have h1 : s[0] ≠ 45 := fun e => h45 (by rw [hh, e])
        have : s[0].toNat ≠ 45 := fun h => h1 (UInt8.toNat_inj.1 h)
        simp only [beq_eq_false_iff_ne, ne_eq]
        omega
    clear h45
    rcases hway0 with p1 | ⟨hp, p1, p2⟩
    · have hn0 : s.size = 0 := by
        have : ¬ (0 : Int) < (s.size : Int) := fun h => by rw [p1] at h; exact h
        omega
      have HE := hide (show chkI s.data.toList = 11 from chk_empty (by rw [hD]; exact List.drop_eq_nil_of_le (by rw [bytes_len]; omega)))
      have q1 : ((0 : Int) == (s.size : Int)) = true := by rw [hn0]; rfl
      clear hD hn0
      go_enter Tryz.func33, Tryz.ntmps33
      go_wp2_with fail
      go_ret
      rw [HE.out]
      exact ⟨rfl, Below.refl _ _⟩
    have hp0 : (0 : Int) < (s.size : Int) := by omega
    by_cases hn0 : s.size = 0
    · have HE := hide (show chkI s.data.toList = 11 from chk_empty (by rw [hD]; exact List.drop_eq_nil_of_le (by rw [bytes_len]; omega)))
      have q1 : ((0 : Int) == (s.size : Int)) = true := by rw [hn0]; rfl
      clear hD hn0
      go_enter Tryz.func33, Tryz.ntmps33
      go_wp2_with fail
      go_ret
      rw [HE.out]
      exact ⟨rfl, Below.refl _ _⟩
    · have hlt : 0 < s.size := by omega
      have hlti : (0 : Int) < (s.size : Int) := by omega
      have q1 : ((0 : Int) == (s.size : Int)) = false := by
        have : ¬ (0 : Int) = (s.size : Int) := by omega
        simpa using this
      have hat : s.data.toList[0]? = some (s[0]'hlt) := by
        have h1 : s.data.toList[0]? = some s.data[0] := by simp
        exact h1
      have hhd : (digs s.data.toList).head? = some (s[0]'hlt) := by rw [hD, List.head?_drop]; exact hat
      by_cases hz : s[0]'hlt = 48 ∧ 1 < s.size
      · have HE := hide (show chkI s.data.toList = 11 from chk_zero (by rw [hhd, hz.1]) (fun e => by have := bytes_len s; rw [e] at this; have := hz.2; simp at *; omega))
        have q2 : (((s[0]'hlt).toNat : Int) == 48) = true := by rw [hz.1]; rfl
        have q3 : (1 : Int) < (s.size : Int) := by have := hz.2; omega
        clear hD hn0 hz hat hhd
        go_enter Tryz.func33, Tryz.ntmps33
        go_wp2_with fail
        go_ret
        rw [HE.out]
        exact ⟨rfl, Below.refl _ _⟩
      · have hway : (((s[0]'hlt).toNat : Int) == 48) = false ∨ ((((s[0]'hlt).toNat : Int) == 48) = true ∧ ((1 : Int) < (s.size : Int)) = False) := by
          by_cases h48 : s[0]'hlt = 48
          · exact .inr ⟨by rw [h48]; rfl, eq_false (by have : ¬ 1 < s.size := fun e => hz ⟨h48, e⟩; omega)⟩
          · refine .inl ?_
            have : (s[0]'hlt).toNat ≠ 48 := fun h => h48 (UInt8.toNat_inj.1 h)
            simp only [beq_eq_false_iff_ne, ne_eq]
            omega
        have HZ := hide (show (digs s.data.toList).head? = some 48 → s.data.toList = [48] from fun e => by
          rw [hhd] at e
          injection e with e
          have h1 : s.size = 1 := by have : ¬ 1 < s.size := fun h => hz ⟨e, h⟩; omega
          have h2 := bytes_len s
          rw [h1] at h2
          obtain ⟨c, hc⟩ := List.length_eq_one_iff.1 h2
          have h0 : (0 : Nat) = 0 := by omega
          have h3 := hat
          rw [e, hc] at h3
          rw [hc]
          first
            | (simp at h3; done)
            | (injection h3 with h3; rw [h3]))
        have HD := hide hD
        clear hD hn0 hz hat hhd
        rcases hway with q2 | ⟨q2, q3⟩
        all_goals
          go_enter Tryz.func33, Tryz.ntmps33
          go_wp2_with fail
          go_loopw [4] (fun i wr => ∃ k : Nat, 0 ≤ k ∧ k ≤ s.size ∧ i = .int .i64 k ∧ Hid (∀ c ∈ (s.data.toList.take k).drop 0, isDg c = true) ∧ wr = w) (fun i _ => s.size - (intOf i).toNat)
          case' atStart => exact ⟨0, Nat.le_refl _, by omega, rfl, fun c hc => by rw [List.drop_eq_nil_of_le (by rw [List.length_take]; omega)] at hc; simp at hc, rfl⟩
          case' round =>
            obtain ⟨k, hk1, hk2, rfl, hin, rfl⟩ := hrel
            by_cases hlt2 : k < s.size
            · have hki : (k : Int) < (s.size : Int) := by omega
              have hk0 : (0 : Int) ≤ (k : Int) := by omega
              have hat2 : s.data.toList[k]? = some (s[k]'hlt2) := by
                have h1 : s.data.toList[k]? = some s.data[k] := by simp
                exact h1
              have hmem : s[k]'hlt2 ∈ digs s.data.toList := by
                rw [HD.out]
                refine List.mem_of_getElem? (i := k - 0) ?_
                rw [List.getElem?_drop, show 0 + (k - 0) = k by omega]
                exact hat2
              obtain ⟨y, hyv⟩ : ∃ y : Nat, y = (s[k]'hlt2).toNat := ⟨_, rfl⟩
              have hyv2 : (s[k]'hlt2).toNat = y := hyv.symm
              by_cases hy1 : y < 48
              · have HE := hide (show chkI s.data.toList = 11 from chk_nodg hmem (by unfold isDg; rw [hyv2, decide_eq_false (by omega : ¬ 48 ≤ y)]; rfl))
                have q4 : (y : Int) < 48 := by omega
                clear hat2 hmem hyv hin hy1
                go_wp2_with fail
                go_ret
                rw [HE.out]
                exact ⟨rfl, Below.refl _ _⟩
              · by_cases hy2 : 57 < y
                · have HE := hide (show chkI s.data.toList = 11 from chk_nodg hmem (by unfold isDg; rw [hyv2, decide_eq_false (by omega : ¬ y ≤ 57), Bool.and_false]))
                  have q4 : ((y : Int) < 48) = False := eq_false (by omega)
                  have q5 : (57 : Int) < (y : Int) := by omega
                  clear hat2 hmem hyv hin hy1 hy2
                  go_wp2_with fail
                  go_ret
                  rw [HE.out]
                  exact ⟨rfl, Below.refl _ _⟩
                · have hdg : isDg (s[k]'hlt2) = true := isDg_iff.2 (by omega)
                  have HN := hide (show ∀ c ∈ (s.data.toList.take (k + 1)).drop 0, isDg c = true from fun c hc => by
                    rw [List.take_add_one, hat2, List.drop_append_of_le_length (by rw [List.length_take, bytes_len]; omega)] at hc
                    rcases List.mem_append.1 hc with h | h
                    · exact hin.out c h
                    · simp at h
                      rw [h]
                      exact hdg)
                  have q4 : ((y : Int) < 48) = False := eq_false (by omega)
                  have q5 : ((57 : Int) < (y : Int)) = False := eq_false (by omega)
                  clear hat2 hmem hyv hin hy1 hy2 hdg
                  go_wp2_with fail
                  go_roundw
                  case rel => exact ⟨k + 1, by omega, by omega, by simp, HN.out, trivial⟩
                  case measure => simp [intOf]; omega
            · obtain rfl : k = s.size := by omega
              have hki : ((s.size : Int) < (s.size : Int)) = False := eq_false (by omega)
              have hlen : (digs s.data.toList).length = s.size - 0 := by rw [HD.out, List.length_drop, bytes_len]
              have hrest := chk_rest (l := s.data.toList) (fun e => by rw [e] at hlen; simp at hlen; omega) HZ.out (fun c hc => by
                rw [HD.out] at hc
                refine hin.out c ?_
                rw [List.take_of_length_le (by rw [bytes_len]; exact Nat.le_refl _)]
                exact hc)
              rw [hlen] at hrest
              by_cases h3 : 300 < s.size - 0
              · rw [if_pos h3] at hrest
                have HE := hide hrest
                have q4 : (300 : Int) < (s.size : Int) := by omega
                clear hin hlen hrest h3 hlt2
                go_wp2_with fail
                go_ret
                rw [HE.out]
                exact ⟨rfl, Below.refl _ _⟩
              · rw [if_neg h3] at hrest
                have HE := hide hrest
                have q4 : ((300 : Int) < (s.size : Int)) = False := eq_false (by omega)
                clear hin hlen hrest h3 hlt2
                go_wp2_with fail
                go_ret
                rw [HE.out]
                exact ⟨rfl, Below.refl _ _⟩
end Go.Proofs.YthkioajalhglfaaGreatDoor
