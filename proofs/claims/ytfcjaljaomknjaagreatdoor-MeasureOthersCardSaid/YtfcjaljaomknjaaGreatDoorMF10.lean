/-
  Texts laid together.
-/
import Derived.Test.YtfcjaljaomknjaaGreatDoorMF9
import Derived.Test.YtfcjaljaomknjaaGreatDoorMF5
import Derived.Test.YtfcjaljaomknjaaGreatDoorMF8
set_option maxRecDepth 100000
set_option maxHeartbeats 4000000
namespace Go.Proofs.YtfcjaljaomknjaaGreatDoor
open Go.RowKit Go.KP Go.KI Go.Shelf
attribute [local go_sem] Oper.semAt_some

theorem chk_empty {l : List UInt8} (h : digs l = []) : chkI l = 11 := if_pos (.inl h)
theorem chk_zero {l : List UInt8} (h : (digs l).head? = some 48) (h2 : l ≠ [48]) : chkI l = 11 := if_pos (.inr (.inl ⟨h, h2⟩))
theorem chk_nodg {l : List UInt8} {c : UInt8} (h : c ∈ digs l) (h2 : isDg c = false) : chkI l = 11 := by
  refine if_pos (.inr (.inr (fun e => ?_)))
  rw [List.all_eq_true] at e
  have := e c h
  rw [h2] at this
  cases this
theorem chk_rest {l : List UInt8} (h : digs l ≠ []) (h2 : (digs l).head? = some 48 → l = [48]) (h3 : ∀ c ∈ digs l, isDg c = true) : chkI l = if 300 < (digs l).length then 4 else 0 := by
  refine if_neg ?_
  rintro (e | ⟨e, e2⟩ | e)
  · exact h e
  · exact e2 (h2 e)
  · exact e (List.all_eq_true.2 h3)
theorem rcheck_any (s : ByteArray) (hs : s.size ≤ 1000000) (w : World) :
    Calls Tryz.prog 184 #[.string s] w (Ret w (.int .i64 (chkI s.data.toList))) := by
  by_cases h45 : s.data.toList.head? = some 45
  · have hD : digs s.data.toList = s.data.toList.drop 1 := by
      cases hl : s.data.toList with
      | nil => rfl
      | cons c r =>
        rw [hl] at h45
        injection h45 with h45
        subst h45
        rfl
    obtain ⟨hp, hh⟩ := bytes_head (s := s) (fun e => by rw [e] at h45; cases h45)
    have hp0 : (0 : Int) < (s.size : Int) := by omega
    have p2 : ((s[0].toNat : Int) == 45) = true := by
      rw [hh] at h45
      injection h45 with h45
      rw [h45]
      rfl
    clear hh h45
    by_cases hn0 : s.size = 1
    · have HE := hide (show chkI s.data.toList = 11 from chk_empty (by rw [hD]; exact List.drop_eq_nil_of_le (by rw [bytes_len]; omega)))
      have q1 : ((1 : Int) == (s.size : Int)) = true := by rw [hn0]; rfl
      clear hD hn0
      go_enter Tryz.func184, Tryz.ntmps184
      go_wp2_with fail
      go_ret
      rw [HE.out]
      exact ⟨rfl, Below.refl _ _⟩
    · have hlt : 1 < s.size := by omega
      have hlti : (1 : Int) < (s.size : Int) := by omega
      have q1 : ((1 : Int) == (s.size : Int)) = false := by
        have : ¬ (1 : Int) = (s.size : Int) := by omega
        simpa using this
      have hat : s.data.toList[1]? = some (s[1]'hlt) := by
        have h1 : s.data.toList[1]? = some s.data[1] := by simp
        exact h1
      have hhd : (digs s.data.toList).head? = some (s[1]'hlt) := by rw [hD, List.head?_drop]; exact hat
      by_cases hz : s[1]'hlt = 48 ∧ 1 < s.size
      · have HE := hide (show chkI s.data.toList = 11 from chk_zero (by rw [hhd, hz.1]) (fun e => by have := bytes_len s; rw [e] at this; have := hz.2; simp at *; omega))
        have q2 : (((s[1]'hlt).toNat : Int) == 48) = true := by rw [hz.1]; rfl
        have q3 : (1 : Int) < (s.size : Int) := by have := hz.2; omega
        clear hD hn0 hz hat hhd
        go_enter Tryz.func184, Tryz.ntmps184
        go_wp2_with fail
        go_ret
        rw [HE.out]
        exact ⟨rfl, Below.refl _ _⟩
      · have hway : (((s[1]'hlt).toNat : Int) == 48) = false ∨ ((((s[1]'hlt).toNat : Int) == 48) = true ∧ ((1 : Int) < (s.size : Int)) = False) := by
          by_cases h48 : s[1]'hlt = 48
          · exact .inr ⟨by rw [h48]; rfl, eq_false (by have : ¬ 1 < s.size := fun e => hz ⟨h48, e⟩; omega)⟩
          · refine .inl ?_
            have : (s[1]'hlt).toNat ≠ 48 := fun h => h48 (UInt8.toNat_inj.1 h)
            simp only [beq_eq_false_iff_ne, ne_eq]
            omega
        have HZ := hide (show (digs s.data.toList).head? = some 48 → s.data.toList = [48] from fun e => by
          rw [hhd] at e
          injection e with e
          have h1 : s.size = 1 := by have : ¬ 1 < s.size := fun h => hz ⟨e, h⟩; omega
          have h2 := bytes_len s
          rw [h1] at h2
          obtain ⟨c, hc⟩ := List.length_eq_one_iff.1 h2
          have h0 : (1 : Nat) = 0 := by omega
          have h3 := hat
          rw [e, hc] at h3
          rw [hc]
          first
            | (simp at h3; done)
            | (injection h3 with h3; rw [h3]))
        have HD := hide hD
        clear hD hn0 hz hat hhd
        rcases hway with q2 | ⟨q2, q3⟩
        case inr => exact absurd hlti (fun h => by rw [q3] at h; exact h)
        all_goals
          go_enter Tryz.func184, Tryz.ntmps184
          go_wp2_with fail
          go_loopw [4] (fun i wr => ∃ k : Nat, 1 ≤ k ∧ k ≤ s.size ∧ i = .int .i64 k ∧ Hid (∀ c ∈ (s.data.toList.take k).drop 1, isDg c = true) ∧ wr = w) (fun i _ => s.size - (intOf i).toNat)
          case' atStart => exact ⟨1, Nat.le_refl _, by omega, rfl, fun c hc => by rw [List.drop_eq_nil_of_le (by rw [List.length_take]; omega)] at hc; simp at hc, rfl⟩
          case' round =>
            obtain ⟨k, hk1, hk2, rfl, hin, rfl⟩ := hrel
            by_cases hlt2 : k < s.size
            · have hki : (k : Int) < (s.size : Int) := by omega
              have hk0 : (0 : Int) ≤ (k : Int) := by omega
              have hat2 : s.data.toList[k]? = some (s[k]'hlt2) := by
                have h1 : s.data.toList[k]? = some s.data[k] := by simp
                exact h1
              have hmem : s[k]'hlt2 ∈ digs s.data.toList := by
                rw [HD.out]
                refine List.mem_of_getElem? (i := k - 1) ?_
                rw [List.getElem?_drop, show 1 + (k - 1) = k by omega]
                exact hat2
              obtain ⟨y, hyv⟩ : ∃ y : Nat, y = (s[k]'hlt2).toNat := ⟨_, rfl⟩
              have hyv2 : (s[k]'hlt2).toNat = y := hyv.symm
              by_cases hy1 : y < 48
              · have HE := hide (show chkI s.data.toList = 11 from chk_nodg hmem (by unfold isDg; rw [hyv2, decide_eq_false (by omega : ¬ 48 ≤ y)]; rfl))
                have q4 : (y : Int) < 48 := by omega
                clear hat2 hmem hyv hin hy1
                go_wp2_with fail
                go_ret
                rw [HE.out]
                exact ⟨rfl, Below.refl _ _⟩
              · by_cases hy2 : 57 < y
                · have HE := hide (show chkI s.data.toList = 11 from chk_nodg hmem (by unfold isDg; rw [hyv2, decide_eq_false (by omega : ¬ y ≤ 57), Bool.and_false]))
                  have q4 : ((y : Int) < 48) = False := eq_false (by omega)
                  have q5 : (57 : Int) < (y : Int) := by omega
                  clear hat2 hmem hyv hin hy1 hy2
                  go_wp2_with fail
                  go_ret
                  rw [HE.out]
                  exact ⟨rfl, Below.refl _ _⟩
                · have hdg : isDg (s[k]'hlt2) = true := isDg_iff.2 (by omega)
                  have HN := hide (show ∀ c ∈ (s.data.toList.take (k + 1)).drop 1, isDg c = true from fun c hc => by
                    rw [List.take_add_one, hat2, List.drop_append_of_le_length (by rw [List.length_take, bytes_len]; omega)] at hc
                    rcases List.mem_append.1 hc with h | h
                    · exact hin.out c h
                    · simp at h
                      rw [h]
                      exact hdg)
                  have q4 : ((y : Int) < 48) = False := eq_false (by omega)
                  have q5 : ((57 : Int) < (y : Int)) = False := eq_false (by omega)
                  clear hat2 hmem hyv hin hy1 hy2 hdg
                  go_wp2_with fail
                  go_roundw
                  case rel => exact ⟨k + 1, by omega, by omega, by simp, HN.out, trivial⟩
                  case measure => simp [intOf]; omega
            · obtain rfl : k = s.size := by omega
              have hki : ((s.size : Int) < (s.size : Int)) = False := eq_false (by omega)
              have hlen : (digs s.data.toList).length = s.size - 1 := by rw [HD.out, List.length_drop, bytes_len]
              have hrest := chk_rest (l := s.data.toList) (fun e => by rw [e] at hlen; simp at hlen; omega) HZ.out (fun c hc => by
                rw [HD.out] at hc
                refine hin.out c ?_
                rw [List.take_of_length_le (by rw [bytes_len]; exact Nat.le_refl _)]
                exact hc)
              rw [hlen] at hrest
              by_cases h3 : 300 < s.size - 1
              · rw [if_pos h3] at hrest
                have HE := hide hrest
                have q4 : (300 : Int) < (s.size : Int) - 1 := by omega
                clear hin hlen hrest h3 hlt2
                go_wp2_with fail
                go_ret
                rw [HE.out]
                exact ⟨rfl, Below.refl _ _⟩
              · rw [if_neg h3] at hrest
                have HE := hide hrest
                have q4 : ((300 : Int) < (s.size : Int) - 1) = False := eq_false (by omega)
                clear hin hlen hrest h3 hlt2
                go_wp2_with fail
                go_ret
                rw [HE.out]
                exact ⟨rfl, Below.refl _ _⟩
  · have hD : digs s.data.toList = s.data.toList.drop 0 := by
      rw [List.drop_zero]
      cases hl : s.data.toList with
      | nil => rfl
      | cons c r =>
        rw [hl] at h45
        have : c ≠ 45 := fun e => h45 (by rw [e]; rfl)
        simp [digs, this]
    have hway0 : ((0 : Int) < (s.size : Int)) = False ∨ ∃ hp : 0 < s.size, (0 : Int) < (s.size : Int) ∧ ((s[0].toNat : Int) == 45) = false := by
      by_cases h0 : s.data.toList = []
      · refine .inl (eq_false ?_)
        have := bytes_len s
        rw [h0] at this
        simp at this
        omega
      · obtain ⟨hp, hh⟩ := bytes_head h0
        refine .inr ⟨hp, by omega, ?_⟩
        have h1 : s[0] ≠ 45 := fun e => h45 (by rw [hh, e])
        have : s[0].toNat ≠ 45 := fun h => h1 (UInt8.toNat_inj.1 h)
        simp only [beq_eq_false_iff_ne, ne_eq]
        omega
    clear h45
    rcases hway0 with p1 | ⟨hp, p1, p2⟩
    · have hn0 : s.size = 0 := by
        have : ¬ (0 : Int) < (s.size : Int) := fun h => by rw [p1] at h; exact h
        omega
      have HE := hide (show chkI s.data.toList = 11 from chk_empty (by rw [hD]; exact List.drop_eq_nil_of_le (by rw [bytes_len]; omega)))
      have q1 : ((0 : Int) == (s.size : Int)) = true := by rw [hn0]; rfl
      clear hD hn0
      go_enter Tryz.func184, Tryz.ntmps184
      go_wp2_with fail
      go_ret
      rw [HE.out]
      exact ⟨rfl, Below.refl _ _⟩
    have hp0 : (0 : Int) < (s.size : Int) := by omega
    by_cases hn0 : s.size = 0
    · have HE := hide (show chkI s.data.toList = 11 from chk_empty (by rw [hD]; exact List.drop_eq_nil_of_le (by rw [bytes_len]; omega)))
      have q1 : ((0 : Int) == (s.size : Int)) = true := by rw [hn0]; rfl
      clear hD hn0
      go_enter Tryz.func184, Tryz.ntmps184
      go_wp2_with fail
      go_ret
      rw [HE.out]
      exact ⟨rfl, Below.refl _ _⟩
    · have hlt : 0 < s.size := by omega
      have hlti : (0 : Int) < (s.size : Int) := by omega
      have q1 : ((0 : Int) == (s.size : Int)) = false := by
        have : ¬ (0 : Int) = (s.size : Int) := by omega
        simpa using this
      have hat : s.data.toList[0]? = some (s[0]'hlt) := by
        have h1 : s.data.toList[0]? = some s.data[0] := by simp
        exact h1
      have hhd : (digs s.data.toList).head? = some (s[0]'hlt) := by rw [hD, List.head?_drop]; exact hat
      by_cases hz : s[0]'hlt = 48 ∧ 1 < s.size
      · have HE := hide (show chkI s.data.toList = 11 from chk_zero (by rw [hhd, hz.1]) (fun e => by have := bytes_len s; rw [e] at this; have := hz.2; simp at *; omega))
        have q2 : (((s[0]'hlt).toNat : Int) == 48) = true := by rw [hz.1]; rfl
        have q3 : (1 : Int) < (s.size : Int) := by have := hz.2; omega
        clear hD hn0 hz hat hhd
        go_enter Tryz.func184, Tryz.ntmps184
        go_wp2_with fail
        go_ret
        rw [HE.out]
        exact ⟨rfl, Below.refl _ _⟩
      · have hway : (((s[0]'hlt).toNat : Int) == 48) = false ∨ ((((s[0]'hlt).toNat : Int) == 48) = true ∧ ((1 : Int) < (s.size : Int)) = False) := by
          by_cases h48 : s[0]'hlt = 48
          · exact .inr ⟨by rw [h48]; rfl, eq_false (by have : ¬ 1 < s.size := fun e => hz ⟨h48, e⟩; omega)⟩
          · refine .inl ?_
            have : (s[0]'hlt).toNat ≠ 48 := fun h => h48 (UInt8.toNat_inj.1 h)
            simp only [beq_eq_false_iff_ne, ne_eq]
            omega
        have HZ := hide (show (digs s.data.toList).head? = some 48 → s.data.toList = [48] from fun e => by
          rw [hhd] at e
          injection e with e
          have h1 : s.size = 1 := by have : ¬ 1 < s.size := fun h => hz ⟨e, h⟩; omega
          have h2 := bytes_len s
          rw [h1] at h2
          obtain ⟨c, hc⟩ := List.length_eq_one_iff.1 h2
          have h0 : (0 : Nat) = 0 := by omega
          have h3 := hat
          rw [e, hc] at h3
          rw [hc]
          first
            | (simp at h3; done)
            | (injection h3 with h3; rw [h3]))
        have HD := hide hD
        clear hD hn0 hz hat hhd
        rcases hway with q2 | ⟨q2, q3⟩
        all_goals
          go_enter Tryz.func184, Tryz.ntmps184
          go_wp2_with fail
          go_loopw [4] (fun i wr => ∃ k : Nat, 0 ≤ k ∧ k ≤ s.size ∧ i = .int .i64 k ∧ Hid (∀ c ∈ (s.data.toList.take k).drop 0, isDg c = true) ∧ wr = w) (fun i _ => s.size - (intOf i).toNat)
          case' atStart => exact ⟨0, Nat.le_refl _, by omega, rfl, fun c hc => by rw [List.drop_eq_nil_of_le (by rw [List.length_take]; omega)] at hc; simp at hc, rfl⟩
          case' round =>
            obtain ⟨k, hk1, hk2, rfl, hin, rfl⟩ := hrel
            by_cases hlt2 : k < s.size
            · have hki : (k : Int) < (s.size : Int) := by omega
              have hk0 : (0 : Int) ≤ (k : Int) := by omega
              have hat2 : s.data.toList[k]? = some (s[k]'hlt2) := by
                have h1 : s.data.toList[k]? = some s.data[k] := by simp
                exact h1
              have hmem : s[k]'hlt2 ∈ digs s.data.toList := by
                rw [HD.out]
                refine List.mem_of_getElem? (i := k - 0) ?_
                rw [List.getElem?_drop, show 0 + (k - 0) = k by omega]
                exact hat2
              obtain ⟨y, hyv⟩ : ∃ y : Nat, y = (s[k]'hlt2).toNat := ⟨_, rfl⟩
              have hyv2 : (s[k]'hlt2).toNat = y := hyv.symm
              by_cases hy1 : y < 48
              · have HE := hide (show chkI s.data.toList = 11 from chk_nodg hmem (by unfold isDg; rw [hyv2, decide_eq_false (by omega : ¬ 48 ≤ y)]; rfl))
                have q4 : (y : Int) < 48 := by omega
                clear hat2 hmem hyv hin hy1
                go_wp2_with fail
                go_ret
                rw [HE.out]
                exact ⟨rfl, Below.refl _ _⟩
              · by_cases hy2 : 57 < y
                · have HE := hide (show chkI s.data.toList = 11 from chk_nodg hmem (by unfold isDg; rw [hyv2, decide_eq_false (by omega : ¬ y ≤ 57), Bool.and_false]))
                  have q4 : ((y : Int) < 48) = False := eq_false (by omega)
                  have q5 : (57 : Int) < (y : Int) := by omega
                  clear hat2 hmem hyv hin hy1 hy2
                  go_wp2_with fail
                  go_ret
                  rw [HE.out]
                  exact ⟨rfl, Below.refl _ _⟩
                · have hdg : isDg (s[k]'hlt2) = true := isDg_iff.2 (by omega)
                  have HN := hide (show ∀ c ∈ (s.data.toList.take (k + 1)).drop 0, isDg c = true from fun c hc => by
                    rw [List.take_add_one, hat2, List.drop_append_of_le_length (by rw [List.length_take, bytes_len]; omega)] at hc
                    rcases List.mem_append.1 hc with h | h
                    · exact hin.out c h
                    · simp at h
                      rw [h]
                      exact hdg)
                  have q4 : ((y : Int) < 48) = False := eq_false (by omega)
                  have q5 : ((57 : Int) < (y : Int)) = False := eq_false (by omega)
                  clear hat2 hmem hyv hin hy1 hy2 hdg
                  go_wp2_with fail
                  go_roundw
                  case rel => exact ⟨k + 1, by omega, by omega, by simp, HN.out, trivial⟩
                  case measure => simp [intOf]; omega
            · obtain rfl : k = s.size := by omega
              have hki : ((s.size : Int) < (s.size : Int)) = False := eq_false (by omega)
              have hlen : (digs s.data.toList).length = s.size - 0 := by rw [HD.out, List.length_drop, bytes_len]
              have hrest := chk_rest (l := s.data.toList) (fun e => by rw [e] at hlen; simp at hlen; omega) HZ.out (fun c hc => by
                rw [HD.out] at hc
                refine hin.out c ?_
                rw [List.take_of_length_le (by rw [bytes_len]; exact Nat.le_refl _)]
                exact hc)
              rw [hlen] at hrest
              by_cases h3 : 300 < s.size - 0
              · rw [if_pos h3] at hrest
                have HE := hide hrest
                have q4 : (300 : Int) < (s.size : Int) := by omega
                clear hin hlen hrest h3 hlt2
                go_wp2_with fail
                go_ret
                rw [HE.out]
                exact ⟨rfl, Below.refl _ _⟩
              · rw [if_neg h3] at hrest
                have HE := hide hrest
                have q4 : ((300 : Int) < (s.size : Int)) = False := eq_false (by omega)
                clear hin hlen hrest h3 hlt2
                go_wp2_with fail
                go_ret
                rw [HE.out]
                exact ⟨rfl, Below.refl _ _⟩
open Go.RowKit Go.KP Go.KI Go.Shelf
attribute [local go_sem] Oper.semAt_some

theorem rlimb_any (v : Value) (l : List Nat) (i : Nat) (B : Nat) (w : World) (h : LimbAt B w v l) (hi : i ≤ 1000000) :
    Calls Tryz.prog 188 #[v, .int .i64 i] w fun e w' => e = .returned (.int .i64 (lat l i)) ∧ w' = w := by
  have i0 : (0 : Int) ≤ (i : Int) := by omega
  rcases h.cases with ⟨a, c, rfl, rfl⟩ | ⟨b, o, cap, rfl, hb, hc⟩
  · have hlt : ((i : Int) < 0) = False := eq_false (by omega)
    have hl : lat [] i = 0 := rfl
    rw [hl]
    go_enter Tryz.func188, Tryz.ntmps188
    go_wp2
    go_ret
    exact ⟨rfl, rfl⟩
  · by_cases hlt : i < l.length
    · have hcell := hc i hlt
      have hlti : (i : Int) < (l.length : Int) := by omega
      clear hc h
      go_enter Tryz.func188, Tryz.ntmps188
      go_wp2
      go_ret
      exact ⟨rfl, rfl⟩
    · have hlti : ¬ (i : Int) < (l.length : Int) := by omega
      have hl := lat_past (l := l) (i := i) (by omega)
      rw [hl]
      clear hc h hl
      go_enter Tryz.func188, Tryz.ntmps188
      go_wp2
      go_ret
      exact ⟨rfl, rfl⟩
theorem rtrim_any (a : Option Addr) (c : Nat) (l : List Nat) (B : Nat) (w : World) (h : LimbAt B w (.slice a l.length c) l) (hc : l.length ≤ c) (hl : l.length ≤ 1000000) :
    Calls Tryz.prog 186 #[.slice a l.length c] w fun e w' => e = .returned (.slice a (trimTo l l.length) c) ∧ w = w' := by
  have H := hide h
  obtain ⟨n, hn⟩ : ∃ n, n = l.length := ⟨_, rfl⟩
  rw [← hn] at hc hl ⊢
  have HN := hide hn
  clear h hn
  go_enter Tryz.func186, Tryz.ntmps186
  go_wp2_with fail
  go_loopw [3] (fun t wr => ∃ k : Nat, k ≤ n ∧ t = .int .i64 k ∧ Hid (trimTo l k = trimTo l n) ∧ wr = w) (fun t _ => (intOf t).toNat)
  case atStart => exact ⟨n, Nat.le_refl _, rfl, rfl, rfl⟩
  case round =>
    obtain ⟨k, hk, rfl, ht, rfl⟩ := hrel
    rcases Nat.eq_zero_or_pos k with h0 | h0
    · have hq : (0 < k) = False := eq_false (by omega)
      have HT := hide (show trimTo l n = k by rw [← ht.out, h0]; rfl)
      have hkc : (k : Int) ≤ (c : Int) := by omega
      clear h0 ht
      go_wp2_with fail
      go_ret
      rw [HT.out]
      exact ⟨rfl, rfl⟩
    · rcases H.out.cases with ⟨a0, c0, hv, hnil⟩ | ⟨b, o, cap, hv, hb, hcl⟩
      · exfalso
        have := HN.out
        rw [hnil] at this
        simp at this
        omega
      · have hcell := hcl (k - 1) (by rw [← HN.out]; omega)
        injection hv with hv1 hv2 hv3
        subst hv1; subst hv3
        obtain ⟨m, hm⟩ : ∃ m, k = m + 1 := ⟨k - 1, by omega⟩
        subst hm
        rw [Nat.add_sub_cancel] at hcell
        have hq : decide (((m + 1 : Nat) : Int) > 0) = true := by simp
        have hm1 : ((m + 1 : Nat) : Int) - 1 = (m : Int) := by omega
        have hmn : (m : Int) < (n : Int) := by omega
        by_cases hz : lat l m = 0
        · have hz1 : ((lat l m : Int) == 0) = true := by rw [hz]; rfl
          have HT := hide (show trimTo l m = trimTo l n from (trimTo_z hz).symm.trans ht.out)
          clear hz ht hcl hv2
          go_wp2_with fail
          go_roundw
          case rel => exact ⟨m, by omega, rfl, HT, trivial⟩
          case measure => simp [intOf]
        · have hz1 : ((lat l m : Int) == 0) = false := by simpa using hz
          have HT := hide (show trimTo l n = m + 1 from ht.out.symm.trans (trimTo_p hz))
          have hkc : ((m + 1 : Nat) : Int) ≤ (c : Int) := by omega
          clear hz ht hcl hv2
          go_wp2_with fail
          go_ret
          rw [HT.out]
          exact ⟨rfl, rfl⟩
theorem rboth_any (s t : ByteArray) (hs : s.size ≤ 1000000) (ht : t.size ≤ 1000000) (w : World) :
    Calls Tryz.prog 139 #[.string s, .string t] w (Ret w (.int .i64 (bothI s.data.toList t.data.toList))) := by
  have H1 := hide (fun w => rcheck_any s hs w)
  have H2 := hide (fun w => rcheck_any t ht w)
  by_cases h : chkI s.data.toList = 0
  · have HE := hide (show bothI s.data.toList t.data.toList = chkI t.data.toList from if_pos h)
    rw [h] at H1
    clear h
    go_enter Tryz.func139, Tryz.ntmps139
    go_wp2_with fail
    refine (H1.out _).mono ?_
    rintro e w1 ⟨rfl, hb1⟩
    have HB1 := hide hb1
    clear hb1 H1
    go_wp2_with fail
    refine (H2.out _).mono ?_
    rintro e w2 ⟨rfl, hb2⟩
    have HB2 := hide (HB1.out.trans (hb2.mono HB1.out.size))
    clear hb2 H2 HB1
    go_wp2_with fail
    go_ret
    rw [HE.out]
    exact ⟨rfl, HB2.out⟩
  · have HE := hide (show bothI s.data.toList t.data.toList = chkI s.data.toList from if_neg h)
    have hq : (chkI s.data.toList != 0) = true := by simpa using h
    obtain ⟨E, hE⟩ : ∃ E, E = chkI s.data.toList := ⟨_, rfl⟩
    rw [← hE] at H1 hq HE
    clear h hE
    go_enter Tryz.func139, Tryz.ntmps139
    go_wp2_with fail
    refine (H1.out _).mono ?_
    rintro e w1 ⟨rfl, hb1⟩
    have HB1 := hide hb1
    clear hb1 H1
    go_wp2_with fail
    go_ret
    rw [HE.out]
    exact ⟨rfl, HB1.out⟩
theorem digs_drop (l : List UInt8) : digs l = l.drop (if l.head? = some 45 then 1 else 0) := by
  cases l with
  | nil => rfl
  | cons c r =>
    by_cases h : c = 45
    · simp [digs, h]
    · simp [digs, h]
theorem rsmall_yes (s : ByteArray) (c1 : chkI s.data.toList = 0) (hs : s.size ≤ 17) (w : World) :
    Calls Tryz.prog 185 #[.string s] w (Ret w (.tuple #[.int .i64 (valI s.data.toList), .bool true])) := by
  obtain ⟨mi, hmi⟩ : ∃ mi, mi = decide (s.data.toList.head? = some 45) := ⟨_, rfl⟩
  obtain ⟨off, hoff⟩ : ∃ off : Nat, off = if mi then 1 else 0 := ⟨_, rfl⟩
  have hd : digs s.data.toList = s.data.toList.drop off := by
    rw [digs_drop, hoff, hmi]
    by_cases h : s.data.toList.head? = some 45 <;> simp [h]
  have HD := hide hd
  have HDG := hide (chk_digs c1).1
  have HV := hide (valI_S s.data.toList)
  rw [← hmi] at HV
  have hpos := chk_pos c1
  rw [bytes_len] at hpos
  have hsi : (s.size : Int) ≤ 17 := by omega
  have hne : s.data.toList ≠ [] := fun e => by have := bytes_len s; rw [e] at this; simp at this; omega
  obtain ⟨hp, hh⟩ := bytes_head hne
  have hp0 : (0 : Int) < (s.size : Int) := by omega
  have h45 : ((s[0].toNat : Int) == 45) = mi := by
    rw [hmi, hh]
    by_cases h : s[0] = 45
    · rw [h]; rfl
    · have : s[0].toNat ≠ 45 := fun e => h (UInt8.toNat_inj.1 e)
      have h2 : ((s[0].toNat : Int) == 45) = false := by
        simp only [beq_eq_false_iff_ne, ne_eq]
        omega
      rw [h2]
      simp [h]
  have hlen : (digs s.data.toList).length = s.size - off := by rw [hd, List.length_drop, bytes_len]
  have hbnd : dv (digs s.data.toList) < 100000000000000000 := by
    have h1 := dv_lt _ (chk_digs c1).1
    have h2 : 10 ^ (digs s.data.toList).length ≤ 10 ^ 17 := Nat.pow_le_pow_right (by omega) (by rw [hlen]; omega)
    have h3 : (10 : Nat) ^ 17 = 100000000000000000 := by decide
    omega
  have HOF := hide hoff; have HMI := hide hmi; have HB := hide hbnd; have H45 := hide h45
  clear hd c1 hne hh hlen hoff hmi hbnd
  go_enter Tryz.func185, Tryz.ntmps185
  go_wp2_with fail
  clear h45
  go_loopw [4, 5] (fun acc i wr => ∃ k A : Nat, k ≤ s.size ∧ i = .int .i64 k ∧ acc = .int .i64 A ∧ Hid (A = dv ((digs s.data.toList).take (k - off))) ∧ wr = w) (fun _ i _ => s.size - (intOf i).toNat)
  case atStart => exact ⟨0, 0, Nat.zero_le _, rfl, rfl, by rw [Nat.zero_sub]; rfl, rfl⟩
  case round =>
    obtain ⟨k, A, hk, rfl, rfl, hA, rfl⟩ := hrel
    by_cases hlt : k < s.size
    · have hki : (k : Int) < (s.size : Int) := by omega
      have hk0 : (0 : Int) ≤ (k : Int) := by omega
      obtain ⟨y, hyv⟩ : ∃ y : Nat, y = (s[k]'hlt).toNat := ⟨_, rfl⟩
      have hyv2 : (s[k]'hlt).toNat = y := hyv.symm
      have hat : s.data.toList[k]? = some (s[k]'hlt) := by
        have h1 : s.data.toList[k]? = some s.data[k] := by simp
        exact h1
      by_cases hko : k < off
      · have hk00 : k = 0 ∧ off = 1 := by
          have := HOF.out
          cases hm : mi <;> rw [hm] at this <;> simp at this <;> omega
        have hmt : mi = true := by
          have := HOF.out
          cases hm : mi
          · rw [hm] at this; simp at this; omega
          · rfl
        have hy45 : y = 45 := by
          have h1 := HMI.out
          rw [hmt] at h1
          have h2 := of_decide_eq_true h1.symm
          have h3 : s.data.toList[0]? = some 45 := by rw [← List.head?_eq_getElem?]; exact h2
          obtain ⟨rfl, _⟩ := hk00
          rw [h3] at hat
          rw [hyv]
          injection hat with hat
          rw [← hat]
          rfl
        have hq : ((y : Int) != 45) = false := by rw [hy45]; rfl
        have HN := hide (show A = dv ((digs s.data.toList).take (k + 1 - off)) by
          have h1 := hA.out
          rw [show k - off = 0 by omega] at h1
          rw [h1, show k + 1 - off = 0 by omega])
        clear hat hyv hy45 hmt hk00 hko hA
        go_wp2_with fail
        go_roundw
        case rel => exact ⟨k + 1, A, by omega, by go_num, rfl, HN, trivial⟩
        case measure => simp [intOf]; omega
      · have hat2 : (digs s.data.toList)[k - off]? = some (s[k]'hlt) := by
          rw [HD.out, List.getElem?_drop, show off + (k - off) = k by omega]
          exact hat
        have hdg := isDg_iff.1 (HDG.out _ (List.mem_of_getElem? hat2))
        rw [hyv2] at hdg
        have hq : ((y : Int) != 45) = true := by
          have : (y : Int) ≠ 45 := by omega
          simpa using this
        have hnew : dv ((digs s.data.toList).take (k + 1 - off)) = A * 10 + (y - 48) := by
          rw [show k + 1 - off = (k - off) + 1 by omega, List.take_add_one, hat2]
          show dv (_ ++ [s[k]'hlt]) = _
          rw [dv_snoc, hyv2, hA.out]
        have hle : A * 10 + (y - 48) < 100000000000000000 := by
          rw [← hnew]
          refine Nat.lt_of_le_of_lt ?_ HB.out
          have h1 := dv_append ((digs s.data.toList).take (k + 1 - off)) ((digs s.data.toList).drop (k + 1 - off))
          rw [List.take_append_drop] at h1
          rw [h1]
          have h2 : 0 < 10 ^ ((digs s.data.toList).drop (k + 1 - off)).length := Nat.pow_pos (by omega)
          have h3 : dv ((digs s.data.toList).take (k + 1 - off)) * 1 ≤ dv ((digs s.data.toList).take (k + 1 - off)) * 10 ^ ((digs s.data.toList).drop (k + 1 - off)).length := Nat.mul_le_mul_left _ h2
          omega
        have HN := hide hnew.symm
        have y0 : (48 : Int) ≤ (y : Int) := by omega
        have y1 : (y : Int) ≤ 57 := by omega
        have a1 : (A : Int) < 10000000000000000 := by omega
        have HC := hide (show 10 * (A : Int) + ((y : Int) - 48) = ((A * 10 + (y - 48) : Nat) : Int) by omega)
        clear hat hat2 hyv hdg hnew hle hko hA
        go_wp2_with fail
        go_roundw
        case rel => exact ⟨k + 1, A * 10 + (y - 48), by omega, by go_num, by rw [← HC.out], HN, trivial⟩
        case measure => simp [intOf]; omega
    · obtain rfl : k = s.size := by omega
      have hki : ((s.size : Int) < (s.size : Int)) = False := eq_false (by omega)
      have hA2 : A = dv (digs s.data.toList) := by
        rw [hA.out, List.take_of_length_le]
        rw [HD.out, List.length_drop, bytes_len]
        exact Nat.le_refl _
      have hAb : (A : Int) < 100000000000000000 := by
        have := HB.out
        rw [← hA2] at this
        omega
      rw [← hA2] at HV
      have h45 := H45.out
      clear hlt hA hA2
      cases mi
      · go_wp2_with fail
        refine bodyPost_ret (results_tmp2 rfl _ _ _) rfl ?_
        exact ⟨by rw [HV.out]; rfl, Below.refl _ _⟩
      · go_wp2_with fail
        refine bodyPost_ret (results_tmp2 rfl _ _ _) rfl ?_
        exact ⟨by rw [HV.out]; rfl, Below.refl _ _⟩
theorem rsmall_no (s : ByteArray) (hs : 17 < s.size) (w : World) :
    Calls Tryz.prog 185 #[.string s] w (Ret w (.tuple #[.int .i64 0, .bool false])) := by
  have e1 : (17 : Int) < (s.size : Int) := by omega
  go_enter Tryz.func185, Tryz.ntmps185
  go_wp2_with fail
  refine bodyPost_ret (results_tmp2 rfl _ _ _) rfl ?_
  exact ⟨rfl, Below.refl _ _⟩
end Go.Proofs.YtfcjaljaomknjaaGreatDoor
namespace Go.KI
open Go
theorem ahead_at {c : UInt8} {l : List UInt8} {k : Nat} (h : k < (ahead c l).length) : ∃ x, l[k]? = some x ∧ x ≠ c := by
  have hp : (ahead c l) <+: l := List.takeWhile_prefix _
  obtain ⟨t, ht⟩ := hp
  refine ⟨(ahead c l)[k], ?_, ahead_ne l _ (List.getElem_mem h)⟩
  have e : l[k]? = (ahead c l ++ t)[k]? := by rw [ht]
  rw [e, List.getElem?_append_left h]
  exact List.getElem?_eq_getElem h
theorem ahead_take {c : UInt8} {l : List UInt8} (h : c ∈ l) : l.take (ahead c l).length = ahead c l := by
  have h2 := congrArg (List.take (ahead c l).length) (split_eq h)
  rw [List.take_left] at h2
  exact h2
theorem behind_drop {c : UInt8} {l : List UInt8} (h : c ∈ l) : l.drop ((ahead c l).length + 1) = behind c l := by
  have h2 := congrArg (List.drop ((ahead c l).length + 1)) (split_eq h)
  rw [h2, List.drop_append]
  simp
theorem ahead_stop {c : UInt8} {l : List UInt8} (h : c ∈ l) : l[(ahead c l).length]? = some c := by
  have e := split_eq h
  have h2 := congrArg (fun m : List UInt8 => m[(ahead c l).length]?) e
  rw [h2, List.getElem?_append_right (Nat.le_refl _), Nat.sub_self]
  rfl
end Go.KI
namespace Go.Proofs.YtfcjaljaomknjaaGreatDoor
open Go.RowKit Go.KP Go.KI Go.Shelf
attribute [local go_sem] Oper.semAt_some

def splitR (l : List UInt8) : Value := .tuple #[.bool (isNeg l), .string (strB (KI.ahead 47 (digs l))), .string (strB (if 47 ∈ digs l then KI.behind 47 (digs l) else [])), .bool (decide (47 ∈ digs l))]
theorem ret4 {f : Func} {R : Ending → World → Prop} {a : Act} {W : World} {t0 t1 t2 t3 : Tmp} {v0 v1 v2 v3 : Value} (hf : f.results = #[.tmp t0, .tmp t1, .tmp t2, .tmp t3]) (h0 : a.tmps[t0]? = some v0) (h1 : a.tmps[t1]? = some v1) (h2 : a.tmps[t2]? = some v2) (h3 : a.tmps[t3]? = some v3) (hd : a.defers = []) (hR : R (.returned (.tuple #[v0, v1, v2, v3])) W) :
    bodyPost Tryz.prog f R .ret a W := by
  refine bodyPost_ret ?_ hd hR
  simp [results, hf, go_sem, h0, h1, h2, h3]
theorem r2split_any (s : ByteArray) (hs : s.size ≤ 9223372036854775807) (w : World) :
    Calls Tryz.prog 105 #[.string s] w (Ret w (splitR s.data.toList)) := by
  obtain ⟨l, hl⟩ : ∃ l, l = digs s.data.toList := ⟨_, rfl⟩
  obtain ⟨O, hO⟩ : ∃ O, O = strB l := ⟨_, rfl⟩
  have hOl : O.data.toList = l := by rw [hO, strB_list]
  have hdl : l.length ≤ s.size := by rw [hl, digs_drop, List.length_drop, bytes_len]; omega
  have hOs : O.size ≤ s.size := by rw [← bytes_len, hOl]; exact hdl
  obtain ⟨K, hK⟩ : ∃ K, K = (KI.ahead 47 l).length := ⟨_, rfl⟩
  have hKl : K ≤ O.size := by rw [hK, ← bytes_len, hOl]; exact List.Sublist.length_le (List.takeWhile_sublist _)
  obtain ⟨neg, hneg⟩ : ∃ n, n = isNeg s.data.toList := ⟨_, rfl⟩
  have HAT := hide (fun (k : Nat) (h : k < K) => show ∃ x, O.data.toList[k]? = some x ∧ x ≠ 47 by rw [hOl]; exact ahead_at (by rw [← hK]; exact h))
  have hfin : (47 ∈ l ∧ O.data.toList[K]? = some 47 ∧ K < O.size ∧ splitR s.data.toList = .tuple #[.bool neg, .string (O.extract 0 K), .string (O.extract (K + 1) O.size), .bool true]) ∨
      (¬ 47 ∈ l ∧ K = O.size ∧ splitR s.data.toList = .tuple #[.bool neg, .string O, .string ⟨#[]⟩, .bool false]) := by
    unfold splitR
    rw [← hl, ← hneg]
    by_cases h : 47 ∈ l
    · have h1 := ahead_stop h
      rw [← hK] at h1
      refine .inl ⟨h, by rw [hOl]; exact h1, ?_, ?_⟩
      · have := (List.getElem?_eq_some_iff.1 h1).1
        rw [← bytes_len, hOl]
        exact this
      · rw [if_pos h, show decide (47 ∈ l) = true by simpa using h, ext_drop, hOl]
        have e1 : strB (KI.ahead 47 l) = O.extract 0 K := by
          apply bytes_eq
          rw [strB_list, ← ahead_take h, ← hK, hO]
          simp [strB]
        have e2 : KI.behind 47 l = l.drop (K + 1) := by rw [hK, behind_drop h]
        rw [e1, e2]
    · refine .inr ⟨h, ?_, ?_⟩
      · rw [hK, cut_not h, ← bytes_len, hOl]
      · rw [if_neg h, show decide (47 ∈ l) = false by simpa using h, cut_not h, ← hO]
        rfl
  have hstart : (neg = false ∧ O = s ∧ (((0 : Int) < (s.size : Int)) = False ∨ ∃ h : 0 < s.size, (((s[0]'h).toNat : Int) == 45) = false)) ∨ (neg = true ∧ ∃ h : 0 < s.size, (((s[0]'h).toNat : Int) == 45) = true ∧ s.extract 1 s.size = O) := by
    by_cases hne : s.data.toList = []
    · refine .inl ⟨by rw [hneg, hne]; rfl, by apply bytes_eq; rw [hOl, hl, hne]; rfl, .inl (eq_false ?_)⟩
      have h00 : s.size = 0 := by rw [← bytes_len, hne]; rfl
      omega
    · obtain ⟨hp, hh⟩ := bytes_head hne
      by_cases h45 : s[0] = 45
      · refine .inr ⟨by rw [hneg]; unfold isNeg; rw [hh, h45]; rfl, hp, by rw [h45]; rfl, ?_⟩
        rw [ext_drop, hO, hl, digs_drop, if_pos (by rw [hh, h45])]
      · refine .inl ⟨by rw [hneg]; unfold isNeg; rw [hh]; simpa using h45, ?_, .inr ⟨hp, ?_⟩⟩
        · apply bytes_eq
          rw [hOl, hl, digs_drop, if_neg (by rw [hh]; simpa using h45)]
          rfl
        · have : s[0].toNat ≠ 45 := fun h => h45 (UInt8.toNat_inj.1 h)
          simp only [beq_eq_false_iff_ne, ne_eq]
          omega
  obtain ⟨V, hV⟩ : ∃ V, V = splitR s.data.toList := ⟨_, rfl⟩
  rw [← hV] at hfin ⊢
  have HFI := hide hfin
  clear hl hO hOl hdl hK hneg hV hfin
  rcases hstart with ⟨e1, e2, e3 | ⟨hp, e3⟩⟩ | ⟨e1, hp, e3, e2⟩
  case' inl.inl =>
    subst e1; subst e2
    have e4 : (0 < O.size) = False := eq_false (by
      intro h
      have h2 : ¬ (0 : Int) < (O.size : Int) := of_eq_false e3
      omega)
    go_enter Tryz.func105, Tryz.ntmps105
    go_wp2_with fail
    clear e3 e4
  case' inl.inr =>
    subst e1; subst e2
    have hp0 : (0 : Int) < (O.size : Int) := by omega
    go_enter Tryz.func105, Tryz.ntmps105
    go_wp2_with fail
    clear e3
  case' inr =>
    subst e1
    have hp0 : (0 : Int) < (s.size : Int) := by omega
    have hp1 : (1 : Int) ≤ (s.size : Int) := by omega
    have HE := hide e2
    clear e2
    go_enter Tryz.func105, Tryz.ntmps105
    go_wp2_with fail
    rw [HE.out]
    clear e3
  all_goals
    go_loopw [8] (fun i wr => ∃ k : Nat, k ≤ K ∧ i = .int .i64 k ∧ wr = w) (fun i _ => O.size - (intOf i).toNat)
    case atStart => exact ⟨0, by omega, rfl, rfl⟩
    case round =>
      obtain ⟨k, hkL, rfl, rfl⟩ := hrel
      have hk0 : (0 : Int) ≤ (k : Int) := by omega
      by_cases hkl : k < K
      · have hlt : k < O.size := by omega
        have hki : (k : Int) < (O.size : Int) := by omega
        obtain ⟨c, hc, hcd⟩ := HAT.out k hkl
        have h47 : (((O[k]'hlt).toNat : Int) == 47) = false := by
          have hat : O.data.toList[k]? = some (O[k]'hlt) := by
            have h1 : O.data.toList[k]? = some O.data[k] := by simp
            exact h1
          rw [hat] at hc
          injection hc with hc
          rw [hc]
          have : c.toNat ≠ 47 := fun h => hcd (UInt8.toNat_inj.1 h)
          simp only [beq_eq_false_iff_ne, ne_eq]
          omega
        clear hc hcd
        go_wp2_with fail
        go_roundw
        case rel => exact ⟨k + 1, by omega, by go_num, trivial⟩
        case measure => simp [intOf]; omega
      · have hkK : k = K := by omega
        rcases HFI.out with ⟨_, f2, f3, f4⟩ | ⟨_, f3, f4⟩
        · have hlt : k < O.size := by omega
          have hki : (k : Int) < (O.size : Int) := by omega
          have h47 : (((O[k]'hlt).toNat : Int) == 47) = true := by
            have hat : O.data.toList[k]? = some (O[k]'hlt) := by
              have h1 : O.data.toList[k]? = some O.data[k] := by simp
              exact h1
            rw [← hkK, hat] at f2
            injection f2 with f2
            rw [f2]
            rfl
          have HV := hide f4
          have HKK := hide hkK
          have hw1 : IntKind.i64.wrap ((k : Int) + 1) = ((k + 1 : Nat) : Int) := by
            rw [IntWalk.i64_in _ (by omega)]
            rfl
          have hk1 : k + 1 ≤ O.size := by omega
          have hk1i : ((k + 1 : Nat) : Int) ≤ (O.size : Int) := by omega
          have hk2 : k ≤ O.size := by omega
          have hk2i : (k : Int) ≤ (O.size : Int) := by omega
          clear f2 f4 hkK hkl
          go_wp2_with fail
          go_quiet (fail)
          go_wp2_with fail
          refine ret4 rfl rfl rfl rfl rfl rfl ?_
          rw [HV.out, ← HKK.out]
          exact ⟨rfl, below_drewN (Below.refl _ _) _⟩
        · have hki : ((k : Int) < (O.size : Int)) = False := eq_false (by omega)
          have HV := hide f4
          clear f4 hkK f3 hkl
          go_wp2_with fail
          refine ret4 rfl rfl rfl rfl rfl rfl ?_
          rw [HV.out]
          exact ⟨rfl, Below.refl _ _⟩
open Go.RowKit Go.KP Go.KI Go.Shelf
attribute [local go_sem] Oper.semAt_some

def partsR2 (l : List UInt8) : Value :=
  .tuple #[.string (strB ((if isNeg l then [45] else []) ++ KI.ahead 47 (digs l))), .string (strB (if 47 ∈ digs l then KI.behind 47 (digs l) else [49]))]

theorem ret2v {f : Func} {R : Ending → World → Prop} {a : Act} {W : World} {t0 t1 : Tmp} {v0 v1 : Value} (hf : f.results = #[.tmp t0, .tmp t1]) (h0 : a.tmps[t0]? = some v0) (h1 : a.tmps[t1]? = some v1) (hd : a.defers = []) (hR : R (.returned (.tuple #[v0, v1])) W) :
    bodyPost Tryz.prog f R .ret a W := by
  refine bodyPost_ret ?_ hd hR
  simp [results, hf, go_sem, h0, h1]

theorem r2parts_any (s : ByteArray) (hs : s.size ≤ 1000000) (w : World) :
    Calls Tryz.prog 91 #[.string s] w (Ret w (partsR2 s.data.toList)) := by
  obtain ⟨V, hV⟩ : ∃ V, V = partsR2 s.data.toList := ⟨_, rfl⟩
  rw [← hV]
  have HS := hide (fun w => r2split_any s (by omega) w)
  have hnl : (KI.ahead 47 (digs s.data.toList)).length ≤ s.size := by
    refine Nat.le_trans (List.Sublist.length_le (List.takeWhile_sublist _)) ?_
    rw [digs_drop, List.length_drop, bytes_len]
    omega
  obtain ⟨nn, hnn⟩ : ∃ x, x = KI.ahead 47 (digs s.data.toList) := ⟨_, rfl⟩
  obtain ⟨dd, hdd⟩ : ∃ x, x = (if 47 ∈ digs s.data.toList then KI.behind 47 (digs s.data.toList) else []) := ⟨_, rfl⟩
  obtain ⟨neg, hneg⟩ : ∃ x, x = isNeg s.data.toList := ⟨_, rfl⟩
  obtain ⟨sl, hsl⟩ : ∃ x, x = decide (47 ∈ digs s.data.toList) := ⟨_, rfl⟩
  have hV2 : V = .tuple #[.string ((if neg then (⟨#[45]⟩ : ByteArray) else ⟨#[]⟩) ++ strB nn), .string (if sl then strB dd else ⟨#[49]⟩)] := by
    have a1 : strB ((if neg then [45] else []) ++ nn) = (if neg then (⟨#[45]⟩ : ByteArray) else ⟨#[]⟩) ++ strB nn := by
      apply bytes_eq
      cases neg <;> simp [strB]
    have a2 : strB (if 47 ∈ digs s.data.toList then KI.behind 47 (digs s.data.toList) else [49]) = if sl then strB dd else ⟨#[49]⟩ := by
      rw [hsl, hdd]
      by_cases h : 47 ∈ digs s.data.toList
      · simp [h]
      · simp only [h, if_false, decide_false, Bool.false_eq_true]
        rfl
    rw [hV, partsR2, ← hnn, ← hneg, a1, a2]
  unfold splitR at HS
  rw [← hnn, ← hdd, ← hneg, ← hsl] at HS
  rw [← hnn] at hnl
  clear hsl hneg hdd hnn hV
  obtain ⟨NN, hNN⟩ : ∃ x, x = strB nn := ⟨_, rfl⟩
  obtain ⟨DD, hDD⟩ : ∃ x, x = strB dd := ⟨_, rfl⟩
  have hNs : NN.size ≤ 1000000 := by rw [hNN, strB_size]; omega
  rw [← hNN, ← hDD] at HS hV2
  have HV := hide hV2
  have v1 : (9223372036854775807 < 1 + NN.size) = False := eq_false (by omega)
  clear hNN hDD hV2 hs hnl hNs
  cases neg <;> cases sl
  all_goals
    go_enter Tryz.func91, Tryz.ntmps91
    go_wp2_with fail
    refine (HS.out _).mono ?_
    rintro e w1 ⟨rfl, hb1⟩
    have HB1 := hide hb1
    clear hb1
    go_wp2_with fail
    refine ret2v rfl rfl rfl rfl ?_
    exact ⟨by rw [HV.out]; first | rfl | (simp; done), HB1.out⟩
end Go.Proofs.YtfcjaljaomknjaaGreatDoor
namespace Go.KI
open Go
theorem norm_le_b {b : Nat} (hb : 0 < b) {p q : List Nat} (hp : Norm b p) (hq : Lt b q) (h : lv b p ≤ lv b q) : p.length ≤ q.length := by
  rcases Nat.lt_or_ge q.length p.length with h1 | h1
  · have := norm_len_lt hb hq hp h1
    omega
  · exact h1
theorem upper_cmp_b {b : Nat} (hb : 0 < b) {x y : List Nat} (hx : Lt b x) (hy : Lt b y) (hl : x.length = y.length) {k : Nat} (hk : k < x.length) (hs : ∀ j, j < k → lat x (x.length - 1 - j) = lat y (x.length - 1 - j)) :
    (lat x (x.length - 1 - k) < lat y (x.length - 1 - k) → lv b x < lv b y) ∧ (lat y (x.length - 1 - k) < lat x (x.length - 1 - k) → lv b y < lv b x) := by
  have hd : x.drop (x.length - 1 - k + 1) = y.drop (x.length - 1 - k + 1) := by
    apply List.ext_getElem?
    intro i
    rw [List.getElem?_drop, List.getElem?_drop]
    by_cases hi : x.length - 1 - k + 1 + i < x.length
    · have h1 := hs (k - 1 - i) (by omega)
      rw [show x.length - 1 - (k - 1 - i) = x.length - 1 - k + 1 + i by omega] at h1
      rw [lat_some hi, lat_some (l := y) (by omega), h1]
    · rw [List.getElem?_eq_none (by omega), List.getElem?_eq_none (by omega)]
  exact ⟨fun h => lv_top_lt hb hx hl (i := x.length - 1 - k) (by omega) hd h, fun h => lv_top_lt hb hy hl.symm (i := x.length - 1 - k) (by omega) hd.symm h⟩
end Go.KI
namespace Go.Proofs.YtfcjaljaomknjaaGreatDoor
open Go.RowKit Go.KP Go.KI Go.Shelf
attribute [local go_sem] Oper.semAt_some

theorem rtwo_yes (s t : ByteArray) (c1 : chkI s.data.toList = 0) (c2 : chkI t.data.toList = 0) (hs : s.size ≤ 17) (ht : t.size ≤ 17) (w : World) :
    Calls Tryz.prog 140 #[.string s, .string t] w (Ret w (.tuple #[.int .i64 (valI s.data.toList), .int .i64 (valI t.data.toList), .bool true])) := by
  have H1 := hide (fun w => rsmall_yes s c1 hs w)
  have H2 := hide (fun w => rsmall_yes t c2 ht w)
  clear c1 c2 hs ht
  go_enter Tryz.func140, Tryz.ntmps140
  go_wp2_with fail
  refine (H1.out _).mono ?_
  rintro e w1 ⟨rfl, hb1⟩
  have HB1 := hide hb1
  clear hb1 H1
  go_wp2_with fail
  refine (H2.out _).mono ?_
  rintro e w2 ⟨rfl, hb2⟩
  have HB2 := hide (HB1.out.trans (hb2.mono HB1.out.size))
  clear hb2 H2 HB1
  go_wp2_with fail
  go_ret3
  exact ⟨rfl, HB2.out⟩
def TwoNo (w : World) (e : Ending) (w2 : World) : Prop := ∃ x y : Int, Ret w (.tuple #[.int .i64 x, .int .i64 y, .bool false]) e w2
theorem rtwo_no (s t : ByteArray) (c1 : chkI s.data.toList = 0) (h : ¬ (s.size ≤ 17 ∧ t.size ≤ 17)) (w : World) :
    Calls Tryz.prog 140 #[.string s, .string t] w (TwoNo w) := by
  by_cases hs : s.size ≤ 17
  · have H1 := hide (fun w => rsmall_yes s c1 hs w)
    have H2 := hide (fun w => rsmall_no t (by omega) w)
    clear c1 hs h
    go_enter Tryz.func140, Tryz.ntmps140
    go_wp2_with fail
    refine (H1.out _).mono ?_
    rintro e w1 ⟨rfl, hb1⟩
    have HB1 := hide hb1
    clear hb1 H1
    go_wp2_with fail
    refine (H2.out _).mono ?_
    rintro e w2 ⟨rfl, hb2⟩
    have HB2 := hide (HB1.out.trans (hb2.mono HB1.out.size))
    clear hb2 H2 HB1
    go_wp2_with fail
    go_ret3
    exact ⟨_, _, rfl, HB2.out⟩
  · have H1 := hide (fun w => rsmall_no s (by omega) w)
    clear c1 hs h
    go_enter Tryz.func140, Tryz.ntmps140
    go_wp2_with fail
    refine (H1.out _).mono ?_
    rintro e w1 ⟨rfl, hb1⟩
    have HB1 := hide hb1
    clear hb1 H1
    go_wp2_with fail
    go_ret3
    exact ⟨_, _, rfl, HB1.out⟩
def SizeRes (x y : List Nat) (w : World) (e : Ending) (w2 : World) : Prop := ∃ r : Int, e = .returned (.int .i64 r) ∧ CmpRes r (lv 1000000 x) (lv 1000000 y) ∧ Below w.heap.size w w2
theorem rsize_any (va vb : Value) (x y : List Nat) (B : Nat) (w : World) (ha : LimbAt B w va x) (hb : LimbAt B w vb y) (hB : B ≤ w.heap.size) (hx : Norm 1000000 x) (hy : Norm 1000000 y) (lx : x.length ≤ 100000) :
    Calls Tryz.prog 191 #[va, vb] w (SizeRes x y w) := by
  obtain ⟨a0, c0, hva⟩ := ha.form
  obtain ⟨a1, c1, hvb⟩ := hb.form
  subst hva; subst hvb
  have HA := hide ha; have HBB := hide hb; have HX := hide hx; have HY := hide hy
  clear ha hb hx hy
  by_cases hlen : x.length = y.length
  · have hq : ((x.length : Int) != (y.length : Int)) = false := by rw [hlen]; simp
    have HL := hide hlen
    obtain ⟨n, hn⟩ : ∃ n, n = x.length := ⟨_, rfl⟩
    have hyn : y.length = n := by omega
    have HN := hide hn; have HYN := hide hyn
    rw [← hn] at lx hq ⊢
    rw [hyn] at hq ⊢
    clear hlen hn hyn
    go_enter Tryz.func191, Tryz.ntmps191
    go_wp2_with fail
    go_loopw [5] (fun i wr => ∃ k : Nat, k ≤ n ∧ i = .int .i64 ((n : Int) - 1 - k) ∧ Hid ((∀ j, j < k → lat x (n - 1 - j) = lat y (n - 1 - j)) ∧ Below w.heap.size w wr)) (fun i _ => (intOf i + 1).toNat)
    case atStart => exact ⟨0, Nat.zero_le _, by simp, fun j hj => by omega, Below.refl _ _⟩
    case round =>
      obtain ⟨k, hk, rfl, hin⟩ := hrel
      have IN := hide hin.out
      clear hin
      by_cases hlt : k < n
      · obtain ⟨m, hm⟩ : ∃ m : Nat, (n : Int) - 1 - (k : Int) = m := ⟨n - 1 - k, by omega⟩
        have hm2 : n - 1 - k = m := by omega
        rw [hm]
        have hmi : (m : Int) < (n : Int) := by omega
        rcases (HA.out.below IN.out.2 hB).cases with ⟨_, _, _, hnil⟩ | ⟨g, o, cap, hv, hg, hc⟩
        · have := HN.out
          rw [hnil] at this
          simp at this
          omega
        injection hv with hv1 hv2 hv3
        rcases (HBB.out.below IN.out.2 hB).cases with ⟨_, _, _, hnil⟩ | ⟨g', o', cap', hv', hg', hc'⟩
        · have := HYN.out
          rw [hnil] at this
          simp at this
          omega
        injection hv' with hv1' hv2' hv3'
        subst hv1; subst hv1'
        have q1 := hc m (by have := HN.out; omega)
        have q2 := hc' m (by have := HYN.out; omega)
        have hc3 := upper_cmp_b (b := 1000000) (by omega) HX.out.lt HY.out.lt HL.out (k := k) (by have := HN.out; omega) (by rw [← HN.out]; exact IN.out.1)
        rw [← HN.out, hm2] at hc3
        obtain ⟨X, hX⟩ : ∃ X, X = lat x m := ⟨_, rfl⟩
        obtain ⟨Y, hY⟩ : ∃ Y, Y = lat y m := ⟨_, rfl⟩
        have HXY := hide (show X = Y → lat x (n - 1 - k) = lat y (n - 1 - k) from fun h => by rw [hm2, ← hX, ← hY]; exact h)
        rw [← hX, ← hY] at hc3
        rw [← hX] at q1
        rw [← hY] at q2
        have HC3 := hide hc3
        have HM := hide hm
        clear hc hc' hv2 hv2' hv3 hv3' hX hY hc3 hm hm2 hg hg'
        by_cases h1 : X < Y
        · have t1 : (X : Int) < (Y : Int) := by omega
          have HR := hide (HC3.out.1 h1)
          clear h1
          go_wp2_with fail
          go_quiet (fail)
          have HB2 := hide (below_drewN IN.out.2 nq)
          go_wp2_with fail
          go_ret
          exact ⟨_, rfl, ⟨⟨fun _ => HR.out, fun _ => by omega⟩, ⟨fun h => by omega, fun h => by have := HR.out; omega⟩⟩, HB2.out⟩
        · have t1 : ((X : Int) < (Y : Int)) = False := eq_false (by omega)
          by_cases h2 : Y < X
          · have t2 : (Y : Int) < (X : Int) := by omega
            have HR := hide (HC3.out.2 h2)
            clear h1 h2
            go_wp2_with fail
            go_quiet (fail)
            have HB2 := hide (below_drewN IN.out.2 nq)
            go_wp2_with fail
            go_quiet (fail)
            have HB3 := hide (below_drewN HB2.out nq)
            go_wp2_with fail
            go_ret
            exact ⟨_, rfl, ⟨⟨fun h => by omega, fun h => by have := HR.out; omega⟩, ⟨fun h => by omega, fun h => by have := HR.out; omega⟩⟩, HB3.out.os, HB3.out.tape, HB3.out.output, HB3.out.size, HB3.out.block⟩
          · have t2 : ((Y : Int) < (X : Int)) = False := eq_false (by omega)
            have HE := hide (HXY.out (by omega))
            clear h1 h2
            go_wp2_with fail
            go_quiet (fail)
            have HB2 := hide (below_drewN IN.out.2 nq)
            go_wp2_with fail
            go_quiet (fail)
            have HB3 := hide (below_drewN HB2.out nq)
            go_wp2_with fail
            go_roundw
            case rel =>
              refine ⟨k + 1, by omega, by have := HM.out; congr 1; omega, fun j hj => ?_, HB3.out.os, HB3.out.tape, HB3.out.output, HB3.out.size, HB3.out.block⟩
              rcases Nat.lt_or_ge j k with h | h
              · exact IN.out.1 j h
              · obtain rfl : j = k := by omega
                exact HE.out
            case measure => simp [intOf]
      · obtain rfl : k = n := by omega
        have hm : (k : Int) - 1 - (k : Int) = -1 := by omega
        rw [hm]
        have HXY := hide (show x = y from all_cmp HL.out (fun j hj => by rw [← HN.out]; exact IN.out.1 j (by have := HN.out; omega)))
        clear hm hlt
        go_wp2_with fail
        go_ret
        exact ⟨_, rfl, ⟨by rw [HXY.out]; omega, by rw [HXY.out]; simp⟩, IN.out.2⟩
  · have hq : ((x.length : Int) != (y.length : Int)) = true := by
      have : (x.length : Int) ≠ (y.length : Int) := by omega
      simpa using this
    rcases Nat.lt_or_gt_of_ne hlen with h | h
    · have HR := hide (norm_len_lt (b := 1000000) (by omega) HX.out.lt HY.out h)
      have t1 : (x.length : Int) < (y.length : Int) := by omega
      clear hlen h
      go_enter Tryz.func191, Tryz.ntmps191
      go_wp2_with fail
      go_ret
      exact ⟨_, rfl, ⟨⟨fun _ => HR.out, fun _ => by omega⟩, ⟨fun h => by omega, fun h => by have := HR.out; omega⟩⟩, Below.refl _ _⟩
    · have HR := hide (norm_len_lt (b := 1000000) (by omega) HY.out.lt HX.out h)
      have t1 : ((x.length : Int) < (y.length : Int)) = False := eq_false (by omega)
      clear hlen h
      go_enter Tryz.func191, Tryz.ntmps191
      go_wp2_with fail
      go_ret
      exact ⟨_, rfl, ⟨⟨fun h => by omega, fun h => by have := HR.out; omega⟩, ⟨fun h => by omega, fun h => by have := HR.out; omega⟩⟩, Below.refl _ _⟩
open Go.RowKit Go.KP Go.KI Go.Shelf
attribute [local go_sem] Oper.semAt_some

theorem radd_nums {X Y C : Nat} (hX : X < 1000000) (hY : Y < 1000000) (hC : C ≤ 1) :
    ∃ T Q R : Nat, (X : Int) + (Y : Int) + (C : Int) = (T : Int) ∧ (T : Int) / 1000000 = (Q : Int) ∧ (T : Int) % 1000000 = (R : Int) ∧ T ≤ 2000000 ∧ Q ≤ 1 ∧ R < 1000000 ∧ X + Y + C = R + 1000000 * Q := by
  refine ⟨X + Y + C, (X + Y + C) / 1000000, (X + Y + C) % 1000000, by omega, by omega, by omega, by omega, by omega, by omega, by omega⟩
def RowRes (v : Nat) (n : Nat) (w : World) (e : Ending) (w2 : World) : Prop := ∃ l, LimbsRet w l e w2 ∧ Norm 1000000 l ∧ lv 1000000 l = v ∧ l.length ≤ n
theorem empty_own (w : World) : OwnL w.heap.size (w.alloc (.cells #[] 3)) (.slice (some ⟨w.heap.size, 0, none⟩) 0 0) [] := by
  refine ⟨by simp [icells], .inr ⟨w.heap.size, 0, #[], rfl, Nat.le_refl _, heap_alloc_new _ _, Nat.le_refl _, by unfold maxLen; omega, rfl, rfl⟩⟩
theorem rplus_any (va vb : Value) (x y : List Nat) (B : Nat) (w : World) (ha : LimbAt B w va x) (hb : LimbAt B w vb y) (hB : B ≤ w.heap.size) (hx : Lt 1000000 x) (hy : Lt 1000000 y) (lx : x.length ≤ 100000) (ly : y.length ≤ 100000) :
    Calls Tryz.prog 192 #[va, vb] w (RowRes (lv 1000000 x + lv 1000000 y) (max x.length y.length + 1) w) := by
  obtain ⟨a0, c0, hva⟩ := ha.form
  obtain ⟨a1, c1, hvb⟩ := hb.form
  subst hva; subst hvb
  obtain ⟨i0, hi0, hz0, hz1, hz2⟩ := info_parts info3
  have HA := hide ha; have HBB := hide hb; have HX := hide hx; have HY := hide hy
  obtain ⟨n, hn⟩ : ∃ n, n = max x.length y.length := ⟨_, rfl⟩
  have hnl : n ≤ 100000 := by omega
  have HN := hide hn
  have HE0 := hide (empty_own w)
  have HBe := hide ((Below.refl w.heap.size w).alloc (Nat.le_refl _) (.cells #[] 3))
  clear ha hb hx hy hn
  go_enter Tryz.func192, Tryz.ntmps192
  go_wp2_with fail
  go_loopw [5, 6, 7] (fun v c i wr => ∃ (k C : Nat) (L : List Nat), k ≤ n + 1 ∧ i = .int .i64 k ∧ c = .int .i64 C ∧ C ≤ 1 ∧ Hid (OwnL w.heap.size wr v L ∧ Below w.heap.size w wr ∧ L.length = k ∧ Lt 1000000 L ∧ lv 1000000 L + 1000000 ^ k * C = lvT 1000000 x k + lvT 1000000 y k)) (fun _ _ i _ => n + 2 - (intOf i).toNat)
  case atStart => exact ⟨0, 0, [], Nat.zero_le _, rfl, rfl, Nat.zero_le _, HE0.out, HBe.out, rfl, fun z hz => by simp at hz, by rw [lvT_zero, lvT_zero]; rfl⟩
  case round =>
    obtain ⟨k, C, L, hk, rfl, rfl, hC, hin⟩ := hrel
    have hsz := hin.out.2.1.size
    obtain ⟨va2, vc2, hvf, hcap, _⟩ := hin.out.1.form
    have hLk := hin.out.2.2.1
    rw [hLk] at hvf hcap
    subst hvf
    have IN := hide hin.out
    clear hin
    have hcarry : n + 1 ≤ k → C = 0 := fun h => by
      have h1 := IN.out.2.2.2.2
      rw [lvT_all (l := x) (by have := HN.out; omega), lvT_all (l := y) (by have := HN.out; omega)] at h1
      have h2 := lv_lt HX.out
      have h3 := lv_lt HY.out
      have h4 : 1000000 ^ x.length ≤ 1000000 ^ n := Nat.pow_le_pow_right (by omega) (by have := HN.out; omega)
      have h5 : 1000000 ^ y.length ≤ 1000000 ^ n := Nat.pow_le_pow_right (by omega) (by have := HN.out; omega)
      obtain rfl : k = n + 1 := by omega
      rw [Nat.pow_succ] at h1
      rcases Nat.eq_zero_or_pos C with h6 | h6
      · exact h6
      · exfalso
        have h7 : 1000000 ^ n * 1000000 * 1 ≤ 1000000 ^ n * 1000000 * C := Nat.mul_le_mul_left _ h6
        omega
    have HCA := hide hcarry
    clear hcarry
    rcases (show (k < x.length) ∨ (¬ k < x.length ∧ k < y.length) ∨ (¬ k < x.length ∧ ¬ k < y.length ∧ 0 < C) ∨ (¬ k < x.length ∧ ¬ k < y.length ∧ C = 0) by omega) with h1 | ⟨h1, h2⟩ | ⟨h1, h2, h3⟩ | ⟨h1, h2, h3⟩
    case' inl =>
      have t1 : (k : Int) < (x.length : Int) := by omega
      have hkn : k ≤ n := by have := HN.out; omega
    case' inr.inl =>
      have t1 : ((k : Int) < (x.length : Int)) = False := eq_false (by omega)
      have t2 : (k : Int) < (y.length : Int) := by omega
      have hkn : k ≤ n := by have := HN.out; omega
    case' inr.inr.inl =>
      have t1 : ((k : Int) < (x.length : Int)) = False := eq_false (by omega)
      have t2 : ((k : Int) < (y.length : Int)) = False := eq_false (by omega)
      have t3 : 0 < C := h3
      have hkn : k ≤ n := by
        rcases Nat.lt_or_ge n k with h | h
        · have := HCA.out h
          omega
        · exact h
    rotate_right
    · have t1 : ((k : Int) < (x.length : Int)) = False := eq_false (by omega)
      have t2 : ((k : Int) < (y.length : Int)) = False := eq_false (by omega)
      subst h3
      have HT := hide (rtrim_any va2 vc2 L wr.heap.size wr (by rw [hLk]; exact IN.out.1.at_) (by omega) (by omega))
      rw [hLk] at HT
      have HV := hide (show lv 1000000 L = lv 1000000 x + lv 1000000 y by
        have h4 := IN.out.2.2.2.2
        rw [lvT_all (l := x) (by omega), lvT_all (l := y) (by omega), Nat.mul_zero, Nat.add_zero] at h4
        exact h4)
      have HLK := hide hLk
      clear h1 h2 hLk
      go_wp2_with fail
      refine HT.out.mono ?_
      rintro e w1 ⟨rfl, rfl⟩
      go_wp2_with fail
      go_ret
      refine ⟨trimL L, ⟨_, rfl, IN.out.2.1, ?_⟩, trimL_norm IN.out.2.2.2.1, by rw [trimL_lv, HV.out], ?_⟩
      · have hc := IN.out.1.cut (k := trimTo L k) (by rw [HLK.out]; have := trimTo_le L k; omega)
        unfold trimL
        rw [HLK.out]
        exact hc
      · rw [trimL_len]
        have := trimTo_le L L.length
        have := HLK.out
        have := HN.out
        omega
    all_goals
      have hL1 := hide (fun W (h : Below w.heap.size w W) => rlimb_any (.slice a0 x.length c0) x k B W (HA.out.below h hB) (by omega))
      have hL2 := hide (fun W (h : Below w.heap.size w W) => rlimb_any (.slice a1 y.length c1) y k B W (HBB.out.below h hB) (by omega))
      have hxk := lat_lt (by omega) HX.out k
      have hyk := lat_lt (by omega) HY.out k
      obtain ⟨X, hX⟩ : ∃ X, X = lat x k := ⟨_, rfl⟩
      obtain ⟨Y, hY⟩ : ∃ Y, Y = lat y k := ⟨_, rfl⟩
      rw [← hX] at hL1 hxk
      rw [← hY] at hL2 hyk
      obtain ⟨T, Q, R, hT, hQ, hR, hTl, hQl, hRl, hs⟩ := radd_nums hxk hyk hC
      have HXE := hide hX; have HYE := hide hY; have HS := hide hs; have HQE := hide hQ
      have HOW := hide (show (wr.alloc (.cells #[.int .i64 R] 3)).ownsRow w.heap.size 3 1 (.slice va2 k vc2) k (icells L) by
        have h := IN.out.1
        unfold OwnL at h
        rw [hLk] at h
        exact h.alloc _)
      have HNW := hide (show ∀ j u, ([.int .i64 R] : List Value)[j]? = some u → (wr.alloc (.cells #[.int .i64 R] 3)).cell? ((⟨wr.heap.size, 0, none⟩ : Addr).add j) = some u from World.news_of_block (cs := #[.int .i64 R]) (t := 3) (fr := (0, 0)) (heap_alloc_new wr _))
      have HLK := hide hLk
      clear hX hY hs hLk
      go_wp2_with fail
      refine (hL1.out wr IN.out.2.1).mono ?_
      rintro e w1 ⟨rfl, rfl⟩
      go_wp2_with fail
      refine (hL2.out _ IN.out.2.1).mono ?_
      rintro e w1 ⟨rfl, rfl⟩
      clear hL1 hL2
      go_wp2_with (at_builtin; go_must (refine wpList_append_own _ rfl (.tmp 35) (.tmp 38) 116 rfl w.heap.size 3 i0 _ 1 8 Tryz.underlying116 hi0 hz0 hz1 hz2 rfl (by decide) (.slice va2 k vc2) _ _ rfl HOW.out ⟨w1.heap.size, 0, none⟩ 1 1 [.int .i64 R] rfl rfl HNW.out (by simp [Value.oneCell']) (by simp only [maxLen]; omega) (by omega) (by simp; omega) ?_); intro v1 w5 hown hg1 hiff; clear hiff; have HOW5 := hide hown; have HGR := hide hg1; clear hown hg1)
      go_roundw
      case rel =>
        refine ⟨k + 1, Q, L ++ [R], by omega, by go_num, by first | rfl | rw [HQE.out], hQl, ?_, (IN.out.2.1.alloc (by omega) _).grown HGR.out (by simp; omega) (owns_ge IN.out.1 (Nat.le_refl _)), by rw [List.length_append, HLK.out]; rfl, ?_, ?_⟩
        · show World.ownsRow _ _ _ _ _ (L ++ [R]).length (icells (L ++ [R]))
          rw [List.length_append, HLK.out, icells_append]
          exact HOW5.out
        · intro z hz
          rcases List.mem_append.1 hz with h | h
          · exact IN.out.2.2.2.1 z h
          · simp only [List.mem_singleton] at h
            rw [h]
            exact hRl
        · rw [lv_snoc, HLK.out, lvT_succ, lvT_succ, ← HXE.out, ← HYE.out]
          exact plus_step IN.out.2.2.2.2 HS.out
      case measure => simp [intOf]; omega
theorem rsub_nums {X Y C : Nat} (hX : X < 1000000) (hY : Y < 1000000) (hC : C ≤ 1) :
    (∃ R : Nat, (X : Int) - (Y : Int) - (C : Int) = (R : Int) ∧ R < 1000000 ∧ R + Y + C = X + 1000000 * 0) ∨
    (∃ m R : Nat, (X : Int) - (Y : Int) - (C : Int) = -(m : Int) ∧ 0 < m ∧ m ≤ 1000000 ∧ -(m : Int) + 1000000 = (R : Int) ∧ R < 1000000 ∧ R + Y + C = X + 1000000 * 1) := by
  by_cases h : Y + C ≤ X
  · exact .inl ⟨X - (Y + C), by omega, by omega, by omega⟩
  · exact .inr ⟨Y + C - X, 1000000 + X - (Y + C), by omega, by omega, by omega, by omega, by omega, by omega⟩
theorem rminus_any (va vb : Value) (x y : List Nat) (B : Nat) (w : World) (ha : LimbAt B w va x) (hb : LimbAt B w vb y) (hB : B ≤ w.heap.size) (hx : Lt 1000000 x) (hy : Norm 1000000 y) (lx : x.length ≤ 100000) (hle : lv 1000000 y ≤ lv 1000000 x) :
    Calls Tryz.prog 189 #[va, vb] w (RowRes (lv 1000000 x - lv 1000000 y) x.length w) := by
  obtain ⟨a0, c0, hva⟩ := ha.form
  obtain ⟨a1, c1, hvb⟩ := hb.form
  subst hva; subst hvb
  obtain ⟨i0, hi0, hz0, hz1, hz2⟩ := info_parts info3
  have hyl := norm_le_b (b := 1000000) (by omega) hy hx hle
  have HA := hide ha; have HBB := hide hb; have HX := hide hx; have HY := hide hy.lt; have HLE := hide hle
  have HE0 := hide (empty_own w)
  have HBe := hide ((Below.refl w.heap.size w).alloc (Nat.le_refl _) (.cells #[] 3))
  clear ha hb hx hy hle
  go_enter Tryz.func189, Tryz.ntmps189
  go_wp2_with fail
  go_loopw [5, 6, 7] (fun v c i wr => ∃ (k C : Nat) (L : List Nat), k ≤ x.length ∧ i = .int .i64 k ∧ c = .int .i64 C ∧ C ≤ 1 ∧ Hid (OwnL w.heap.size wr v L ∧ Below w.heap.size w wr ∧ L.length = k ∧ Lt 1000000 L ∧ lv 1000000 L + lvT 1000000 y k = lvT 1000000 x k + 1000000 ^ k * C)) (fun _ _ i _ => x.length - (intOf i).toNat)
  case atStart => exact ⟨0, 0, [], Nat.zero_le _, rfl, rfl, Nat.zero_le _, HE0.out, HBe.out, rfl, fun z hz => by simp at hz, by rw [lvT_zero, lvT_zero]; rfl⟩
  case round =>
    obtain ⟨k, C, L, hk, rfl, rfl, hC, hin⟩ := hrel
    have hsz := hin.out.2.1.size
    obtain ⟨va2, vc2, hvf, hcap, _⟩ := hin.out.1.form
    have hLk := hin.out.2.2.1
    rw [hLk] at hvf hcap
    subst hvf
    have IN := hide hin.out
    clear hin
    by_cases hlt : k < x.length
    · have t1 : (k : Int) < (x.length : Int) := by omega
      have hk0 : (0 : Int) ≤ (k : Int) := by omega
      rcases (HA.out.below IN.out.2.1 hB).cases with ⟨_, _, _, hnil⟩ | ⟨g, o, cap, hv, hg, hcl⟩
      · rw [hnil] at hlt
        simp at hlt
      injection hv with hv1 hv2 hv3
      subst hv1; subst hv3
      have q1 := hcl k hlt
      have hL2 := hide (fun m : Nat => rlimb_any (.slice a1 y.length c1) y k B (wr.drewN m) (HBB.out.below (below_drewN IN.out.2.1 m) hB) (by omega))
      have hxk := lat_lt (by omega) HX.out k
      have hyk := lat_lt (by omega) HY.out k
      obtain ⟨X, hX⟩ : ∃ X, X = lat x k := ⟨_, rfl⟩
      obtain ⟨Y, hY⟩ : ∃ Y, Y = lat y k := ⟨_, rfl⟩
      rw [← hX] at q1 hxk
      rw [← hY] at hL2 hyk
      have HXE := hide hX; have HYE := hide hY; have HLK := hide hLk
      have hnums := rsub_nums hxk hyk hC
      have hw0 : IntKind.i64.wrap ((X : Int) - (Y : Int)) = (X : Int) - (Y : Int) := IntWalk.i64_in _ (by omega)
      clear hX hY hcl hv2 hg hlt
      rcases hnums with ⟨R, hR, hRl, hs⟩ | ⟨m, R, hm, hm0, hml, hR, hRl, hs⟩
      case' inl =>
        have hw1 : IntKind.i64.wrap ((X : Int) - (Y : Int) - (C : Int)) = (R : Int) := by rw [hR]; exact IntWalk.i64_in _ (by omega)
        have t2 : ((R : Int) < 0) = False := eq_false (by omega)
        have HCN := hide (show (0 : Nat) ≤ 1 by omega)
        obtain ⟨C2, hC2⟩ : ∃ C2 : Nat, C2 = 0 := ⟨_, rfl⟩
      case' inr =>
        have hw1 : IntKind.i64.wrap ((X : Int) - (Y : Int) - (C : Int)) = -(m : Int) := by rw [hm]; exact IntWalk.i64_in _ (by omega)
        have hw2 : IntKind.i64.wrap (-(m : Int) + 1000000) = (R : Int) := by rw [hR]; exact IntWalk.i64_in _ (by omega)
        have t2 : 0 < m := hm0
        clear hm hR
        obtain ⟨C2, hC2⟩ : ∃ C2 : Nat, C2 = 1 := ⟨_, rfl⟩
      all_goals
        rw [← hC2] at hs
        have HS := hide hs
        have HC2 := hide hC2
        have HOW := hide (fun nq : Nat => show ((wr.drewN nq).alloc (.cells #[.int .i64 R] 3)).ownsRow w.heap.size 3 1 (.slice va2 k vc2) k (icells L) by
          have h : OwnL w.heap.size (wr.drewN nq) (.slice va2 k vc2) L := IN.out.1
          unfold OwnL at h
          rw [hLk] at h
          exact h.alloc _)
        have HNW := hide (fun nq : Nat => show ∀ j u, ([.int .i64 R] : List Value)[j]? = some u → ((wr.drewN nq).alloc (.cells #[.int .i64 R] 3)).cell? ((⟨wr.heap.size, 0, none⟩ : Addr).add j) = some u from World.news_of_block (cs := #[.int .i64 R]) (t := 3) (fr := (0, 0)) (heap_alloc_new (wr.drewN nq) _))
        clear hs hC2 hLk
        go_wp2_with fail
        go_quiet ((go_at_call 188; exact Calls.quiet_of_same (hL2.out _)))
        clear hL2 q1 hw0 hw1
        go_wp2_with (at_builtin; go_must (refine wpList_append_own _ rfl (.tmp 30) (.tmp 32) 116 rfl w.heap.size 3 i0 _ 1 8 Tryz.underlying116 hi0 hz0 hz1 hz2 rfl (by decide) (.slice va2 k vc2) _ _ rfl (HOW.out nq) ⟨wr.heap.size, 0, none⟩ 1 1 [.int .i64 R] rfl rfl (HNW.out nq) (by simp [Value.oneCell']) (by simp only [maxLen]; omega) (by omega) (by simp; omega) ?_); intro v1 w5 hown hg1 hiff; clear hiff; have HOW5 := hide hown; have HGR := hide hg1; clear hown hg1)
        go_roundw
        case rel =>
          refine ⟨k + 1, C2, L ++ [R], by omega, by go_num, by rw [HC2.out]; rfl, by have := HC2.out; omega, ?_, ((below_drewN IN.out.2.1 nq).alloc (by show w.heap.size ≤ wr.heap.size; omega) _).grown HGR.out (by simp; omega) (owns_ge IN.out.1 (Nat.le_refl _)), by rw [List.length_append, HLK.out]; rfl, ?_, ?_⟩
          · show World.ownsRow _ _ _ _ _ (L ++ [R]).length (icells (L ++ [R]))
            rw [List.length_append, HLK.out, icells_append]
            exact HOW5.out
          · intro z hz
            rcases List.mem_append.1 hz with h | h
            · exact IN.out.2.2.2.1 z h
            · simp only [List.mem_singleton] at h
              rw [h]
              exact hRl
          · rw [lv_snoc, HLK.out, lvT_succ, lvT_succ, ← HXE.out, ← HYE.out]
            have := minus_step IN.out.2.2.2.2 HS.out
            omega
        case measure => simp [intOf]; omega
    · obtain rfl : k = x.length := by omega
      have t1 : ((x.length : Int) < (x.length : Int)) = False := eq_false (by omega)
      have HT := hide (rtrim_any va2 vc2 L wr.heap.size wr (by rw [hLk]; exact IN.out.1.at_) (by omega) (by omega))
      rw [hLk] at HT
      have HV := hide (show lv 1000000 L = lv 1000000 x - lv 1000000 y by
        have h4 := IN.out.2.2.2.2
        rw [lvT_all (l := x) (Nat.le_refl _), lvT_all (l := y) hyl] at h4
        have h5 := lv_lt IN.out.2.2.2.1
        rw [hLk] at h5
        have h6 := HLE.out
        rcases Nat.eq_zero_or_pos C with h7 | h7
        · rw [h7, Nat.mul_zero] at h4
          omega
        · exfalso
          have h8 : 1000000 ^ x.length * 1 ≤ 1000000 ^ x.length * C := Nat.mul_le_mul_left _ h7
          omega)
      have HLK := hide hLk
      clear hlt hLk
      go_wp2_with fail
      refine HT.out.mono ?_
      rintro e w1 ⟨rfl, rfl⟩
      go_wp2_with fail
      go_ret
      refine ⟨trimL L, ⟨_, rfl, IN.out.2.1, ?_⟩, trimL_norm IN.out.2.2.2.1, by rw [trimL_lv, HV.out], ?_⟩
      · have hc := IN.out.1.cut (k := trimTo L x.length) (by rw [HLK.out]; have := trimTo_le L x.length; omega)
        unfold trimL
        rw [HLK.out]
        exact hc
      · rw [trimL_len]
        have := trimTo_le L L.length
        have := HLK.out
        omega
end Go.Proofs.YtfcjaljaomknjaaGreatDoor
