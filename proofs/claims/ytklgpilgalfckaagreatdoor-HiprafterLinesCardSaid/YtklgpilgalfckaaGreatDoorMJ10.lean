/-
  Texts laid together.
-/
import Derived.Test.YtklgpilgalfckaaGreatDoorMJ9
import Derived.Test.YtklgpilgalfckaaGreatDoorMJ5
import Derived.Test.YtklgpilgalfckaaGreatDoorMJ1
set_option maxRecDepth 100000
set_option maxHeartbeats 8000000
namespace Go.Proofs.YtklgpilgalfckaaGreatDoor
open Go.RowKit Go.KP Go.KI Go.Shelf
attribute [local go_sem] Oper.semAt_some

theorem chk_empty {l : List UInt8} (h : digs l = []) : chkI l = 11 := if_pos (.inl h)
theorem chk_zero {l : List UInt8} (h : (digs l).head? = some 48) (h2 : l ≠ [48]) : chkI l = 11 := if_pos (.inr (.inl ⟨h, h2⟩))
theorem chk_nodg {l : List UInt8} {c : UInt8} (h : c ∈ digs l) (h2 : isDg c = false) : chkI l = 11 := by
  refine if_pos (.inr (.inr (fun e => ?_)))
  rw [List.all_eq_true] at e
  have := e c h
  rw [h2] at this
  cases this
theorem chk_rest {l : List UInt8} (h : digs l ≠ []) (h2 : (digs l).head? = some 48 → l = [48]) (h3 : ∀ c ∈ digs l, isDg c = true) : chkI l = if 300 < (digs l).length then 4 else 0 := by
  refine if_neg ?_
  rintro (e | ⟨e, e2⟩ | e)
  · exact h e
  · exact e2 (h2 e)
  · exact e (List.all_eq_true.2 h3)
theorem rcheck_any (s : ByteArray) (hs : s.size ≤ 1000000) (w : World) :
    Calls Tryz.prog 208 #[.string s] w (Ret w (.int .i64 (chkI s.data.toList))) := by
  by_cases h45 : s.data.toList.head? = some 45
  · have hD : digs s.data.toList = s.data.toList.drop 1 := by
      cases hl : s.data.toList with
      | nil => rfl
      | cons c r =>
        rw [hl] at h45
        injection h45 with h45
        subst h45
        rfl
    obtain ⟨hp, hh⟩ := bytes_head (s := s) (fun e => by rw [e] at h45; cases h45)
    have hp0 : (0 : Int) < (s.size : Int) := by omega
    have p2 : ((s[0].toNat : Int) == 45) = true := by
      rw [hh] at h45
      injection h45 with h45
      rw [h45]
      rfl
    clear hh h45
    by_cases hn0 : s.size = 1
    · have HE := hide (show chkI s.data.toList = 11 from chk_empty (by rw [hD]; exact List.drop_eq_nil_of_le (by rw [bytes_len]; omega)))
      have q1 : ((1 : Int) == (s.size : Int)) = true := by rw [hn0]; rfl
      clear hD hn0
      go_enter Tryz.func208, Tryz.ntmps208
      go_wp2_with fail
      go_ret
      rw [HE.out]
      exact ⟨rfl, Below.refl _ _⟩
    · have hlt : 1 < s.size := by omega
      have hlti : (1 : Int) < (s.size : Int) := by omega
      have q1 : ((1 : Int) == (s.size : Int)) = false := by
        have : ¬ (1 : Int) = (s.size : Int) := by omega
        simpa using this
      have hat : s.data.toList[1]? = some (s[1]'hlt) := by
        have h1 : s.data.toList[1]? = some s.data[1] := by simp
        exact h1
      have hhd : (digs s.data.toList).head? = some (s[1]'hlt) := by rw [hD, List.head?_drop]; exact hat
      by_cases hz : s[1]'hlt = 48 ∧ 1 < s.size
      · have HE := hide (show chkI s.data.toList = 11 from chk_zero (by rw [hhd, hz.1]) (fun e => by have := bytes_len s; rw [e] at this; have := hz.2; simp at *; omega))
        have q2 : (((s[1]'hlt).toNat : Int) == 48) = true := by rw [hz.1]; rfl
        have q3 : (1 : Int) < (s.size : Int) := by have := hz.2; omega
        clear hD hn0 hz hat hhd
        go_enter Tryz.func208, Tryz.ntmps208
        go_wp2_with fail
        go_ret
        rw [HE.out]
        exact ⟨rfl, Below.refl _ _⟩
      · have hway : (((s[1]'hlt).toNat : Int) == 48) = false ∨ ((((s[1]'hlt).toNat : Int) == 48) = true ∧ ((1 : Int) < (s.size : Int)) = False) := by
          by_cases h48 : s[1]'hlt = 48
          · exact .inr ⟨by rw [h48]; rfl, eq_false (by have : ¬ 1 < s.size := fun e => hz ⟨h48, e⟩; omega)⟩
          · refine .inl ?_
            have : (s[1]'hlt).toNat ≠ 48 := fun h => h48 (UInt8.toNat_inj.1 h)
            simp only [beq_eq_false_iff_ne, ne_eq]
            omega
        have HZ := hide (show (digs s.data.toList).head? = some 48 → s.data.toList = [48] from fun e => by
          rw [hhd] at e
          injection e with e
          have h1 : s.size = 1 := by have : ¬ 1 < s.size := fun h => hz ⟨e, h⟩; omega
          have h2 := bytes_len s
          rw [h1] at h2
          obtain ⟨c, hc⟩ := List.length_eq_one_iff.1 h2
          have h0 : (1 : Nat) = 0 := by omega
          have h3 := hat
          rw [e, hc] at h3
          rw [hc]
          first
            | (simp at h3; done)
            | (injection h3 with h3; rw [h3]))
        have HD := hide hD
        clear hD hn0 hz hat hhd
        rcases hway with q2 | ⟨q2, q3⟩
        case inr => exact absurd hlti (fun h => by rw [q3] at h; exact h)
        all_goals
          go_enter Tryz.func208, Tryz.ntmps208
          go_wp2_with fail
          go_loopw [4] (fun i wr => ∃ k : Nat, 1 ≤ k ∧ k ≤ s.size ∧ i = .int .i64 k ∧ Hid (∀ c ∈ (s.data.toList.take k).drop 1, isDg c = true) ∧ wr = w) (fun i _ => s.size - (intOf i).toNat)
          case' atStart => exact ⟨1, Nat.le_refl _, by omega, rfl, fun c hc => by rw [List.drop_eq_nil_of_le (by rw [List.length_take]; omega)] at hc; simp at hc, rfl⟩
          case' round =>
            obtain ⟨k, hk1, hk2, rfl, hin, rfl⟩ := hrel
            by_cases hlt2 : k < s.size
            · have hki : (k : Int) < (s.size : Int) := by omega
              have hk0 : (0 : Int) ≤ (k : Int) := by omega
              have hat2 : s.data.toList[k]? = some (s[k]'hlt2) := by
                have h1 : s.data.toList[k]? = some s.data[k] := by simp
                exact h1
              have hmem : s[k]'hlt2 ∈ digs s.data.toList := by
                rw [HD.out]
                refine List.mem_of_getElem? (i := k - 1) ?_
                rw [List.getElem?_drop, show 1 + (k - 1) = k by omega]
                exact hat2
              obtain ⟨y, hyv⟩ : ∃ y : Nat, y = (s[k]'hlt2).toNat := ⟨_, rfl⟩
              have hyv2 : (s[k]'hlt2).toNat = y := hyv.symm
              by_cases hy1 : y < 48
              · have HE := hide (show chkI s.data.toList = 11 from chk_nodg hmem (by unfold isDg; rw [hyv2, decide_eq_false (by omega : ¬ 48 ≤ y)]; rfl))
                have q4 : (y : Int) < 48 := by omega
                clear hat2 hmem hyv hin hy1
                go_wp2_with fail
                go_ret
                rw [HE.out]
                exact ⟨rfl, Below.refl _ _⟩
              · by_cases hy2 : 57 < y
                · have HE := hide (show chkI s.data.toList = 11 from chk_nodg hmem (by unfold isDg; rw [hyv2, decide_eq_false (by omega : ¬ y ≤ 57), Bool.and_false]))
                  have q4 : ((y : Int) < 48) = False := eq_false (by omega)
                  have q5 : (57 : Int) < (y : Int) := by omega
                  clear hat2 hmem hyv hin hy1 hy2
                  go_wp2_with fail
                  go_ret
                  rw [HE.out]
                  exact ⟨rfl, Below.refl _ _⟩
                · have hdg : isDg (s[k]'hlt2) = true := isDg_iff.2 (by omega)
                  have HN := hide (show ∀ c ∈ (s.data.toList.take (k + 1)).drop 1, isDg c = true from fun c hc => by
                    rw [List.take_add_one, hat2, List.drop_append_of_le_length (by rw [List.length_take, bytes_len]; omega)] at hc
                    rcases List.mem_append.1 hc with h | h
                    · exact hin.out c h
                    · simp at h
                      rw [h]
                      exact hdg)
                  have q4 : ((y : Int) < 48) = False := eq_false (by omega)
                  have q5 : ((57 : Int) < (y : Int)) = False := eq_false (by omega)
                  clear hat2 hmem hyv hin hy1 hy2 hdg
                  go_wp2_with fail
                  go_roundw
                  case rel => exact ⟨k + 1, by omega, by omega, by simp, HN.out, trivial⟩
                  case measure => simp [intOf]; omega
            · obtain rfl : k = s.size := by omega
              have hki : ((s.size : Int) < (s.size : Int)) = False := eq_false (by omega)
              have hlen : (digs s.data.toList).length = s.size - 1 := by rw [HD.out, List.length_drop, bytes_len]
              have hrest := chk_rest (l := s.data.toList) (fun e => by rw [e] at hlen; simp at hlen; omega) HZ.out (fun c hc => by
                rw [HD.out] at hc
                refine hin.out c ?_
                rw [List.take_of_length_le (by rw [bytes_len]; exact Nat.le_refl _)]
                exact hc)
              rw [hlen] at hrest
              by_cases h3 : 300 < s.size - 1
              · rw [if_pos h3] at hrest
                have HE := hide hrest
                have q4 : (300 : Int) < (s.size : Int) - 1 := by omega
                clear hin hlen hrest h3 hlt2
                go_wp2_with fail
                go_ret
                rw [HE.out]
                exact ⟨rfl, Below.refl _ _⟩
              · rw [if_neg h3] at hrest
                have HE := hide hrest
                have q4 : ((300 : Int) < (s.size : Int) - 1) = False := eq_false (by omega)
                clear hin hlen hrest h3 hlt2
                go_wp2_with fail
                go_ret
                rw [HE.out]
                exact ⟨rfl, Below.refl _ _⟩
  · have hD : digs s.data.toList = s.data.toList.drop 0 := by
      rw [List.drop_zero]
      cases hl : s.data.toList with
      | nil => rfl
      | cons c r =>
        rw [hl] at h45
        have : c ≠ 45 := fun e => h45 (by rw [e]; rfl)
        simp [digs, this]
    have hway0 : ((0 : Int) < (s.size : Int)) = False ∨ ∃ hp : 0 < s.size, (0 : Int) < (s.size : Int) ∧ ((s[0].toNat : Int) == 45) = false := by
      by_cases h0 : s.data.toList = []
      · refine .inl (eq_false ?_)
        have := bytes_len s
        rw [h0] at this
        simp at this
        omega
      · obtain ⟨hp, hh⟩ := bytes_head h0
        refine .inr ⟨hp, by omega, ?_⟩
        have h1 : s[0] ≠ 45 := fun e => h45 (by rw [hh, e])
        have : s[0].toNat ≠ 45 := fun h => h1 (UInt8.toNat_inj.1 h)
        simp only [beq_eq_false_iff_ne, ne_eq]
        omega
    clear h45
    rcases hway0 with p1 | ⟨hp, p1, p2⟩
    · have hn0 : s.size = 0 := by
        have : ¬ (0 : Int) < (s.size : Int) := fun h => by rw [p1] at h; exact h
        omega
      have HE := hide (show chkI s.data.toList = 11 from chk_empty (by rw [hD]; exact List.drop_eq_nil_of_le (by rw [bytes_len]; omega)))
      have q1 : ((0 : Int) == (s.size : Int)) = true := by rw [hn0]; rfl
      clear hD hn0
      go_enter Tryz.func208, Tryz.ntmps208
      go_wp2_with fail
      go_ret
      rw [HE.out]
      exact ⟨rfl, Below.refl _ _⟩
    have hp0 : (0 : Int) < (s.size : Int) := by omega
    by_cases hn0 : s.size = 0
    · have HE := hide (show chkI s.data.toList = 11 from chk_empty (by rw [hD]; exact List.drop_eq_nil_of_le (by rw [bytes_len]; omega)))
      have q1 : ((0 : Int) == (s.size : Int)) = true := by rw [hn0]; rfl
      clear hD hn0
      go_enter Tryz.func208, Tryz.ntmps208
      go_wp2_with fail
      go_ret
      rw [HE.out]
      exact ⟨rfl, Below.refl _ _⟩
    · have hlt : 0 < s.size := by omega
      have hlti : (0 : Int) < (s.size : Int) := by omega
      have q1 : ((0 : Int) == (s.size : Int)) = false := by
        have : ¬ (0 : Int) = (s.size : Int) := by omega
        simpa using this
      have hat : s.data.toList[0]? = some (s[0]'hlt) := by
        have h1 : s.data.toList[0]? = some s.data[0] := by simp
        exact h1
      have hhd : (digs s.data.toList).head? = some (s[0]'hlt) := by rw [hD, List.head?_drop]; exact hat
      by_cases hz : s[0]'hlt = 48 ∧ 1 < s.size
      · have HE := hide (show chkI s.data.toList = 11 from chk_zero (by rw [hhd, hz.1]) (fun e => by have := bytes_len s; rw [e] at this; have := hz.2; simp at *; omega))
        have q2 : (((s[0]'hlt).toNat : Int) == 48) = true := by rw [hz.1]; rfl
        have q3 : (1 : Int) < (s.size : Int) := by have := hz.2; omega
        clear hD hn0 hz hat hhd
        go_enter Tryz.func208, Tryz.ntmps208
        go_wp2_with fail
        go_ret
        rw [HE.out]
        exact ⟨rfl, Below.refl _ _⟩
      · have hway : (((s[0]'hlt).toNat : Int) == 48) = false ∨ ((((s[0]'hlt).toNat : Int) == 48) = true ∧ ((1 : Int) < (s.size : Int)) = False) := by
          by_cases h48 : s[0]'hlt = 48
          · exact .inr ⟨by rw [h48]; rfl, eq_false (by have : ¬ 1 < s.size := fun e => hz ⟨h48, e⟩; omega)⟩
          · refine .inl ?_
            have : (s[0]'hlt).toNat ≠ 48 := fun h => h48 (UInt8.toNat_inj.1 h)
            simp only [beq_eq_false_iff_ne, ne_eq]
            omega
        have HZ := hide (show (digs s.data.toList).head? = some 48 → s.data.toList = [48] from fun e => by
          rw [hhd] at e
          injection e with e
          have h1 : s.size = 1 := by have : ¬ 1 < s.size := fun h => hz ⟨e, h⟩; omega
          have h2 := bytes_len s
          rw [h1] at h2
          obtain ⟨c, hc⟩ := List.length_eq_one_iff.1 h2
          have h0 : (0 : Nat) = 0 := by omega
          have h3 := hat
          rw [e, hc] at h3
          rw [hc]
          first
            | (simp at h3; done)
            | (injection h3 with h3; rw [h3]))
        have HD := hide hD
        clear hD hn0 hz hat hhd
        rcases hway with q2 | ⟨q2, q3⟩
        all_goals
          go_enter Tryz.func208, Tryz.ntmps208
          go_wp2_with fail
          go_loopw [4] (fun i wr => ∃ k : Nat, 0 ≤ k ∧ k ≤ s.size ∧ i = .int .i64 k ∧ Hid (∀ c ∈ (s.data.toList.take k).drop 0, isDg c = true) ∧ wr = w) (fun i _ => s.size - (intOf i).toNat)
          case' atStart => exact ⟨0, Nat.le_refl _, by omega, rfl, fun c hc => by rw [List.drop_eq_nil_of_le (by rw [List.length_take]; omega)] at hc; simp at hc, rfl⟩
          case' round =>
            obtain ⟨k, hk1, hk2, rfl, hin, rfl⟩ := hrel
            by_cases hlt2 : k < s.size
            · have hki : (k : Int) < (s.size : Int) := by omega
              have hk0 : (0 : Int) ≤ (k : Int) := by omega
              have hat2 : s.data.toList[k]? = some (s[k]'hlt2) := by
                have h1 : s.data.toList[k]? = some s.data[k] := by simp
                exact h1
              have hmem : s[k]'hlt2 ∈ digs s.data.toList := by
                rw [HD.out]
                refine List.mem_of_getElem? (i := k - 0) ?_
                rw [List.getElem?_drop, show 0 + (k - 0) = k by omega]
                exact hat2
              obtain ⟨y, hyv⟩ : ∃ y : Nat, y = (s[k]'hlt2).toNat := ⟨_, rfl⟩
              have hyv2 : (s[k]'hlt2).toNat = y := hyv.symm
              by_cases hy1 : y < 48
              · have HE := hide (show chkI s.data.toList = 11 from chk_nodg hmem (by unfold isDg; rw [hyv2, decide_eq_false (by omega : ¬ 48 ≤ y)]; rfl))
                have q4 : (y : Int) < 48 := by omega
                clear hat2 hmem hyv hin hy1
                go_wp2_with fail
                go_ret
                rw [HE.out]
                exact ⟨rfl, Below.refl _ _⟩
              · by_cases hy2 : 57 < y
                · have HE := hide (show chkI s.data.toList = 11 from chk_nodg hmem (by unfold isDg; rw [hyv2, decide_eq_false (by omega : ¬ y ≤ 57), Bool.and_false]))
                  have q4 : ((y : Int) < 48) = False := eq_false (by omega)
                  have q5 : (57 : Int) < (y : Int) := by omega
                  clear hat2 hmem hyv hin hy1 hy2
                  go_wp2_with fail
                  go_ret
                  rw [HE.out]
                  exact ⟨rfl, Below.refl _ _⟩
                · have hdg : isDg (s[k]'hlt2) = true := isDg_iff.2 (by omega)
                  have HN := hide (show ∀ c ∈ (s.data.toList.take (k + 1)).drop 0, isDg c = true from fun c hc => by
                    rw [List.take_add_one, hat2, List.drop_append_of_le_length (by rw [List.length_take, bytes_len]; omega)] at hc
                    rcases List.mem_append.1 hc with h | h
                    · exact hin.out c h
                    · simp at h
                      rw [h]
                      exact hdg)
                  have q4 : ((y : Int) < 48) = False := eq_false (by omega)
                  have q5 : ((57 : Int) < (y : Int)) = False := eq_false (by omega)
                  clear hat2 hmem hyv hin hy1 hy2 hdg
                  go_wp2_with fail
                  go_roundw
                  case rel => exact ⟨k + 1, by omega, by omega, by simp, HN.out, trivial⟩
                  case measure => simp [intOf]; omega
            · obtain rfl : k = s.size := by omega
              have hki : ((s.size : Int) < (s.size : Int)) = False := eq_false (by omega)
              have hlen : (digs s.data.toList).length = s.size - 0 := by rw [HD.out, List.length_drop, bytes_len]
              have hrest := chk_rest (l := s.data.toList) (fun e => by rw [e] at hlen; simp at hlen; omega) HZ.out (fun c hc => by
                rw [HD.out] at hc
                refine hin.out c ?_
                rw [List.take_of_length_le (by rw [bytes_len]; exact Nat.le_refl _)]
                exact hc)
              rw [hlen] at hrest
              by_cases h3 : 300 < s.size - 0
              · rw [if_pos h3] at hrest
                have HE := hide hrest
                have q4 : (300 : Int) < (s.size : Int) := by omega
                clear hin hlen hrest h3 hlt2
                go_wp2_with fail
                go_ret
                rw [HE.out]
                exact ⟨rfl, Below.refl _ _⟩
              · rw [if_neg h3] at hrest
                have HE := hide hrest
                have q4 : ((300 : Int) < (s.size : Int)) = False := eq_false (by omega)
                clear hin hlen hrest h3 hlt2
                go_wp2_with fail
                go_ret
                rw [HE.out]
                exact ⟨rfl, Below.refl _ _⟩
open Go.RowKit Go.KP Go.KI Go.Shelf
attribute [local go_sem] Oper.semAt_some

theorem rlimb_any (v : Value) (l : List Nat) (i : Nat) (B : Nat) (w : World) (h : LimbAt B w v l) (hi : i ≤ 1000000) :
    Calls Tryz.prog 245 #[v, .int .i64 i] w fun e w' => e = .returned (.int .i64 (lat l i)) ∧ w' = w := by
  have i0 : (0 : Int) ≤ (i : Int) := by omega
  rcases h.cases with ⟨a, c, rfl, rfl⟩ | ⟨b, o, cap, rfl, hb, hc⟩
  · have hlt : ((i : Int) < 0) = False := eq_false (by omega)
    have hl : lat [] i = 0 := rfl
    rw [hl]
    go_enter Tryz.func245, Tryz.ntmps245
    go_wp2
    go_ret
    exact ⟨rfl, rfl⟩
  · by_cases hlt : i < l.length
    · have hcell := hc i hlt
      have hlti : (i : Int) < (l.length : Int) := by omega
      clear hc h
      go_enter Tryz.func245, Tryz.ntmps245
      go_wp2
      go_ret
      exact ⟨rfl, rfl⟩
    · have hlti : ¬ (i : Int) < (l.length : Int) := by omega
      have hl := lat_past (l := l) (i := i) (by omega)
      rw [hl]
      clear hc h hl
      go_enter Tryz.func245, Tryz.ntmps245
      go_wp2
      go_ret
      exact ⟨rfl, rfl⟩
theorem rtrim_any (a : Option Addr) (c : Nat) (l : List Nat) (B : Nat) (w : World) (h : LimbAt B w (.slice a l.length c) l) (hc : l.length ≤ c) (hl : l.length ≤ 1000000) :
    Calls Tryz.prog 224 #[.slice a l.length c] w fun e w' => e = .returned (.slice a (trimTo l l.length) c) ∧ w = w' := by
  have H := hide h
  obtain ⟨n, hn⟩ : ∃ n, n = l.length := ⟨_, rfl⟩
  rw [← hn] at hc hl ⊢
  have HN := hide hn
  clear h hn
  go_enter Tryz.func224, Tryz.ntmps224
  go_wp2_with fail
  go_loopw [3] (fun t wr => ∃ k : Nat, k ≤ n ∧ t = .int .i64 k ∧ Hid (trimTo l k = trimTo l n) ∧ wr = w) (fun t _ => (intOf t).toNat)
  case atStart => exact ⟨n, Nat.le_refl _, rfl, rfl, rfl⟩
  case round =>
    obtain ⟨k, hk, rfl, ht, rfl⟩ := hrel
    rcases Nat.eq_zero_or_pos k with h0 | h0
    · have hq : (0 < k) = False := eq_false (by omega)
      have HT := hide (show trimTo l n = k by rw [← ht.out, h0]; rfl)
      have hkc : (k : Int) ≤ (c : Int) := by omega
      clear h0 ht
      go_wp2_with fail
      go_ret
      rw [HT.out]
      exact ⟨rfl, rfl⟩
    · rcases H.out.cases with ⟨a0, c0, hv, hnil⟩ | ⟨b, o, cap, hv, hb, hcl⟩
      · exfalso
        have := HN.out
        rw [hnil] at this
        simp at this
        omega
      · have hcell := hcl (k - 1) (by rw [← HN.out]; omega)
        injection hv with hv1 hv2 hv3
        subst hv1; subst hv3
        obtain ⟨m, hm⟩ : ∃ m, k = m + 1 := ⟨k - 1, by omega⟩
        subst hm
        rw [Nat.add_sub_cancel] at hcell
        have hq : decide (((m + 1 : Nat) : Int) > 0) = true := by simp
        have hm1 : ((m + 1 : Nat) : Int) - 1 = (m : Int) := by omega
        have hmn : (m : Int) < (n : Int) := by omega
        by_cases hz : lat l m = 0
        · have hz1 : ((lat l m : Int) == 0) = true := by rw [hz]; rfl
          have HT := hide (show trimTo l m = trimTo l n from (trimTo_z hz).symm.trans ht.out)
          clear hz ht hcl hv2
          go_wp2_with fail
          go_roundw
          case rel => exact ⟨m, by omega, rfl, HT, trivial⟩
          case measure => simp [intOf]
        · have hz1 : ((lat l m : Int) == 0) = false := by simpa using hz
          have HT := hide (show trimTo l n = m + 1 from ht.out.symm.trans (trimTo_p hz))
          have hkc : ((m + 1 : Nat) : Int) ≤ (c : Int) := by omega
          clear hz ht hcl hv2
          go_wp2_with fail
          go_ret
          rw [HT.out]
          exact ⟨rfl, rfl⟩
theorem rboth_any (s t : ByteArray) (hs : s.size ≤ 1000000) (ht : t.size ≤ 1000000) (w : World) :
    Calls Tryz.prog 185 #[.string s, .string t] w (Ret w (.int .i64 (bothI s.data.toList t.data.toList))) := by
  have H1 := hide (fun w => rcheck_any s hs w)
  have H2 := hide (fun w => rcheck_any t ht w)
  by_cases h : chkI s.data.toList = 0
  · have HE := hide (show bothI s.data.toList t.data.toList = chkI t.data.toList from if_pos h)
    rw [h] at H1
    clear h
    go_enter Tryz.func185, Tryz.ntmps185
    go_wp2_with fail
    refine (H1.out _).mono ?_
    rintro e w1 ⟨rfl, hb1⟩
    have HB1 := hide hb1
    clear hb1 H1
    go_wp2_with fail
    refine (H2.out _).mono ?_
    rintro e w2 ⟨rfl, hb2⟩
    have HB2 := hide (HB1.out.trans (hb2.mono HB1.out.size))
    clear hb2 H2 HB1
    go_wp2_with fail
    go_ret
    rw [HE.out]
    exact ⟨rfl, HB2.out⟩
  · have HE := hide (show bothI s.data.toList t.data.toList = chkI s.data.toList from if_neg h)
    have hq : (chkI s.data.toList != 0) = true := by simpa using h
    obtain ⟨E, hE⟩ : ∃ E, E = chkI s.data.toList := ⟨_, rfl⟩
    rw [← hE] at H1 hq HE
    clear h hE
    go_enter Tryz.func185, Tryz.ntmps185
    go_wp2_with fail
    refine (H1.out _).mono ?_
    rintro e w1 ⟨rfl, hb1⟩
    have HB1 := hide hb1
    clear hb1 H1
    go_wp2_with fail
    go_ret
    rw [HE.out]
    exact ⟨rfl, HB1.out⟩
theorem digs_drop (l : List UInt8) : digs l = l.drop (if l.head? = some 45 then 1 else 0) := by
  cases l with
  | nil => rfl
  | cons c r =>
    by_cases h : c = 45
    · simp [digs, h]
    · simp [digs, h]
theorem rsmall_yes (s : ByteArray) (c1 : chkI s.data.toList = 0) (hs : s.size ≤ 17) (w : World) :
    Calls Tryz.prog 222 #[.string s] w (Ret w (.tuple #[.int .i64 (valI s.data.toList), .bool true])) := by
  obtain ⟨mi, hmi⟩ : ∃ mi, mi = decide (s.data.toList.head? = some 45) := ⟨_, rfl⟩
  obtain ⟨off, hoff⟩ : ∃ off : Nat, off = if mi then 1 else 0 := ⟨_, rfl⟩
  have hd : digs s.data.toList = s.data.toList.drop off := by
    rw [digs_drop, hoff, hmi]
    by_cases h : s.data.toList.head? = some 45 <;> simp [h]
  have HD := hide hd
  have HDG := hide (chk_digs c1).1
  have HV := hide (valI_S s.data.toList)
  rw [← hmi] at HV
  have hpos := chk_pos c1
  rw [bytes_len] at hpos
  have hsi : (s.size : Int) ≤ 17 := by omega
  have hne : s.data.toList ≠ [] := fun e => by have := bytes_len s; rw [e] at this; simp at this; omega
  obtain ⟨hp, hh⟩ := bytes_head hne
  have hp0 : (0 : Int) < (s.size : Int) := by omega
  have h45 : ((s[0].toNat : Int) == 45) = mi := by
    rw [hmi, hh]
    by_cases h : s[0] = 45
    · rw [h]; rfl
    · have : s[0].toNat ≠ 45 := fun e => h (UInt8.toNat_inj.1 e)
      have h2 : ((s[0].toNat : Int) == 45) = false := by
        simp only [beq_eq_false_iff_ne, ne_eq]
        omega
      rw [h2]
      simp [h]
  have hlen : (digs s.data.toList).length = s.size - off := by rw [hd, List.length_drop, bytes_len]
  have hbnd : dv (digs s.data.toList) < 100000000000000000 := by
    have h1 := dv_lt _ (chk_digs c1).1
    have h2 : 10 ^ (digs s.data.toList).length ≤ 10 ^ 17 := Nat.pow_le_pow_right (by omega) (by rw [hlen]; omega)
    have h3 : (10 : Nat) ^ 17 = 100000000000000000 := by decide
    omega
  have HOF := hide hoff; have HMI := hide hmi; have HB := hide hbnd; have H45 := hide h45
  clear hd c1 hne hh hlen hoff hmi hbnd
  go_enter Tryz.func222, Tryz.ntmps222
  go_wp2_with fail
  clear h45
  go_loopw [4, 5] (fun acc i wr => ∃ k A : Nat, k ≤ s.size ∧ i = .int .i64 k ∧ acc = .int .i64 A ∧ Hid (A = dv ((digs s.data.toList).take (k - off))) ∧ wr = w) (fun _ i _ => s.size - (intOf i).toNat)
  case atStart => exact ⟨0, 0, Nat.zero_le _, rfl, rfl, by rw [Nat.zero_sub]; rfl, rfl⟩
  case round =>
    obtain ⟨k, A, hk, rfl, rfl, hA, rfl⟩ := hrel
    by_cases hlt : k < s.size
    · have hki : (k : Int) < (s.size : Int) := by omega
      have hk0 : (0 : Int) ≤ (k : Int) := by omega
      obtain ⟨y, hyv⟩ : ∃ y : Nat, y = (s[k]'hlt).toNat := ⟨_, rfl⟩
      have hyv2 : (s[k]'hlt).toNat = y := hyv.symm
      have hat : s.data.toList[k]? = some (s[k]'hlt) := by
        have h1 : s.data.toList[k]? = some s.data[k] := by simp
        exact h1
      by_cases hko : k < off
      · have hk00 : k = 0 ∧ off = 1 := by
          have := HOF.out
          cases hm : mi <;> rw [hm] at this <;> simp at this <;> omega
        have hmt : mi = true := by
          have := HOF.out
          cases hm : mi
          · rw [hm] at this; simp at this; omega
          · rfl
        have hy45 : y = 45 := by
          have h1 := HMI.out
          rw [hmt] at h1
          have h2 := of_decide_eq_true h1.symm
          have h3 : s.data.toList[0]? = some 45 := by rw [← List.head?_eq_getElem?]; exact h2
          obtain ⟨rfl, _⟩ := hk00
          rw [h3] at hat
          rw [hyv]
          injection hat with hat
          rw [← hat]
          rfl
        have hq : ((y : Int) != 45) = false := by rw [hy45]; rfl
        have HN := hide (show A = dv ((digs s.data.toList).take (k + 1 - off)) by
          have h1 := hA.out
          rw [show k - off = 0 by omega] at h1
          rw [h1, show k + 1 - off = 0 by omega])
        clear hat hyv hy45 hmt hk00 hko hA
        go_wp2_with fail
        go_roundw
        case rel => exact ⟨k + 1, A, by omega, by go_num, rfl, HN, trivial⟩
        case measure => simp [intOf]; omega
      · have hat2 : (digs s.data.toList)[k - off]? = some (s[k]'hlt) := by
          rw [HD.out, List.getElem?_drop, show off + (k - off) = k by omega]
          exact hat
        have hdg := isDg_iff.1 (HDG.out _ (List.mem_of_getElem? hat2))
        rw [hyv2] at hdg
        have hq : ((y : Int) != 45) = true := by
          have : (y : Int) ≠ 45 := by omega
          simpa using this
        have hnew : dv ((digs s.data.toList).take (k + 1 - off)) = A * 10 + (y - 48) := by
          rw [show k + 1 - off = (k - off) + 1 by omega, List.take_add_one, hat2]
          show dv (_ ++ [s[k]'hlt]) = _
          rw [dv_snoc, hyv2, hA.out]
        have hle : A * 10 + (y - 48) < 100000000000000000 := by
          rw [← hnew]
          refine Nat.lt_of_le_of_lt ?_ HB.out
          have h1 := dv_append ((digs s.data.toList).take (k + 1 - off)) ((digs s.data.toList).drop (k + 1 - off))
          rw [List.take_append_drop] at h1
          rw [h1]
          have h2 : 0 < 10 ^ ((digs s.data.toList).drop (k + 1 - off)).length := Nat.pow_pos (by omega)
          have h3 : dv ((digs s.data.toList).take (k + 1 - off)) * 1 ≤ dv ((digs s.data.toList).take (k + 1 - off)) * 10 ^ ((digs s.data.toList).drop (k + 1 - off)).length := Nat.mul_le_mul_left _ h2
          omega
        have HN := hide hnew.symm
        have y0 : (48 : Int) ≤ (y : Int) := by omega
        have y1 : (y : Int) ≤ 57 := by omega
        have a1 : (A : Int) < 10000000000000000 := by omega
        have HC := hide (show 10 * (A : Int) + ((y : Int) - 48) = ((A * 10 + (y - 48) : Nat) : Int) by omega)
        clear hat hat2 hyv hdg hnew hle hko hA
        go_wp2_with fail
        go_roundw
        case rel => exact ⟨k + 1, A * 10 + (y - 48), by omega, by go_num, by rw [← HC.out], HN, trivial⟩
        case measure => simp [intOf]; omega
    · obtain rfl : k = s.size := by omega
      have hki : ((s.size : Int) < (s.size : Int)) = False := eq_false (by omega)
      have hA2 : A = dv (digs s.data.toList) := by
        rw [hA.out, List.take_of_length_le]
        rw [HD.out, List.length_drop, bytes_len]
        exact Nat.le_refl _
      have hAb : (A : Int) < 100000000000000000 := by
        have := HB.out
        rw [← hA2] at this
        omega
      rw [← hA2] at HV
      have h45 := H45.out
      clear hlt hA hA2
      cases mi
      · go_wp2_with fail
        refine bodyPost_ret (results_tmp2 rfl _ _ _) rfl ?_
        exact ⟨by rw [HV.out]; rfl, Below.refl _ _⟩
      · go_wp2_with fail
        refine bodyPost_ret (results_tmp2 rfl _ _ _) rfl ?_
        exact ⟨by rw [HV.out]; rfl, Below.refl _ _⟩
theorem rsmall_no (s : ByteArray) (hs : 17 < s.size) (w : World) :
    Calls Tryz.prog 222 #[.string s] w (Ret w (.tuple #[.int .i64 0, .bool false])) := by
  have e1 : (17 : Int) < (s.size : Int) := by omega
  go_enter Tryz.func222, Tryz.ntmps222
  go_wp2_with fail
  refine bodyPost_ret (results_tmp2 rfl _ _ _) rfl ?_
  exact ⟨rfl, Below.refl _ _⟩
open Go.RowKit Go.KP Go.KI Go.Shelf
attribute [local go_sem] Oper.semAt_some

def cutV (l : List UInt8) : Value := if cutOK l then .tuple #[partsV (strB (numT l)) (strB (denS l)), .bool true] else .tuple #[partsV ⟨#[]⟩ ⟨#[]⟩, .bool false]
theorem cut_ways1 (l : List UInt8) (O : ByteArray) (hO : O.data.toList = digs (numT l)) (k : Nat) (hk : k = digN (digs (numT l))) (neg : Bool) (hneg : neg = decide ((numT l).head? = some 45)) :
    ((((k : Int) == 0) = true ∧ ¬ cutOK l) ∨ (((k : Int) == 0) = false ∧ (k : Int) < (O.size : Int) ∧ ¬ cutOK l) ∨
      (((k : Int) == 0) = false ∧ ((k : Int) < (O.size : Int)) = False ∧ neg = true ∧ (O.toList == [48]) = true ∧ ¬ cutOK l)) ∨
    ((((k : Int) == 0) = false ∧ ((k : Int) < (O.size : Int)) = False ∧ neg = true ∧ (O.toList == [48]) = false ∧ chkI (numT l) ≠ 11) ∨
      (((k : Int) == 0) = false ∧ ((k : Int) < (O.size : Int)) = False ∧ neg = false ∧ chkI (numT l) ≠ 11)) := by
  have h11 := chkI_11 (numT l)
  have hdn := digN_numeral (digs (numT l))
  have hno : chkI (numT l) = 11 → ¬ cutOK l := fun h hc => hc (.inl h)
  have hsz : O.size = (digs (numT l)).length := by rw [← bytes_len, hO]
  rw [← hk] at hdn
  obtain ⟨z1, z2⟩ := beq0 (k := k)
  obtain ⟨t1, t2⟩ := lit_eq (m := [48]) hO
  by_cases h0 : k = 0
  · exact .inl (.inl ⟨z1 h0, hno (h11.2 (.inl (hdn.1 (.inl h0))))⟩)
  · by_cases hl : k < (digs (numT l)).length
    · exact .inl (.inr (.inl ⟨z2 h0, by omega, hno (h11.2 (.inl (hdn.1 (.inr hl))))⟩))
    · have hf : ((k : Int) < (O.size : Int)) = False := eq_false (by omega)
      have hnum : ¬ ¬ numeral (digs (numT l)) := fun e => by
        rcases hdn.2 e with e1 | e1
        · exact h0 e1
        · exact hl e1
      by_cases hn : (numT l).head? = some 45
      · have hn1 : neg = true := by rw [hneg, hn]; rfl
        by_cases h48 : digs (numT l) = [48]
        · exact .inl (.inr (.inr ⟨z2 h0, hf, hn1, t1 h48, hno (h11.2 (.inr ⟨hn, h48⟩))⟩))
        · refine .inr (.inl ⟨z2 h0, hf, hn1, t2 h48, fun e => ?_⟩)
          rcases h11.1 e with e1 | e1
          · exact hnum e1
          · exact h48 e1.2
      · refine .inr (.inr ⟨z2 h0, hf, by rw [hneg]; simpa using hn, fun e => ?_⟩)
        rcases h11.1 e with e1 | e1
        · exact hnum e1
        · exact hn e1.1
theorem cut_ways2 (l : List UInt8) (h47 : 47 ∈ l) (hc : chkI (numT l) ≠ 11) (D : ByteArray) (hD : D.data.toList = denT l) (k : Nat) (hk : k = digN (denT l)) :
    ((((k : Int) == 0) = true ∧ ¬ cutOK l) ∨ (((k : Int) == 0) = false ∧ (k : Int) < (D.size : Int) ∧ ¬ cutOK l) ∨
      (((k : Int) == 0) = false ∧ ((k : Int) < (D.size : Int)) = False ∧ (D.toList == [48]) = true ∧ ¬ cutOK l) ∨
      (((k : Int) == 0) = false ∧ ((k : Int) < (D.size : Int)) = False ∧ (D.toList == [48]) = false ∧ (D.toList == [49]) = true ∧ ¬ cutOK l)) ∨
      (((k : Int) == 0) = false ∧ ((k : Int) < (D.size : Int)) = False ∧ (D.toList == [48]) = false ∧ (D.toList == [49]) = false ∧ cutOK l) := by
  have hdn := digN_numeral (denT l)
  have hsz : D.size = (denT l).length := by rw [← bytes_len, hD]
  rw [← hk] at hdn
  obtain ⟨z1, z2⟩ := beq0 (k := k)
  obtain ⟨t1, t2⟩ := lit_eq (m := [48]) hD
  obtain ⟨u1, u2⟩ := lit_eq (m := [49]) hD
  by_cases h0 : k = 0
  · exact .inl (.inl ⟨z1 h0, fun h => h (.inr ⟨h47, .inl (hdn.1 (.inl h0))⟩)⟩)
  · by_cases hl : k < (denT l).length
    · exact .inl (.inr (.inl ⟨z2 h0, by omega, fun h => h (.inr ⟨h47, .inl (hdn.1 (.inr hl))⟩)⟩))
    · have hf : ((k : Int) < (D.size : Int)) = False := eq_false (by omega)
      have hnum : ¬ ¬ numeral (denT l) := fun e => by
        rcases hdn.2 e with e1 | e1
        · exact h0 e1
        · exact hl e1
      by_cases h48 : denT l = [48]
      · exact .inl (.inr (.inr (.inl ⟨z2 h0, hf, t1 h48, fun h => h (.inr ⟨h47, .inr (.inl h48)⟩)⟩)))
      · by_cases h49 : denT l = [49]
        · exact .inl (.inr (.inr (.inr ⟨z2 h0, hf, t2 h48, u1 h49, fun h => h (.inr ⟨h47, .inr (.inr h49)⟩)⟩)))
        · refine .inr ⟨z2 h0, hf, t2 h48, u2 h49, ?_⟩
          rintro (h | ⟨_, h | h | h⟩)
          · exact hc h
          · exact hnum h
          · exact h48 h
          · exact h49 h
theorem qcut_any (s : ByteArray) (hs : s.size ≤ 1000000) (B : Nat) (w : World) (hB : B ≤ w.heap.size) (hT : PQ B w) :
    Calls Tryz.prog 183 #[.string s] w (Ret w (cutV s.data.toList)) := by
  have H0 := hide (heap1 w (partsO ⟨#[]⟩ ⟨#[]⟩))
  have hTT := hide (hT.on H0.out.2.2 hB)
  have nle : (numT s.data.toList).length ≤ s.size := by
    rw [← bytes_len]
    exact List.Sublist.length_le (List.takeWhile_sublist _)
  have dle : (denT s.data.toList).length ≤ s.size := by
    have h1 : (denT s.data.toList).length ≤ (s.data.toList.dropWhile (fun c => c != 47)).length := by
      unfold denT
      rw [List.length_drop]
      omega
    have h2 := List.Sublist.length_le (List.dropWhile_sublist (l := s.data.toList) (fun c => c != 47))
    rw [bytes_len] at h2
    omega
  have ole : (digs (numT s.data.toList)).length ≤ s.size := by rw [digs_drop, List.length_drop]; omega
  have HC := hide (scut_any 47 s hs B _ hTT.out)
  obtain ⟨n, hn⟩ : ∃ n, n = strB (numT s.data.toList) := ⟨_, rfl⟩
  have HC : Hid (Calls Tryz.prog 219 #[.string s, .string ⟨#[47]⟩] (w.alloc (partsO ⟨#[]⟩ ⟨#[]⟩)) (Ret (w.alloc (partsO ⟨#[]⟩ ⟨#[]⟩)) (.tuple #[.string n, .string (strB (if 47 ∈ s.data.toList then denT s.data.toList else [])), .bool (decide (47 ∈ s.data.toList))]))) := hide (by rw [hn]; exact HC.out)
  have HP := hide (fun w => cutPrefix_any n w)
  have hnl : n.data.toList = numT s.data.toList := by rw [hn, strB_list]
  rw [hnl] at HP
  obtain ⟨O, hO⟩ : ∃ O, O = strB (digs (numT s.data.toList)) := ⟨_, rfl⟩
  rw [← hO] at HP
  have hOl : O.data.toList = digs (numT s.data.toList) := by rw [hO, strB_list]
  have hOs : O.size ≤ 1000000 := by rw [← bytes_len, hOl]; omega
  obtain ⟨neg, hneg⟩ : ∃ neg, neg = decide ((numT s.data.toList).head? = some 45) := ⟨_, rfl⟩
  rw [← hneg] at HP
  obtain ⟨k, hk⟩ : ∃ k, k = digN (digs (numT s.data.toList)) := ⟨_, rfl⟩
  have HD := hide (fun w => qdigits_any O hOs w)
  rw [hOl, ← hk] at HD
  have hks : k ≤ 1000000 := by have := digN_le (digs (numT s.data.toList)); omega
  have hw1 := cut_ways1 s.data.toList O hOl k hk neg hneg
  have HNE := hide hn
  have HF := hide (fun (h : ¬ cutOK s.data.toList) => show cutV s.data.toList = .tuple #[partsV ⟨#[]⟩ ⟨#[]⟩, .bool false] from if_neg h)
  have HT := hide (fun (h : cutOK s.data.toList) => show cutV s.data.toList = .tuple #[partsV n (strB (denS s.data.toList)), .bool true] by rw [hn]; exact if_pos h)
  obtain ⟨V, hV⟩ : ∃ V, V = cutV s.data.toList := ⟨_, rfl⟩
  rw [← hV] at HF HT ⊢
  clear hn hnl hO hOl hneg hk hV hT
  have hw2 : (¬ 47 ∈ s.data.toList) ∨ 47 ∈ s.data.toList := by
    by_cases h : 47 ∈ s.data.toList
    · exact .inr h
    · exact .inl h
  rcases hw1 with hbad | hgood
  · obtain ⟨is, his⟩ : ∃ is, is = decide (47 ∈ s.data.toList) := ⟨_, rfl⟩
    obtain ⟨dd, hdd⟩ : ∃ dd, dd = strB (if 47 ∈ s.data.toList then denT s.data.toList else []) := ⟨_, rfl⟩
    rw [← his, ← hdd] at HC
    clear his hdd hw2
    rcases hbad with ⟨h1, h2⟩ | ⟨h1, h3, h2⟩ | ⟨h1, h3, h4, h5, h2⟩
    case' inr.inr => subst h4
    all_goals
      have HE := hide (HF.out h2)
      clear h2
      go_enter Tryz.func183, Tryz.ntmps183
      go_wp2_with fail
      refine HC.out.mono ?_
      rintro e w1 ⟨rfl, hb1⟩
      have G1 := hide (below_blk hb1 H0.out.1 (lt_blk H0.out.1))
      have HB1 := hide (H0.out.2.2.trans (hb1.mono H0.out.2.2.size))
      clear hb1
      go_wp2_with fail
      refine (HP.out _).mono ?_
      rintro e w1' ⟨rfl, rfl⟩
      go_wp2_with fail
      refine (HD.out _).mono ?_
      rintro e w2 ⟨rfl, hb2⟩
      have G2 := hide (below_blk hb2 G1.out (lt_blk G1.out))
      have HB2 := hide (HB1.out.trans (hb2.mono HB1.out.size))
      have f0 := froz_blk G2.out 0
      have f1 := froz_blk G2.out 1
      have c0 := cell_blk G2.out 0
      have c1 := cell_blk G2.out 1
      clear hb2
      go_wp2_with fail
      refine exit_cutSet G2.out (by rfl) (by rfl) (by rfl) (fun hb => ?_)
      rw [HE.out]
      exact ⟨rfl, HB2.out.trans hb⟩
  · rcases hw2 with h47 | h47
    · have h47d : decide (47 ∈ s.data.toList) = false := by simpa using h47
      have HDS := hide (show strB (denS s.data.toList) = ⟨#[49]⟩ by unfold denS; rw [if_neg h47]; rfl)
      have hok : chkI (numT s.data.toList) ≠ 11 → cutOK s.data.toList := fun h => by
        rintro (h1 | h1)
        · exact h h1
        · exact h47 h1.1
      rw [h47d] at HC
      obtain ⟨dd, hdd⟩ : ∃ dd, dd = strB (if 47 ∈ s.data.toList then denT s.data.toList else []) := ⟨_, rfl⟩
      rw [← hdd] at HC
      clear hdd h47 h47d
      rcases hgood with ⟨h1, h3, h4, h5, h2⟩ | ⟨h1, h3, h4, h2⟩
      all_goals
        subst h4
        have HE := hide (HT.out (hok h2))
        clear h2 hok
        go_enter Tryz.func183, Tryz.ntmps183
        go_wp2_with fail
        refine HC.out.mono ?_
        rintro e w1 ⟨rfl, hb1⟩
        have G1 := hide (below_blk hb1 H0.out.1 (lt_blk H0.out.1))
        have HB1 := hide (H0.out.2.2.trans (hb1.mono H0.out.2.2.size))
        clear hb1
        go_wp2_with fail
        refine (HP.out _).mono ?_
        rintro e w1' ⟨rfl, rfl⟩
        go_wp2_with fail
        refine (HD.out _).mono ?_
        rintro e w2 ⟨rfl, hb2⟩
        have G2 := hide (below_blk hb2 G1.out (lt_blk G1.out))
        have HB2 := hide (HB1.out.trans (hb2.mono HB1.out.size))
        have f0 := froz_blk G2.out 0
        have f1 := froz_blk G2.out 1
        have c0 := cell_blk G2.out 0
        have c1 := cell_blk G2.out 1
        clear hb2
        go_wp2_with fail
        refine exit_cutSet G2.out (by rfl) (by rfl) (by rfl) (fun hb => ?_)
        rw [HE.out, HDS.out]
        exact ⟨rfl, HB2.out.trans hb⟩
    · have h47d : decide (47 ∈ s.data.toList) = true := by simpa using h47
      obtain ⟨D, hD⟩ : ∃ D, D = strB (denT s.data.toList) := ⟨_, rfl⟩
      have hDl : D.data.toList = denT s.data.toList := by rw [hD, strB_list]
      have hDs : D.size ≤ 1000000 := by rw [← bytes_len, hDl]; omega
      rw [h47d, if_pos h47, ← hD] at HC
      obtain ⟨k2, hk2⟩ : ∃ k, k = digN (denT s.data.toList) := ⟨_, rfl⟩
      have HD2 := hide (fun w => qdigits_any D hDs w)
      rw [hDl, ← hk2] at HD2
      have hks2 : k2 ≤ 1000000 := by have := digN_le (denT s.data.toList); omega
      have HDS := hide (show strB (denS s.data.toList) = D by unfold denS; rw [if_pos h47, hD])
      have hw3 := fun hc => cut_ways2 s.data.toList h47 hc D hDl k2 hk2
      clear hD hDl h47 h47d hk2
      rcases hgood with ⟨h1, h3, h4, h5, h2⟩ | ⟨h1, h3, h4, h2⟩
      all_goals
        subst h4
        rcases hw3 h2 with (⟨g1, g2⟩ | ⟨g1, g3, g2⟩ | ⟨g1, g3, g4, g2⟩ | ⟨g1, g3, g4, g5, g2⟩) | ⟨g1, g3, g4, g5, g2⟩
      all_goals
        have HG := hide g2
        clear g2 hw3
        go_enter Tryz.func183, Tryz.ntmps183
        go_wp2_with fail
        refine HC.out.mono ?_
        rintro e w1 ⟨rfl, hb1⟩
        have G1 := hide (below_blk hb1 H0.out.1 (lt_blk H0.out.1))
        have HB1 := hide (H0.out.2.2.trans (hb1.mono H0.out.2.2.size))
        clear hb1
        go_wp2_with fail
        refine (HP.out _).mono ?_
        rintro e w1' ⟨rfl, rfl⟩
        go_wp2_with fail
        refine (HD.out _).mono ?_
        rintro e w2 ⟨rfl, hb2⟩
        have G2 := hide (below_blk hb2 G1.out (lt_blk G1.out))
        have HB2 := hide (HB1.out.trans (hb2.mono HB1.out.size))
        have f0 := froz_blk G2.out 0
        have f1 := froz_blk G2.out 1
        have c0 := cell_blk G2.out 0
        have c1 := cell_blk G2.out 1
        clear hb2
        go_wp2_with fail
        clear c0 c1 f0 f1
        refine (HD2.out _).mono ?_
        rintro e w3 ⟨rfl, hb3⟩
        have G3 := hide (below_blk hb3 G2.out (lt_blk G2.out))
        have HB3 := hide (HB2.out.trans (hb3.mono HB2.out.size))
        have f0 := froz_blk G3.out 0
        have f1 := froz_blk G3.out 1
        have c0 := cell_blk G3.out 0
        have c1 := cell_blk G3.out 1
        clear hb3
        go_wp2_with fail
        refine exit_cutSet G3.out (by rfl) (by rfl) (by rfl) (fun hb => ?_)
        first
          | (rw [HF.out HG.out]
             exact ⟨rfl, HB3.out.trans hb⟩)
          | (rw [HT.out HG.out, HDS.out]
             exact ⟨rfl, HB3.out.trans hb⟩)
open Go.RowKit Go.KP Go.KI Go.Shelf
attribute [local go_sem] Oper.semAt_some

theorem exit_natOf {R : Ending → World → Prop} {a : Act} {W : World} {b : Nat} {n d : Int} {ok : Bool} (hb : W.heap[b]? = some (natO n d)) (h2 : a.tmps[2]? = some (.pointer (some ⟨b, 0, none⟩))) (h3 : a.tmps[3]? = some (.bool ok)) (hd : a.defers = []) (hR : R (.returned (.tuple #[natV n d, .bool ok])) W) :
    bodyPost Tryz.prog Tryz.f125 R .ret a W := by
  have hcell := fun o => cell_blk hb o
  refine bodyPost_ret ?_ hd hR
  simp [results, go_sem, hcell, h2, h3]
theorem exit_natSet {R : Ending → World → Prop} {a : Act} {W : World} {b : Nat} {n d u0 u1 : Int} {ok : Bool} (hb : W.heap[b]? = some (natO u0 u1)) (h2 : a.tmps[2]? = some (.pointer (some ⟨b, 0, none⟩))) (h3 : a.tmps[3]? = some (.bool ok)) (hd : a.defers = [])
    (hR : Below b W ((W.setCell ⟨b, 0, none⟩ (.int .i64 n)).setCell ⟨b, 1, none⟩ (.int .i64 d)) → R (.returned (.tuple #[natV n d, .bool ok])) ((W.setCell ⟨b, 0, none⟩ (.int .i64 n)).setCell ⟨b, 1, none⟩ (.int .i64 d))) :
    bodyPost Tryz.prog Tryz.f125 R .ret a ((W.setCell ⟨b, 0, none⟩ (.int .i64 n)).setCell ⟨b, 1, none⟩ (.int .i64 d)) := by
  obtain ⟨s1, s2⟩ := set2 hb (.int .i64 n) (.int .i64 d)
  exact exit_natOf s1 h2 h3 hd (hR s2)
theorem exit_natSetA {R : Ending → World → Prop} {a : Act} {W : World} {b : Nat} {n d u0 u1 : Int} {ok : Bool} {X : Obj} (hb : W.heap[b]? = some (natO u0 u1)) (h2 : a.tmps[2]? = some (.pointer (some ⟨b, 0, none⟩))) (h3 : a.tmps[3]? = some (.bool ok)) (hd : a.defers = [])
    (hR : Below b W (((W.setCell ⟨b, 0, none⟩ (.int .i64 n)).setCell ⟨b, 1, none⟩ (.int .i64 d)).alloc X) → R (.returned (.tuple #[natV n d, .bool ok])) (((W.setCell ⟨b, 0, none⟩ (.int .i64 n)).setCell ⟨b, 1, none⟩ (.int .i64 d)).alloc X)) :
    bodyPost Tryz.prog Tryz.f125 R .ret a (((W.setCell ⟨b, 0, none⟩ (.int .i64 n)).setCell ⟨b, 1, none⟩ (.int .i64 d)).alloc X) := by
  obtain ⟨s1, s2⟩ := set2 hb (.int .i64 n) (.int .i64 d)
  have hl := lt_blk s1
  exact exit_natOf ((Below.heap_alloc _ _ _ hl).trans s1) h2 h3 hd (hR (s2.alloc (by have := s2.size; have := lt_blk hb; omega) _))
theorem blk_other {w : World} {b c o : Nat} {x : Obj} (h : w.heap[b]? = some x) (hne : ¬ c = b) (v : Value) : (w.setCell ⟨c, o, none⟩ v).heap[b]? = some x := by
  simp only [World.setCell]
  rw [Array.getElem?_modify, if_neg hne]
  exact h
theorem nat_set1 {w : World} {c : Nat} {n d u : Int} (h : w.heap[c]? = some (natO n u)) : (w.setCell ⟨c, 1, none⟩ (.int .i64 d)).heap[c]? = some (natO n d) ∧ Below c w (w.setCell ⟨c, 1, none⟩ (.int .i64 d)) := by
  refine ⟨?_, (Below.refl c w).setCell (p := ⟨c, 1, none⟩) (Nat.le_refl _) _⟩
  simp only [World.setCell, Array.getElem?_modify, h]
  simp
theorem nat_set0 {w : World} {c : Nat} {n d u : Int} (h : w.heap[c]? = some (natO u d)) : (w.setCell ⟨c, 0, none⟩ (.int .i64 n)).heap[c]? = some (natO n d) ∧ Below c w (w.setCell ⟨c, 0, none⟩ (.int .i64 n)) := by
  refine ⟨?_, (Below.refl c w).setCell (p := ⟨c, 0, none⟩) (Nat.le_refl _) _⟩
  simp only [World.setCell, Array.getElem?_modify, h]
  simp
def natOV (l : List UInt8) : Value := match natOf l with
  | none => .tuple #[natV 0 0, .bool false]
  | some (n, d) => .tuple #[natV n d, .bool true]
theorem natIV_of_none {l : List UInt8} (h : natI l = none) : natIV l = .tuple #[.int .i64 0, .string ⟨#[]⟩, .bool false] := by unfold natIV; rw [h]
theorem natIV_of_some {l : List UInt8} {n : Nat} {r : List UInt8} (h : natI l = some (n, r)) : natIV l = .tuple #[.int .i64 n, .string (strB r), .bool true] := by unfold natIV; rw [h]
theorem natI_lt {l : List UInt8} {n : Nat} {r : List UInt8} (h : natI l = some (n, r)) : n < 100000000 ∧ r.length ≤ l.length := by
  obtain ⟨h1, h2, _⟩ := natI_some h
  refine ⟨by have := (dec_len_le (u := n) (n := 8) (by omega)).1 h2; simpa using this, ?_⟩
  have := congrArg List.length h1
  rw [List.length_append] at this
  omega
theorem natOf_neg (l : List UInt8) (neg : Bool) (hs : (digs l).length < l.length ↔ neg = true) : natOf l = match natI (digs l) with
    | none => none
    | some (n, rest) => if neg = true ∧ n = 0 then none else
      match rest with
      | [] => some (if neg = true then -(n : Int) else (n : Int), 1)
      | c :: r => if c ≠ 47 then none else
        match natI r with
        | none => none
        | some (d, rest2) => if rest2 ≠ [] ∨ d < 2 ∨ Nat.gcd n d ≠ 1 then none else some (if neg = true then -(n : Int) else (n : Int), d) := by
  unfold natOf
  cases natI (digs l) with
  | none => rfl
  | some p =>
    obtain ⟨n, rest⟩ := p
    simp only [hs]
    cases rest with
    | nil => rfl
    | cons c r =>
      cases natI r with
      | none => rfl
      | some q =>
        obtain ⟨d, r2⟩ := q
        rfl
theorem digs_shorter (l : List UInt8) : (digs l).length < l.length ↔ l.head? = some 45 := by
  cases l with
  | nil => simp [digs]
  | cons c r =>
    by_cases h : c = 45
    · simp [digs, h]
    · simp [digs, h]
theorem nativeOf_any (s : ByteArray) (hs : s.size ≤ 1000000) (w : World) :
    Calls Tryz.prog 125 #[.string s] w (Ret w (natOV s.data.toList)) := by
  have H0 := hide (heap1 w (natO 0 0))
  obtain ⟨neg, hneg⟩ : ∃ neg, neg = decide (s.data.toList.head? = some 45) := ⟨_, rfl⟩
  obtain ⟨O, hO⟩ : ∃ O : ByteArray, O = strB (digs s.data.toList) := ⟨_, rfl⟩
  have hOs : O.size ≤ s.size := by
    rw [hO, strB_size, digs_drop, List.length_drop, bytes_len]
    omega
  have HN := hide (fun w => nativeInt_any O (by omega) w)
  rw [show O.data.toList = digs s.data.toList by rw [hO, strB_list]] at HN
  have hOe : (neg = false → O = s) ∧ (neg = true → s.extract 1 s.size = O) := by
    constructor
    · intro h
      rw [h] at hneg
      rw [hO]
      apply bytes_eq
      rw [strB_list, digs_drop, if_neg (of_decide_eq_false hneg.symm)]
      rfl
    · intro h
      rw [h] at hneg
      rw [ext_drop, hO, digs_drop, if_pos (of_decide_eq_true hneg.symm)]
  have hlen : ((O.size : Int) < (s.size : Int)) = (neg = true) := by
    have h1 := digs_shorter s.data.toList
    rw [bytes_len] at h1
    have h2 : O.size = (digs s.data.toList).length := by rw [hO, strB_size]
    rw [← h2] at h1
    apply propext
    rw [hneg, decide_eq_true_iff, ← h1]
    omega
  have HNEG := hide (natOf_neg s.data.toList neg (by rw [hneg, decide_eq_true_iff]; exact digs_shorter _))
  obtain ⟨V, hV⟩ : ∃ V, V = natOV s.data.toList := ⟨_, rfl⟩
  have HV := hide hV
  rw [← hV]
  clear hV
  have hstart : (s.data.toList = [] ∧ neg = false) ∨ (∃ h : 0 < s.size, s.toList.isEmpty = false ∧ ((neg = false ∧ (((s[0]'h).toNat : Int) == 45) = false) ∨ (neg = true ∧ (((s[0]'h).toNat : Int) == 45) = true))) := by
    by_cases hne : s.data.toList = []
    · exact .inl ⟨hne, by rw [hneg, hne]; rfl⟩
    · obtain ⟨hp, hh⟩ := bytes_head hne
      refine .inr ⟨hp, empty_no hne, ?_⟩
      by_cases h45 : s[0] = 45
      · exact .inr ⟨by rw [hneg, hh, h45]; rfl, by rw [h45]; rfl⟩
      · refine .inl ⟨?_, ?_⟩
        · rw [hneg, hh]
          simpa using h45
        · have : s[0].toNat ≠ 45 := fun h => h45 (UInt8.toNat_inj.1 h)
          simp only [beq_eq_false_iff_ne, ne_eq]
          omega
  clear hneg hO
  rcases hstart with ⟨h1, h2⟩ | ⟨hp, h1, ⟨h2, h3⟩ | ⟨h2, h3⟩⟩
  case' inl =>
    subst h2
    have he := empty_yes h1
    have hs2 : s = O := (hOe.1 rfl).symm
    subst hs2
    have hl : ((s.size : Int) < (s.size : Int)) = False := eq_false (by omega)
    clear h1 hOe hlen hOs
    go_enter Tryz.func125, Tryz.ntmps125
    go_wp2_with fail
  case' inr.inl =>
    subst h2
    have hp0 : (0 : Int) < (s.size : Int) := by omega
    have hs2 : s = O := (hOe.1 rfl).symm
    subst hs2
    have hl : ((s.size : Int) < (s.size : Int)) = False := eq_false (by omega)
    clear hOe hlen hOs
    go_enter Tryz.func125, Tryz.ntmps125
    go_wp2_with fail
  case' inr.inr =>
    subst h2
    have hp0 : (0 : Int) < (s.size : Int) := by omega
    have hs1 : (1 : Int) ≤ (s.size : Int) := by omega
    have HE := hide (hOe.2 rfl)
    have hl : (O.size : Int) < (s.size : Int) := by rw [hlen]
    clear hOe hlen
    go_enter Tryz.func125, Tryz.ntmps125
    go_wp2_with fail
    rw [HE.out]
  all_goals
    refine (HN.out _).mono ?_
    rintro e w1 ⟨rfl, hb1⟩
    have G1 := hide (below_blk hb1 H0.out.1 (lt_blk H0.out.1))
    have HB1 := hide (H0.out.2.2.trans (hb1.mono H0.out.2.2.size))
    have hsz1 := lt_blk G1.out
    have f0 := froz_blk G1.out 0
    have f1 := froz_blk G1.out 1
    have c0 := cell_blk G1.out 0
    have c1 := cell_blk G1.out 1
    clear hb1 HN
    cases hNI : natI (digs s.data.toList) with
    | none =>
      rw [natIV_of_none hNI]
      have HR := hide (show V = .tuple #[natV 0 0, .bool false] by
        rw [HV.out]
        unfold natOV
        rw [HNEG.out, hNI])
      clear hNI
      go_wp2_with fail
      obtain ⟨s1, s2⟩ := set2 G1.out (.int .i64 0) (.int .i64 0)
      refine exit_natOf s1 rfl rfl rfl ?_
      rw [HR.out]
      exact ⟨rfl, HB1.out.trans (s2.mono (by omega))⟩
    | some p =>
      obtain ⟨n, rest⟩ := p
      obtain ⟨hnl, hrl⟩ := natI_lt hNI
      rw [natIV_of_some hNI]
      have HS := hide (show natOf s.data.toList = _ from HNEG.out)
      rw [hNI] at HS
      simp only [] at HS
      have hzc : (n = 0 ∧ ((n : Int) == 0) = true) ∨ (n ≠ 0 ∧ ((n : Int) == 0) = false) := by
        by_cases h : n = 0
        · exact .inl ⟨h, by rw [h]; rfl⟩
        · refine .inr ⟨h, ?_⟩
          simp only [beq_eq_false_iff_ne, ne_eq]
          omega
      have HF := hide (fun (h : natOf s.data.toList = none) => show V = .tuple #[natV 0 0, .bool false] by
        rw [HV.out]
        unfold natOV
        rw [h])
      have HT := hide (fun (a : Int) (b : Nat) (h : natOf s.data.toList = some (a, b)) => show V = .tuple #[natV a b, .bool true] by
        rw [HV.out]
        unfold natOV
        rw [h])
      obtain ⟨t, ht⟩ : ∃ t, t = strB rest := ⟨_, rfl⟩
      rw [← ht]
      have HTT := hide ht
      clear ht hNI HV HNEG
      have hsh : (rest = [] ∧ t.toList.isEmpty = true) ∨ (∃ h : 0 < t.size, t.toList.isEmpty = false ∧ (((t[0]'h).toNat : Int) != 47) = true ∧ ∃ c r, rest = c :: r ∧ c ≠ 47) ∨ (∃ h : 0 < t.size, t.toList.isEmpty = false ∧ (((t[0]'h).toNat : Int) != 47) = false ∧ ∃ r, rest = 47 :: r ∧ t.extract 1 t.size = strB r) := by
        have hte : t.data.toList = rest := by rw [HTT.out, strB_list]
        by_cases hr : rest = []
        · exact .inl ⟨hr, empty_yes (by rw [hte, hr])⟩
        · obtain ⟨hp, hh⟩ := bytes_head (s := t) (by rw [hte]; exact hr)
          obtain ⟨c, r, hcr⟩ : ∃ c r, rest = c :: r := by
            cases rest with
            | nil => exact absurd rfl hr
            | cons c r => exact ⟨c, r, rfl⟩
          have h0 : t[0]'hp = c := by
            rw [hte, hcr] at hh
            injection hh with hh
            exact hh.symm
          by_cases h47 : c = 47
          · refine .inr (.inr ⟨hp, empty_no (by rw [hte]; exact hr), by rw [h0, h47]; rfl, r, by rw [hcr, h47], ?_⟩)
            rw [ext_drop, hte, hcr]
            rfl
          · refine .inr (.inl ⟨hp, empty_no (by rw [hte]; exact hr), ?_, c, r, hcr, h47⟩)
            rw [h0]
            have : c.toNat ≠ 47 := fun h => h47 (UInt8.toNat_inj.1 h)
            simp only [bne_iff_ne, ne_eq]
            omega
      have hts : t.size ≤ 1000000 := by
        rw [HTT.out, strB_size]
        have h1 : (digs s.data.toList).length ≤ s.data.toList.length := by rw [digs_drop, List.length_drop]; omega
        rw [bytes_len] at h1
        omega
      have GA := hide (fun ob : Obj => (Below.heap_alloc w1 ob _ hsz1).trans G1.out)
      rcases hsh with ⟨g1, g2⟩ | ⟨hpt, g2, g3, g1⟩ | ⟨hpt, g2, g3, r, g1, g4⟩
      all_goals
        have GR := hide g1
        clear g1
        rcases hzc with ⟨hz, hz0⟩ | ⟨hz, hz0⟩
      all_goals
        have HZ := hide hz
        clear hz
      all_goals try have hpt0 : (0 : Int) < (t.size : Int) := Int.ofNat_lt.2 hpt
      all_goals go_wp2_with fail
      all_goals first
        | (refine exit_natSet (ok := false) G1.out (by rfl) (by rfl) (by rfl) (fun hb => ?_)
           rw [HF.out (by rw [HS.out, HZ.out]; rfl)]
           exact ⟨rfl, HB1.out.trans hb⟩)
        | (refine exit_natSetA (ok := false) G1.out (by rfl) (by rfl) (by rfl) (fun hb => ?_)
           rw [HF.out (by obtain ⟨c, r, e, hc⟩ := GR.out; rw [HS.out, e]; simp [hc])]
           exact ⟨rfl, HB1.out.trans hb⟩)
        | (refine exit_natSetA (ok := true) (n := (n : Int)) G1.out (by rfl) (by rfl) (by rfl) (fun hb => ?_)
           rw [HT.out (n : Int) 1 (by rw [HS.out, GR.out]; simp [HZ.out])]
           exact ⟨rfl, HB1.out.trans hb⟩)
        | (refine exit_natSetA (ok := true) (n := (-(n : Int))) G1.out (by rfl) (by rfl) (by rfl) (fun hb => ?_)
           rw [HT.out (-(n : Int)) 1 (by rw [HS.out, GR.out]; simp [HZ.out])]
           exact ⟨rfl, HB1.out.trans hb⟩)
        | skip
      all_goals
        have hrr : r.length ≤ 1000000 := by
          have h1 := congrArg List.length GR.out
          rw [List.length_cons] at h1
          have h2 : (digs s.data.toList).length ≤ s.data.toList.length := by rw [digs_drop, List.length_drop]; omega
          rw [bytes_len] at h2
          omega
        have HI : Hid (∀ w, Calls Tryz.prog 180 #[.string (strB r)] w (Ret w (natIV r))) := hide (fun w => by
          have h := nativeInt_any (strB r) (by rw [strB_size]; exact hrr) w
          rwa [strB_list] at h)
        have G0 := hide (heap1 w1 (natO (n : Int) 1))
        refine (HI.out _).mono ?_
        rintro e w2 ⟨rfl, hb2⟩
        have G2 := hide (below_blk hb2 (GA.out _) (Nat.lt_of_lt_of_le hsz1 G0.out.2.2.size))
        have D2 := hide (below_blk hb2 G0.out.1 (lt_blk G0.out.1))
        have HB2 := hide (HB1.out.trans ((G0.out.2.2.trans (hb2.mono G0.out.2.2.size)).mono HB1.out.size))
        have hsz2 := lt_blk D2.out
        have hne : ¬ w1.heap.size = w.heap.size := by omega
        have hne2 : ¬ w.heap.size = w1.heap.size := by omega
        clear hb2 f0 f1 c0 c1
        have f0 := froz_blk G2.out 0
        have f1 := froz_blk G2.out 1
        have c0 := cell_blk G2.out 0
        have c1 := cell_blk G2.out 1
        have f2 := froz_blk D2.out 0
        have f3 := froz_blk D2.out 1
        have c2 := cell_blk D2.out 0
        have c3 := cell_blk D2.out 1
        cases hNI2 : natI r with
        | none =>
          rw [natIV_of_none hNI2]
          have HR := hide (HF.out (by rw [HS.out, GR.out]; simp [hNI2]))
          clear hNI2
          go_wp2_with fail
          obtain ⟨s1, s2⟩ := nat_set1 (d := 0) D2.out
          refine exit_natSet (ok := false) (blk_other G2.out hne _) (by rfl) (by rfl) (by rfl) (fun hb => ?_)
          rw [HR.out]
          exact ⟨rfl, HB2.out.trans ((s2.mono (by omega)).trans hb)⟩
        | some p2 =>
          obtain ⟨d, rest2⟩ := p2
          obtain ⟨hdl, _⟩ := natI_lt hNI2
          rw [natIV_of_some hNI2]
          have HN2 := hide hNI2
          clear hNI2
          obtain ⟨s1, s2⟩ := nat_set1 (d := (d : Int)) D2.out
          have S1 := hide s1; have S2 := hide s2
          have SG := hide (blk_other (o := 1) G2.out hne (.int .i64 (d : Int)))
          clear s1 s2
          have hway : (rest2 ≠ [] ∧ (strB rest2).toList.isEmpty = false) ∨ (rest2 = [] ∧ (strB rest2).toList.isEmpty = true) := by
            by_cases hr : rest2 = []
            · exact .inr ⟨hr, empty_yes (by rw [strB_list, hr])⟩
            · exact .inl ⟨hr, empty_no (by rw [strB_list]; exact hr)⟩
          obtain ⟨t2, ht2⟩ : ∃ t2, t2 = strB rest2 := ⟨_, rfl⟩
          rw [← ht2] at hway ⊢
          clear ht2
          rcases hway with ⟨hr2, ht2⟩ | ⟨hr2, ht2⟩
          · have HR := hide (HF.out (by rw [HS.out, GR.out]; simp [HN2.out, hr2]))
            clear hr2
            go_wp2_with fail
            refine exit_natSet (ok := false) SG.out (by rfl) (by rfl) (by rfl) (fun hb => ?_)
            rw [HR.out]
            exact ⟨rfl, HB2.out.trans ((S2.out.mono (by omega)).trans hb)⟩
          · have HRE := hide hr2
            clear hr2
            by_cases hd2 : d < 2
            · have hd2i : (d : Int) < 2 := by omega
              have HR := hide (HF.out (by rw [HS.out, GR.out]; simp [HN2.out, HRE.out, hd2]))
              clear hd2
              go_wp2_with fail
              refine exit_natSet (ok := false) SG.out (by rfl) (by rfl) (by rfl) (fun hb => ?_)
              rw [HR.out]
              exact ⟨rfl, HB2.out.trans ((S2.out.mono (by omega)).trans hb)⟩
            · have hd2i : ((d : Int) < 2) = False := eq_false (by omega)
              have HD2 := hide hd2
              clear hd2
              go_wp2_with fail
              refine (qgcd_any n d (by omega) (by omega) _).mono ?_
              rintro e w3 ⟨rfl, hb3⟩
              have D3 := hide (below_blk hb3 S1.out (lt_blk S1.out))
              have G3 := hide (below_blk hb3 SG.out (lt_blk SG.out))
              have HB3 := hide (HB2.out.trans ((S2.out.mono (by omega)).trans (hb3.mono (by have := lt_blk SG.out; omega))))
              have SN := hide (nat_set0 (n := -(n : Int)) D3.out)
              clear hb3 c0 c1 c2 c3 f0 f1 f2 f3
              have f0 := froz_blk G3.out 0
              have f1 := froz_blk G3.out 1
              have f2 := froz_blk D3.out 0
              have f3 := froz_blk D3.out 1
              have c0 := cell_blk G3.out 0
              have c1 := cell_blk G3.out 1
              have c2 := cell_blk D3.out 0
              have c3 := cell_blk D3.out 1
              by_cases hg : n.gcd d = 1
              · have hgi : (((n.gcd d : Nat) : Int) != 1) = false := by rw [hg]; rfl
                have HG := hide hg
                clear hg
                go_wp2_with fail
                first
                  | (refine exit_natSet (ok := true) (n := (n : Int)) G3.out (by rfl) (by rfl) (by rfl) (fun hb => ?_)
                     rw [HT.out (n : Int) d (by rw [HS.out, GR.out]; simp [HN2.out, HRE.out, HD2.out, HG.out])]
                     exact ⟨rfl, HB3.out.trans hb⟩)
                  | (refine exit_natSet (ok := true) (n := -(n : Int)) (blk_other G3.out hne _) (by rfl) (by rfl) (by rfl) (fun hb => ?_)
                     rw [HT.out (-(n : Int)) d (by rw [HS.out, GR.out]; simp [HN2.out, HRE.out, HD2.out, HG.out, HZ.out])]
                     exact ⟨rfl, HB3.out.trans ((SN.out.2.mono (by omega)).trans hb)⟩)
              · have hgi : (((n.gcd d : Nat) : Int) != 1) = true := by
                  simp only [bne_iff_ne, ne_eq]
                  omega
                have HR := hide (HF.out (by rw [HS.out, GR.out]; simp [HN2.out, HRE.out, hg]))
                clear hg
                go_wp2_with fail
                refine exit_natSet (ok := false) G3.out (by rfl) (by rfl) (by rfl) (fun hb => ?_)
                rw [HR.out]
                exact ⟨rfl, HB3.out.trans hb⟩
open Go.RowKit Go.KP Go.KI Go.Shelf
attribute [local go_sem] Oper.semAt_some

def readV (l : List UInt8) : Value := if chkQ l = 0 then .tuple #[partsV (strB (numT l)) (strB (denS l)), .int .i64 0] else .tuple #[partsV ⟨#[]⟩ ⟨#[]⟩, .int .i64 (chkQ l)]
theorem natOV_yes {l : List UInt8} (h : natQ l) : natOV l = .tuple #[natV (valQ l).num ((valQ l).den : Nat), .bool true] := by
  unfold natOV
  rw [natOf_eq, if_pos h]
theorem natOV_no {l : List UInt8} (h : ¬ natQ l) : natOV l = .tuple #[natV 0 0, .bool false] := by
  unfold natOV
  rw [natOf_eq, if_neg h]
theorem denS_one {l : List UInt8} (h : cutOK l) : (denS l = [49] ↔ ¬ 47 ∈ l) := by
  unfold denS
  by_cases hs : 47 ∈ l
  · rw [if_pos hs]
    exact ⟨fun e => absurd (.inr ⟨hs, .inr (.inr e)⟩) h, fun e => absurd hs e⟩
  · rw [if_neg hs]
    exact ⟨fun _ => hs, fun _ => rfl⟩
theorem read_ways (l : List UInt8) (N D O : ByteArray) (hN : N = strB (numT l)) (hD : D = strB (denS l)) (hO : O = strB (digs (numT l))) :
    (¬ cutOK l ∧ readV l = .tuple #[partsV ⟨#[]⟩ ⟨#[]⟩, .int .i64 11]) ∨
    (cutOK l ∧ natQ l ∧ readV l = .tuple #[partsV N D, .int .i64 0]) ∨
    (cutOK l ∧ ¬ natQ l ∧ (300 : Int) < (O.size : Int) ∧ readV l = .tuple #[partsV ⟨#[]⟩ ⟨#[]⟩, .int .i64 4]) ∨
    (cutOK l ∧ ¬ natQ l ∧ ((300 : Int) < (O.size : Int)) = False ∧ (300 : Int) < (D.size : Int) ∧ readV l = .tuple #[partsV ⟨#[]⟩ ⟨#[]⟩, .int .i64 4]) ∨
    (cutOK l ∧ ¬ natQ l ∧ ((300 : Int) < (O.size : Int)) = False ∧ ((300 : Int) < (D.size : Int)) = False ∧ (D.toList == [49]) = true ∧ readV l = .tuple #[partsV N D, .int .i64 0]) ∨
    (cutOK l ∧ ¬ natQ l ∧ ((300 : Int) < (O.size : Int)) = False ∧ ((300 : Int) < (D.size : Int)) = False ∧ (D.toList == [49]) = false ∧
      ∃ (x : Int) (y : Nat), N.data.toList = Lib.itoa x ∧ D.data.toList = Lib.itoa (y : Int) ∧ fits x ∧ fits (y : Int) ∧
        ((Nat.gcd x.natAbs y = 1 ∧ readV l = .tuple #[partsV N D, .int .i64 0]) ∨ (Nat.gcd x.natAbs y ≠ 1 ∧ readV l = .tuple #[partsV ⟨#[]⟩ ⟨#[]⟩, .int .i64 11]))) := by
  have e0 : chkQ l = 0 → readV l = .tuple #[partsV N D, .int .i64 0] := fun h => by unfold readV; rw [if_pos h, hN, hD]
  have e1 : ∀ z : Int, z ≠ 0 → chkQ l = z → readV l = .tuple #[partsV ⟨#[]⟩ ⟨#[]⟩, .int .i64 z] := fun z hz h => by unfold readV; rw [h, if_neg hz]
  by_cases hc : cutOK l
  · have hf := chkQ_form hc
    have so : O.size = (digs (numT l)).length := by rw [hO, strB_size]
    have sd : D.size = (denS l).length := by rw [hD, strB_size]
    rw [← so, ← sd] at hf
    by_cases hq : natQ l
    · exact .inr (.inl ⟨hc, hq, e0 hq.1⟩)
    · by_cases h1 : 300 < O.size
      · exact .inr (.inr (.inl ⟨hc, hq, by omega, e1 4 (by decide) (by rw [hf, if_pos (.inl h1)])⟩))
      · have g1 : ((300 : Int) < (O.size : Int)) = False := eq_false (by omega)
        by_cases h2 : 300 < D.size
        · exact .inr (.inr (.inr (.inl ⟨hc, hq, g1, by omega, e1 4 (by decide) (by rw [hf, if_pos (.inr h2)])⟩)))
        · have g2 : ((300 : Int) < (D.size : Int)) = False := eq_false (by omega)
          rw [if_neg (fun h => by rcases h with h | h <;> contradiction)] at hf
          obtain ⟨u1, u2⟩ := lit_eq (s := D) (l := denS l) (m := [49]) (by rw [hD, strB_list])
          by_cases h3 : denS l = [49]
          · have h4 := (denS_one hc).1 h3
            exact .inr (.inr (.inr (.inr (.inl ⟨hc, hq, g1, g2, u1 h3, e0 (by rw [hf, if_neg (fun h => h4 h.1)])⟩))))
          · have h4 : 47 ∈ l := Decidable.byContradiction fun h => h3 ((denS_one hc).2 h)
            have h5 : denS l = denT l := by unfold denS; rw [if_pos h4]
            obtain ⟨c1, c2⟩ := chkI_int (fun e => hc (.inl e))
            have h6 : denT l = Lib.decDigits (dv (denT l)) := numeral_dec (Decidable.byContradiction fun e => hc (.inr ⟨h4, .inl e⟩))
            refine .inr (.inr (.inr (.inr (.inr ⟨hc, hq, g1, g2, u2 h3, valI (numT l), dv (denT l), by rw [hN, strB_list]; exact c1, by rw [hD, strB_list, h5, Lib.itoa_nonneg]; exact h6, ?_, ?_, ?_⟩))))
            · refine fits_len.2 ?_
              have h7 : (digs (numT l)).length = (Lib.decDigits (valI (numT l)).natAbs).length := by
                conv => lhs; rw [c1]
                rw [digs_itoa]
              omega
            · refine fits_nat.2 ?_
              rw [← h6, ← h5]
              omega
            · by_cases hg : Nat.gcd (valI (numT l)).natAbs (dv (denT l)) = 1
              · exact .inl ⟨hg, e0 (by rw [hf, if_neg (fun h => h.2 hg)])⟩
              · exact .inr ⟨hg, e1 11 (by decide) (by rw [hf, if_pos ⟨h4, hg⟩])⟩
  · exact .inl ⟨hc, e1 11 (by decide) (by unfold chkQ; rw [if_pos (Decidable.byContradiction fun e => hc e)])⟩
theorem exit_readQSetA {R : Ending → World → Prop} {a : Act} {W : World} {b : Nat} {n d u0 u1 : ByteArray} {z : Int} {X : Obj} (hb : W.heap[b]? = some (partsO u0 u1)) (h2 : a.tmps[2]? = some (.pointer (some ⟨b, 0, none⟩))) (h3 : a.tmps[3]? = some (.int .i64 z)) (hd : a.defers = [])
    (hR : Below b W (((W.setCell ⟨b, 0, none⟩ (.string n)).setCell ⟨b, 1, none⟩ (.string d)).alloc X) → R (.returned (.tuple #[partsV n d, .int .i64 z])) (((W.setCell ⟨b, 0, none⟩ (.string n)).setCell ⟨b, 1, none⟩ (.string d)).alloc X)) :
    bodyPost Tryz.prog Tryz.f127 R .ret a (((W.setCell ⟨b, 0, none⟩ (.string n)).setCell ⟨b, 1, none⟩ (.string d)).alloc X) := by
  obtain ⟨s1, s2⟩ := set2 hb (.string n) (.string d)
  have hl := lt_blk s1
  exact exit_readQ ((Below.heap_alloc _ _ _ hl).trans s1) h2 h3 hd (hR (s2.alloc (by have := s2.size; have := lt_blk hb; omega) _))
theorem qread_any (s : ByteArray) (hs : s.size ≤ 1000000) (B : Nat) (w : World) (hB : B ≤ w.heap.size) (hT : PQ B w) :
    Calls Tryz.prog 127 #[.string s] w (Ret w (readV s.data.toList)) := by
  have H0 := hide (heap1 w (partsO ⟨#[]⟩ ⟨#[]⟩))
  have hTT := hide (hT.on H0.out.2.2 hB)
  have HC := hide (qcut_any s hs B _ (Nat.le_trans hB H0.out.2.2.size) hTT.out)
  have HN := hide (fun w => nativeOf_any s hs w)
  obtain ⟨N, hN⟩ : ∃ N, N = strB (numT s.data.toList) := ⟨_, rfl⟩
  obtain ⟨D, hD⟩ : ∃ D, D = strB (denS s.data.toList) := ⟨_, rfl⟩
  obtain ⟨O, hO⟩ : ∃ O, O = strB (digs (numT s.data.toList)) := ⟨_, rfl⟩
  have HP := hide (fun w => trimPrefix_any N w)
  rw [show N.data.toList = numT s.data.toList by rw [hN, strB_list], ← hO] at HP
  have hw := read_ways s.data.toList N D O hN hD hO
  obtain ⟨V, hV⟩ : ∃ V, V = readV s.data.toList := ⟨_, rfl⟩
  rw [← hV] at hw ⊢
  have HCY := hide (fun (h : cutOK s.data.toList) => show cutV s.data.toList = .tuple #[partsV N D, .bool true] by unfold cutV; rw [if_pos h, hN, hD])
  have HCN := hide (fun (h : ¬ cutOK s.data.toList) => show cutV s.data.toList = .tuple #[partsV ⟨#[]⟩ ⟨#[]⟩, .bool false] from if_neg h)
  have HNN := hide (fun (h : ¬ natQ s.data.toList) => natOV_no h)
  have HNY := hide (fun (h : natQ s.data.toList) => natOV_yes h)
  have hTB := hide hT.p10
  clear hN hD hO hV hT
  rcases hw with ⟨k1, k2⟩ | ⟨k1, k3, k2⟩ | ⟨k1, k3, g1, k2⟩ | ⟨k1, k3, g1, g2, k2⟩ | ⟨k1, k3, g1, g2, g3, k2⟩ | ⟨k1, k3, g1, g2, g3, x, y, q1, q2, q3, q4, k2⟩
  case inl =>
    rw [HCN.out k1] at HC
    have HE := hide k2
    clear k1 k2
    go_enter Tryz.func127, Tryz.ntmps127
    go_wp2_with fail
    refine HC.out.mono ?_
    rintro e w1 ⟨rfl, hb1⟩
    have G1 := hide (below_blk hb1 H0.out.1 (lt_blk H0.out.1))
    have HB1 := hide (H0.out.2.2.trans (hb1.mono H0.out.2.2.size))
    have f0 := froz_blk G1.out 0
    have f1 := froz_blk G1.out 1
    have c0 := cell_blk G1.out 0
    have c1 := cell_blk G1.out 1
    have hl1 := lt_blk G1.out
    clear hb1
    go_wp2_with fail
    refine exit_readQSetA G1.out (by rfl) (by rfl) (by rfl) (fun hb => ?_)
    rw [HE.out]
    exact ⟨rfl, HB1.out.trans hb⟩
  all_goals
    rw [HCY.out k1] at HC
    first | rw [HNN.out k3] at HN | rw [HNY.out k3] at HN
    have HE := hide k2
    clear k1 k2 k3
  case' inr.inr.inr.inr.inr =>
    obtain ⟨gg, hgg⟩ : ∃ gg, gg = strB (Lib.itoa ((Nat.gcd x.natAbs y : Nat) : Int)) := ⟨_, rfl⟩
    have hgl : gg.data.toList = Lib.itoa ((Nat.gcd x.natAbs y : Nat) : Int) := by rw [hgg, strB_list]
    have HG := hide (fun w hB hT => Gcd_to (r := gg) q1 q2 (by rw [Int.natAbs_natCast]; exact hgl) q3 q4 B w hB hT)
    have hone := itoa_is_one ((Nat.gcd x.natAbs y : Nat) : Int)
    obtain ⟨u1, u2⟩ := lit_eq (m := [49]) hgl
    have hway : ((gg.toList == [49]) = true ∧ V = .tuple #[partsV N D, .int .i64 0]) ∨ ((gg.toList == [49]) = false ∧ V = .tuple #[partsV ⟨#[]⟩ ⟨#[]⟩, .int .i64 11]) := by
      rcases HE.out with ⟨h1, h2⟩ | ⟨h1, h2⟩
      · exact .inl ⟨u1 (hone.2 (by rw [h1]; rfl)), h2⟩
      · exact .inr ⟨u2 (fun e => h1 (by have := hone.1 e; omega)), h2⟩
    clear HE q1 q2 q3 q4 hgg hgl hone u1 u2
    rcases hway with ⟨v1, v2⟩ | ⟨v1, v2⟩
  all_goals
    try (have HE := hide v2; clear v2)
    go_enter Tryz.func127, Tryz.ntmps127
    go_wp2_with fail
    refine HC.out.mono ?_
    rintro e w1 ⟨rfl, hb1⟩
    have G1 := hide (below_blk hb1 H0.out.1 (lt_blk H0.out.1))
    have HB1 := hide (H0.out.2.2.trans (hb1.mono H0.out.2.2.size))
    have H1 := hide (heap1 w1 (partsO N D))
    have hl1 := lt_blk G1.out
    have f0 := froz_blk G1.out 0
    have f1 := froz_blk G1.out 1
    have c0 := cell_blk G1.out 0
    have c1 := cell_blk G1.out 1
    clear hb1
    go_wp2_with fail
    refine (HN.out _).mono ?_
    rintro e w2 ⟨rfl, hb2⟩
    have G2 := hide (below_blk hb2 ((Below.heap_alloc _ _ _ hl1).trans G1.out) (Nat.lt_of_lt_of_le hl1 H1.out.2.2.size))
    have D2 := hide (below_blk hb2 H1.out.1 (lt_blk H1.out.1))
    have HB2 := hide (HB1.out.trans ((H1.out.2.2.trans (hb2.mono H1.out.2.2.size)).mono HB1.out.size))
    have hl2 := lt_blk D2.out
    have hl3 := lt_blk G2.out
    have hne : ¬ w1.heap.size = w.heap.size := by omega
    have hne2 : ¬ w.heap.size = w1.heap.size := by omega
    clear hb2 f0 f1 c0 c1
    have f0 := froz_blk G2.out 0
    have f1 := froz_blk G2.out 1
    have c0 := cell_blk G2.out 0
    have c1 := cell_blk G2.out 1
    have c2 := cell_blk D2.out 0
    have c3 := cell_blk D2.out 1
    go_wp2_with fail
  all_goals try
    (refine (HP.out _).mono ?_
     rintro e w3 ⟨rfl, rfl⟩
     go_wp2_with fail)
  all_goals try
    (refine exit_readQSetA G2.out (by rfl) (by rfl) (by rfl) (fun hb => ?_)
     rw [HE.out]
     exact ⟨rfl, HB2.out.trans hb⟩)
  all_goals
    have H3 := hide (heap1 w2 (natO 0 0))
    have HB3 := hide (HB2.out.trans (H3.out.2.2.mono HB2.out.size))
    refine (HG.out _ (Nat.le_trans hB HB3.out.size) (hTB.out.on HB3.out hB)).mono ?_
    rintro e w4 ⟨rfl, hb4⟩
    have G4 := hide (below_blk hb4 ((Below.heap_alloc _ _ _ hl3).trans G2.out) (Nat.lt_of_lt_of_le hl3 H3.out.2.2.size))
    have D4 := hide (below_blk hb4 ((Below.heap_alloc _ _ _ hl2).trans D2.out) (Nat.lt_of_lt_of_le hl2 H3.out.2.2.size))
    have HB4 := hide (HB3.out.trans (hb4.mono HB3.out.size))
    clear hb4 f0 f1 c0 c1 c2 c3
    have f0 := froz_blk G4.out 0
    have f1 := froz_blk G4.out 1
    have c0 := cell_blk G4.out 0
    have c1 := cell_blk G4.out 1
    have c2 := cell_blk D4.out 0
    have c3 := cell_blk D4.out 1
    go_wp2_with fail
    refine exit_readQSet G4.out (by rfl) (by rfl) (by rfl) (fun hb => ?_)
    rw [HE.out]
    exact ⟨rfl, HB4.out.trans hb⟩
open Go.RowKit Go.KP Go.KI Go.Shelf
attribute [local go_sem] Oper.semAt_some

theorem readV_good {l : List UInt8} (h : chkQ l = 0) : readV l = .tuple #[partsV (strB (Lib.itoa (valQ l).num)) (strB (Lib.itoa ((valQ l).den : Int))), .int .i64 0] := by
  obtain ⟨e1, e2⟩ := numT_of h
  unfold readV
  rw [if_pos h, e1, e2]
theorem readV_bad {l : List UInt8} (h : chkQ l ≠ 0) : readV l = .tuple #[partsV ⟨#[]⟩ ⟨#[]⟩, .int .i64 (chkQ l)] := if_neg h
theorem qboth_bad (s t : ByteArray) (hs : s.size ≤ 1000000) (ht : t.size ≤ 1000000) (f : Value) (h : bothQ s.data.toList t.data.toList ≠ 0) (B : Nat) (w : World) (hB : B ≤ w.heap.size) (hT : PQ B w) :
    Calls Tryz.prog 114 #[.string s, .string t, f] w (Ret w (pairV [] (bothQ s.data.toList t.data.toList))) := by
  have H1 := hide (qread_any s hs B w hB hT)
  have H2 := hide (fun w hB hT => qread_any t ht B w hB hT)
  have HT := hide hT
  have he : strB [] = ⟨#[]⟩ := rfl
  rw [show pairV [] (bothQ s.data.toList t.data.toList) = .tuple #[.string ⟨#[]⟩, .int .i64 (bothQ s.data.toList t.data.toList)] from rfl]
  clear he hT
  by_cases h1 : chkQ s.data.toList = 0
  · have e : bothQ s.data.toList t.data.toList = chkQ t.data.toList := if_pos h1
    rw [e] at h ⊢
    rw [readV_good h1] at H1
    rw [readV_bad h] at H2
    obtain ⟨E, hE⟩ : ∃ E, E = chkQ t.data.toList := ⟨_, rfl⟩
    rw [← hE] at H2 h ⊢
    have hne : (E != 0) = true := by simpa using h
    obtain ⟨n, hn⟩ : ∃ n, n = strB (Lib.itoa (valQ s.data.toList).num) := ⟨_, rfl⟩
    obtain ⟨d, hd⟩ : ∃ d, d = strB (Lib.itoa ((valQ s.data.toList).den : Int)) := ⟨_, rfl⟩
    rw [← hn, ← hd] at H1
    clear e h hE h1 hn hd
    go_enter Tryz.func114, Tryz.ntmps114
    go_wp2_with fail
    refine H1.out.mono ?_
    rintro e w1 ⟨rfl, hb1⟩
    have HB1 := hide (hb1.trans ((heap1 w1 (partsO n d)).2.2.mono hb1.size))
    clear hb1
    go_wp2_with fail
    refine (H2.out _ (Nat.le_trans hB HB1.out.size) (HT.out.on HB1.out hB)).mono ?_
    rintro e w2 ⟨rfl, hb2⟩
    have HB2 := hide (HB1.out.trans (hb2.mono HB1.out.size))
    clear hb2
    go_wp2_with fail
    refine bodyPost_ret (results_tmp2 rfl _ _ _) rfl ?_
    exact ⟨rfl, HB2.out.trans ((heap1 w2 _).2.2.mono HB2.out.size)⟩
  · have e : bothQ s.data.toList t.data.toList = chkQ s.data.toList := if_neg h1
    rw [e] at h ⊢
    rw [readV_bad h] at H1
    obtain ⟨E, hE⟩ : ∃ E, E = chkQ s.data.toList := ⟨_, rfl⟩
    rw [← hE] at H1 h ⊢
    have hne : (E != 0) = true := by simpa using h
    clear e h hE h1 H2
    go_enter Tryz.func114, Tryz.ntmps114
    go_wp2_with fail
    refine H1.out.mono ?_
    rintro e w1 ⟨rfl, hb1⟩
    have HB1 := hide hb1
    clear hb1
    go_wp2_with fail
    refine bodyPost_ret (results_tmp2 rfl _ _ _) rfl ?_
    exact ⟨rfl, HB1.out.trans ((heap1 w1 _).2.2.mono HB1.out.size)⟩
theorem qboth_good (s t : ByteArray) (hs : s.size ≤ 1000000) (ht : t.size ≤ 1000000) (f : Nat) (cap : Array Value) (h1 : chkQ s.data.toList = 0) (h2 : chkQ t.data.toList = 0) (hen : ∀ args w, (callFunc f args).run Tryz.prog w = .ok (.enter f args) w) (r : List UInt8) (z : Int) (B : Nat) (w : World) (hB : B ≤ w.heap.size) (hT : PQ B w)
    (hf : ∀ W, Below w.heap.size w W → Calls Tryz.prog f (#[partsV (strB (Lib.itoa (valQ s.data.toList).num)) (strB (Lib.itoa ((valQ s.data.toList).den : Int))), partsV (strB (Lib.itoa (valQ t.data.toList).num)) (strB (Lib.itoa ((valQ t.data.toList).den : Int)))] ++ cap) W (Ret W (pairV r z))) :
    Calls Tryz.prog 114 #[.string s, .string t, .func (.func f) #[] cap] w (Ret w (pairV r z)) := by
  have H1 := hide (qread_any s hs B w hB hT)
  have H2 := hide (fun w hB hT => qread_any t ht B w hB hT)
  have HT := hide hT
  rw [readV_good h1] at H1
  rw [readV_good h2] at H2
  have HF := hide hf
  obtain ⟨n, hn⟩ : ∃ n, n = strB (Lib.itoa (valQ s.data.toList).num) := ⟨_, rfl⟩
  obtain ⟨d, hd⟩ : ∃ d, d = strB (Lib.itoa ((valQ s.data.toList).den : Int)) := ⟨_, rfl⟩
  obtain ⟨m, hm⟩ : ∃ n, n = strB (Lib.itoa (valQ t.data.toList).num) := ⟨_, rfl⟩
  obtain ⟨c, hc⟩ : ∃ d, d = strB (Lib.itoa ((valQ t.data.toList).den : Int)) := ⟨_, rfl⟩
  rw [← hn, ← hd] at H1 HF
  rw [← hm, ← hc] at H2 HF
  obtain ⟨R, hR⟩ : ∃ R, R = strB r := ⟨_, rfl⟩
  rw [show pairV r z = .tuple #[.string R, .int .i64 z] by rw [hR]] at HF ⊢
  clear hf hn hd hm hc h1 h2 hT hR
  go_enter Tryz.func114, Tryz.ntmps114
  go_wp2_with fail
  refine H1.out.mono ?_
  rintro e w1 ⟨rfl, hb1⟩
  have X1 := hide (heap1 w1 (partsO n d))
  have HB1 := hide (hb1.trans (X1.out.2.2.mono hb1.size))
  clear hb1
  go_wp2_with fail
  refine (H2.out _ (Nat.le_trans hB HB1.out.size) (HT.out.on HB1.out hB)).mono ?_
  rintro e w2 ⟨rfl, hb2⟩
  have G2 := hide (below_blk hb2 X1.out.1 (lt_blk X1.out.1))
  have HB2 := hide (HB1.out.trans (hb2.mono HB1.out.size))
  have X2 := hide (heap1 w2 (partsO m c))
  have HB2b := hide (HB2.out.trans (X2.out.2.2.mono HB2.out.size))
  have c0 := cell_blk G2.out 0
  have c1 := cell_blk G2.out 1
  have hl := lt_blk G2.out
  clear hb2
  go_wp2_with fail
  refine (HF.out _ HB2b.out).mono ?_
  rintro e w3 ⟨rfl, hb3⟩
  have HB3 := hide (HB2b.out.trans (hb3.mono HB2b.out.size))
  clear hb3 c0 c1
  go_wp2_with fail
  refine bodyPost_ret (results_tmp2 rfl _ _ _) rfl ?_
  exact ⟨rfl, HB3.out⟩
open Go.RowKit Go.KP Go.KI Go.Shelf
attribute [local go_sem] Oper.semAt_some

theorem opposite_any {s r : ByteArray} {z : Int} (h1 : s.data.toList = Lib.itoa z) (h2 : r.data.toList = Lib.itoa (-z)) (hs : s.size ≤ 1000000) (w : World) :
    Calls Tryz.prog 177 #[.string s] w fun e w' => e = .returned (.string r) ∧ w = w' := by
  obtain ⟨t1, t2⟩ := lit_eq (m := [48]) h1
  have HP := hide (cutPrefix_any s w)
  rw [h1] at HP
  by_cases h0 : z = 0
  · have e0 : Lib.itoa z = [48] := by rw [h0, itoa_zero]
    have g := t1 e0
    have HR := hide (show r = s from bytes_eq (by rw [h2, h1, h0]; rfl))
    clear t1 t2 h1 h2 e0 HP h0
    go_enter Tryz.func177, Tryz.ntmps177
    go_wp2_with fail
    go_ret
    rw [HR.out]
    exact ⟨rfl, rfl⟩
  · have g := t2 (itoa_nz h0)
    by_cases hn : z < 0
    · have hd : decide ((Lib.itoa z).head? = some 45) = true := by rw [decide_eq_true_iff]; exact (itoa_head z).2 hn
      have HR := hide (show r = strB (digs (Lib.itoa z)) from bytes_eq (by
        rw [strB_list, h2, digs_itoa, show -z = ((z.natAbs : Nat) : Int) by omega, Lib.itoa_nonneg]))
      rw [hd, ← HR.out] at HP
      clear t1 t2 h1 h2 hd h0 hn
      go_enter Tryz.func177, Tryz.ntmps177
      go_wp2_with fail
      refine HP.out.mono ?_
      rintro e w1 ⟨rfl, rfl⟩
      go_wp2_with fail
      go_ret
      exact ⟨rfl, rfl⟩
    · have hd : decide ((Lib.itoa z).head? = some 45) = false := by rw [decide_eq_false_iff_not]; exact fun h => hn ((itoa_head z).1 h)
      have HR := hide (show r = ⟨#[45]⟩ ++ s from bytes_eq (by
        rw [h2, show -z = -((z.natAbs : Nat) : Int) by omega, Lib.itoa_neg _ (by omega), ByteArray.data_append, Array.toList_append, h1, show z = ((z.natAbs : Nat) : Int) by omega, Lib.itoa_nonneg, Int.natAbs_natCast]
        rfl))
      have hv : (9223372036854775807 < 1 + s.size) = False := eq_false (by omega)
      rw [hd] at HP
      obtain ⟨o, ho⟩ : ∃ o, o = strB (digs (Lib.itoa z)) := ⟨_, rfl⟩
      rw [← ho] at HP
      clear t1 t2 h1 h2 hd h0 hn ho
      go_enter Tryz.func177, Tryz.ntmps177
      go_wp2_with fail
      refine HP.out.mono ?_
      rintro e w1 ⟨rfl, rfl⟩
      go_wp2_with fail
      go_ret
      rw [HR.out]
      exact ⟨rfl, rfl⟩
end Go.Proofs.YtklgpilgalfckaaGreatDoor
