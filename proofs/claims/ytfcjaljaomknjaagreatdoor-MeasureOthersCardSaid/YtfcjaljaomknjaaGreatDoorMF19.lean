/-
  Texts laid together.
-/
import Derived.Test.YtfcjaljaomknjaaGreatDoorMF16
import Derived.Test.YtfcjaljaomknjaaGreatDoorMF17
import Derived.Test.YtfcjaljaomknjaaGreatDoorMF18
set_option maxRecDepth 100000
set_option maxHeartbeats 8000000
namespace Go.Proofs.YtfcjaljaomknjaaGreatDoor
open Go.RowKit Go.KP Go.KI Go.Shelf
attribute [local go_sem] Oper.semAt_some

theorem alnum_iff {c : UInt8} : alnum c = true ↔ (97 ≤ c.toNat ∧ c.toNat ≤ 122) ∨ (65 ≤ c.toNat ∧ c.toNat ≤ 90) ∨ (48 ≤ c.toNat ∧ c.toNat ≤ 57) := by
  unfold alnum
  simp only [Bool.or_eq_true, Bool.and_eq_true, decide_eq_true_eq, or_assoc]
theorem take_all {l : List UInt8} {k : Nat} {c : UInt8} (h : (l.take k).all alnum = true) (hc : l[k]? = some c) (ha : alnum c = true) : (l.take (k + 1)).all alnum = true := by
  rw [List.take_add_one, hc, List.all_append, h]
  simp [ha]
theorem name_bad {l : List UInt8} {k : Nat} {c : UInt8} (hc : l[k]? = some c) (ha : alnum c = false) : nameL l = false := by
  have : l.all alnum = false := by
    apply Bool.eq_false_iff.2
    intro h
    have := List.all_eq_true.1 h c (List.mem_of_getElem? hc)
    rw [ha] at this
    cases this
  unfold nameL
  rw [this]
  rfl
theorem m7IsName_any (s : ByteArray) (hs : s.size ≤ 1000000) (w : World) :
    Calls Tryz.prog 23 #[.string s] w (Ret w (.bool (nameL s.data.toList))) := by
  obtain ⟨R, hR⟩ : ∃ R, R = nameL s.data.toList := ⟨_, rfl⟩
  rw [← hR]
  have HR := hide hR
  clear hR
  go_enter Tryz.func23, Tryz.ntmps23
  go_wp2_with fail
  go_loopw [3] (fun i wr => ∃ k : Nat, k ≤ s.size ∧ i = .int .i64 k ∧ Hid ((s.data.toList.take k).all alnum = true) ∧ wr = w) (fun i _ => s.size - (intOf i).toNat)
  case atStart => exact ⟨0, by omega, rfl, hide rfl, by first | rfl | trivial⟩
  case round =>
    obtain ⟨k, hkL, rfl, HA, rfl⟩ := hrel
    have hk0 : (0 : Int) ≤ (k : Int) := by omega
    by_cases hlt : k < s.size
    · have hki : (k : Int) < (s.size : Int) := by omega
      obtain ⟨c, hc⟩ : ∃ c, s[k]'hlt = c := ⟨_, rfl⟩
      have hat : s.data.toList[k]? = some c := by
        have h3 : s.data.toList[k]? = some s.data[k] := by simp
        rw [h3]
        exact congrArg some hc
      have HAT := hide hat
      obtain ⟨y, hyv⟩ : ∃ y : Nat, y = c.toNat := ⟨_, rfl⟩
      have hyv2 : (s[k]'hlt).toNat = y := by rw [hc, hyv]
      have HY := hide hyv
      clear hat hc hyv
      rcases (show y < 48 ∨ (48 ≤ y ∧ y ≤ 57) ∨ (58 ≤ y ∧ y ≤ 64) ∨ (65 ≤ y ∧ y ≤ 90) ∨ (91 ≤ y ∧ y ≤ 96) ∨ (97 ≤ y ∧ y ≤ 122) ∨ 123 ≤ y by omega) with v | v | v | v | v | v | v
      · have ha : alnum c = false := by
          rw [Bool.eq_false_iff, Ne, alnum_iff, ← HY.out]
          omega
        have q0 : ((y : Int) < 97) = True := by exact eq_true (by omega)
        have q1 : ((122 : Int) < (y : Int)) = False := by exact eq_false (by omega)
        have q2 : ((y : Int) < 65) = True := by exact eq_true (by omega)
        have q3 : ((90 : Int) < (y : Int)) = False := by exact eq_false (by omega)
        have q4 : ((y : Int) < 48) = True := by exact eq_true (by omega)
        have q5 : ((57 : Int) < (y : Int)) = False := by exact eq_false (by omega)
        have hf : R = false := by rw [HR.out]; exact name_bad HAT.out ha
        subst hf
        clear v ha
        go_wp2_with fail
        go_ret
        exact ⟨rfl, Below.refl _ _⟩
      · have ha : alnum c = true := by
          rw [alnum_iff, ← HY.out]
          omega
        have q0 : ((y : Int) < 97) = True := by exact eq_true (by omega)
        have q1 : ((122 : Int) < (y : Int)) = False := by exact eq_false (by omega)
        have q2 : ((y : Int) < 65) = True := by exact eq_true (by omega)
        have q3 : ((90 : Int) < (y : Int)) = False := by exact eq_false (by omega)
        have q4 : ((y : Int) < 48) = False := by exact eq_false (by omega)
        have q5 : ((57 : Int) < (y : Int)) = False := by exact eq_false (by omega)
        have HN := hide (take_all HA.out HAT.out ha)
        clear v ha
        go_wp2_with fail
        go_roundw
        case rel => exact ⟨k + 1, by omega, by go_num, HN, by first | rfl | trivial⟩
        case measure => simp [intOf]; omega
      · have ha : alnum c = false := by
          rw [Bool.eq_false_iff, Ne, alnum_iff, ← HY.out]
          omega
        have q0 : ((y : Int) < 97) = True := by exact eq_true (by omega)
        have q1 : ((122 : Int) < (y : Int)) = False := by exact eq_false (by omega)
        have q2 : ((y : Int) < 65) = True := by exact eq_true (by omega)
        have q3 : ((90 : Int) < (y : Int)) = False := by exact eq_false (by omega)
        have q4 : ((y : Int) < 48) = False := by exact eq_false (by omega)
        have q5 : ((57 : Int) < (y : Int)) = True := by exact eq_true (by omega)
        have hf : R = false := by rw [HR.out]; exact name_bad HAT.out ha
        subst hf
        clear v ha
        go_wp2_with fail
        go_ret
        exact ⟨rfl, Below.refl _ _⟩
      · have ha : alnum c = true := by
          rw [alnum_iff, ← HY.out]
          omega
        have q0 : ((y : Int) < 97) = True := by exact eq_true (by omega)
        have q1 : ((122 : Int) < (y : Int)) = False := by exact eq_false (by omega)
        have q2 : ((y : Int) < 65) = False := by exact eq_false (by omega)
        have q3 : ((90 : Int) < (y : Int)) = False := by exact eq_false (by omega)
        have q4 : ((y : Int) < 48) = False := by exact eq_false (by omega)
        have q5 : ((57 : Int) < (y : Int)) = True := by exact eq_true (by omega)
        have HN := hide (take_all HA.out HAT.out ha)
        clear v ha
        go_wp2_with fail
        go_roundw
        case rel => exact ⟨k + 1, by omega, by go_num, HN, by first | rfl | trivial⟩
        case measure => simp [intOf]; omega
      · have ha : alnum c = false := by
          rw [Bool.eq_false_iff, Ne, alnum_iff, ← HY.out]
          omega
        have q0 : ((y : Int) < 97) = True := by exact eq_true (by omega)
        have q1 : ((122 : Int) < (y : Int)) = False := by exact eq_false (by omega)
        have q2 : ((y : Int) < 65) = False := by exact eq_false (by omega)
        have q3 : ((90 : Int) < (y : Int)) = True := by exact eq_true (by omega)
        have q4 : ((y : Int) < 48) = False := by exact eq_false (by omega)
        have q5 : ((57 : Int) < (y : Int)) = True := by exact eq_true (by omega)
        have hf : R = false := by rw [HR.out]; exact name_bad HAT.out ha
        subst hf
        clear v ha
        go_wp2_with fail
        go_ret
        exact ⟨rfl, Below.refl _ _⟩
      · have ha : alnum c = true := by
          rw [alnum_iff, ← HY.out]
          omega
        have q0 : ((y : Int) < 97) = False := by exact eq_false (by omega)
        have q1 : ((122 : Int) < (y : Int)) = False := by exact eq_false (by omega)
        have q2 : ((y : Int) < 65) = False := by exact eq_false (by omega)
        have q3 : ((90 : Int) < (y : Int)) = True := by exact eq_true (by omega)
        have q4 : ((y : Int) < 48) = False := by exact eq_false (by omega)
        have q5 : ((57 : Int) < (y : Int)) = True := by exact eq_true (by omega)
        have HN := hide (take_all HA.out HAT.out ha)
        clear v ha
        go_wp2_with fail
        go_roundw
        case rel => exact ⟨k + 1, by omega, by go_num, HN, by first | rfl | trivial⟩
        case measure => simp [intOf]; omega
      · have ha : alnum c = false := by
          rw [Bool.eq_false_iff, Ne, alnum_iff, ← HY.out]
          omega
        have q0 : ((y : Int) < 97) = False := by exact eq_false (by omega)
        have q1 : ((122 : Int) < (y : Int)) = True := by exact eq_true (by omega)
        have q2 : ((y : Int) < 65) = False := by exact eq_false (by omega)
        have q3 : ((90 : Int) < (y : Int)) = True := by exact eq_true (by omega)
        have q4 : ((y : Int) < 48) = False := by exact eq_false (by omega)
        have q5 : ((57 : Int) < (y : Int)) = True := by exact eq_true (by omega)
        have hf : R = false := by rw [HR.out]; exact name_bad HAT.out ha
        subst hf
        clear v ha
        go_wp2_with fail
        go_ret
        exact ⟨rfl, Below.refl _ _⟩
    · have hki : ((k : Int) < (s.size : Int)) = False := eq_false (by omega)
      have hall : s.data.toList.all alnum = true := by
        have := HA.out
        rwa [List.take_of_length_le (by rw [bytes_len]; omega)] at this
      have hv : R = (!s.data.toList.isEmpty && decide (s.size ≤ 16)) := by
        rw [HR.out]
        unfold nameL
        rw [hall, bytes_len]
        rfl
      have hem : s.data.toList.isEmpty = decide (s.size = 0) := by
        rw [← bytes_len]
        cases s.data.toList <;> simp
      rw [hem] at hv
      clear hall hem
      by_cases z : s.size = 0
      · have hf : R = false := by rw [hv]; simp [z]
        subst hf
        have z0 : (0 < s.size) = False := eq_false (by omega)
        have z00 : decide (0 < s.size) = false := decide_eq_false (by omega)
        clear hv z hlt
        go_wp2_with fail
        go_ret
        exact ⟨rfl, Below.refl _ _⟩
      · have z0 : (0 : Int) < (s.size : Int) := by omega
        by_cases z16 : s.size ≤ 16
        · have hf : R = true := by rw [hv]; simp [z, z16]
          subst hf
          have z1 : (s.size : Int) ≤ 16 := by omega
          clear hv hlt
          go_wp2_with fail
          go_ret
          exact ⟨rfl, Below.refl _ _⟩
        · have hf : R = false := by rw [hv]; simp [z16]
          subst hf
          have z1 : decide ((s.size : Int) ≤ 16) = false := decide_eq_false (by omega)
          clear hv hlt
          go_wp2_with fail
          go_ret
          exact ⟨rfl, Below.refl _ _⟩
open Go.RowKit Go.KP Go.KI Go.Shelf
attribute [local go_sem] Oper.semAt_some

theorem mIsName_any (s : ByteArray) (hs : s.size ≤ 1000000) (w : World) :
    Calls Tryz.prog 22 #[.string s] w (Ret w (.bool (nameL s.data.toList))) := by
  obtain ⟨R, hR⟩ : ∃ R, R = nameL s.data.toList := ⟨_, rfl⟩
  rw [← hR]
  have HR := hide hR
  clear hR
  go_enter Tryz.func22, Tryz.ntmps22
  go_wp2_with fail
  go_loopw [7] (fun i wr => ∃ k : Nat, k ≤ s.size ∧ i = .int .i64 k ∧ Hid ((s.data.toList.take k).all alnum = true) ∧ wr = w) (fun i _ => s.size - (intOf i).toNat)
  case atStart => exact ⟨0, by omega, rfl, hide rfl, by first | rfl | trivial⟩
  case round =>
    obtain ⟨k, hkL, rfl, HA, rfl⟩ := hrel
    have hk0 : (0 : Int) ≤ (k : Int) := by omega
    by_cases hlt : k < s.size
    · have hki : (k : Int) < (s.size : Int) := by omega
      obtain ⟨c, hc⟩ : ∃ c, s[k]'hlt = c := ⟨_, rfl⟩
      have hat : s.data.toList[k]? = some c := by
        have h3 : s.data.toList[k]? = some s.data[k] := by simp
        rw [h3]
        exact congrArg some hc
      have HAT := hide hat
      obtain ⟨y, hyv⟩ : ∃ y : Nat, y = c.toNat := ⟨_, rfl⟩
      have hyv2 : (s[k]'hlt).toNat = y := by rw [hc, hyv]
      have HY := hide hyv
      clear hat hc hyv
      rcases (show y < 48 ∨ (48 ≤ y ∧ y ≤ 57) ∨ (58 ≤ y ∧ y ≤ 64) ∨ (65 ≤ y ∧ y ≤ 90) ∨ (91 ≤ y ∧ y ≤ 96) ∨ (97 ≤ y ∧ y ≤ 122) ∨ 123 ≤ y by omega) with v | v | v | v | v | v | v
      · have ha : alnum c = false := by
          rw [Bool.eq_false_iff, Ne, alnum_iff, ← HY.out]
          omega
        have q0 : ((y : Int) < 97) = True := by exact eq_true (by omega)
        have q1 : ((122 : Int) < (y : Int)) = False := by exact eq_false (by omega)
        have q2 : ((y : Int) < 65) = True := by exact eq_true (by omega)
        have q3 : ((90 : Int) < (y : Int)) = False := by exact eq_false (by omega)
        have q4 : ((y : Int) < 48) = True := by exact eq_true (by omega)
        have q5 : ((57 : Int) < (y : Int)) = False := by exact eq_false (by omega)
        have hf : R = false := by rw [HR.out]; exact name_bad HAT.out ha
        subst hf
        clear v ha
        go_wp2_with fail
        go_ret
        exact ⟨rfl, Below.refl _ _⟩
      · have ha : alnum c = true := by
          rw [alnum_iff, ← HY.out]
          omega
        have q0 : ((y : Int) < 97) = True := by exact eq_true (by omega)
        have q1 : ((122 : Int) < (y : Int)) = False := by exact eq_false (by omega)
        have q2 : ((y : Int) < 65) = True := by exact eq_true (by omega)
        have q3 : ((90 : Int) < (y : Int)) = False := by exact eq_false (by omega)
        have q4 : ((y : Int) < 48) = False := by exact eq_false (by omega)
        have q5 : ((57 : Int) < (y : Int)) = False := by exact eq_false (by omega)
        have HN := hide (take_all HA.out HAT.out ha)
        clear v ha
        go_wp2_with fail
        go_roundw
        case rel => exact ⟨k + 1, by omega, by go_num, HN, by first | rfl | trivial⟩
        case measure => simp [intOf]; omega
      · have ha : alnum c = false := by
          rw [Bool.eq_false_iff, Ne, alnum_iff, ← HY.out]
          omega
        have q0 : ((y : Int) < 97) = True := by exact eq_true (by omega)
        have q1 : ((122 : Int) < (y : Int)) = False := by exact eq_false (by omega)
        have q2 : ((y : Int) < 65) = True := by exact eq_true (by omega)
        have q3 : ((90 : Int) < (y : Int)) = False := by exact eq_false (by omega)
        have q4 : ((y : Int) < 48) = False := by exact eq_false (by omega)
        have q5 : ((57 : Int) < (y : Int)) = True := by exact eq_true (by omega)
        have hf : R = false := by rw [HR.out]; exact name_bad HAT.out ha
        subst hf
        clear v ha
        go_wp2_with fail
        go_ret
        exact ⟨rfl, Below.refl _ _⟩
      · have ha : alnum c = true := by
          rw [alnum_iff, ← HY.out]
          omega
        have q0 : ((y : Int) < 97) = True := by exact eq_true (by omega)
        have q1 : ((122 : Int) < (y : Int)) = False := by exact eq_false (by omega)
        have q2 : ((y : Int) < 65) = False := by exact eq_false (by omega)
        have q3 : ((90 : Int) < (y : Int)) = False := by exact eq_false (by omega)
        have q4 : ((y : Int) < 48) = False := by exact eq_false (by omega)
        have q5 : ((57 : Int) < (y : Int)) = True := by exact eq_true (by omega)
        have HN := hide (take_all HA.out HAT.out ha)
        clear v ha
        go_wp2_with fail
        go_roundw
        case rel => exact ⟨k + 1, by omega, by go_num, HN, by first | rfl | trivial⟩
        case measure => simp [intOf]; omega
      · have ha : alnum c = false := by
          rw [Bool.eq_false_iff, Ne, alnum_iff, ← HY.out]
          omega
        have q0 : ((y : Int) < 97) = True := by exact eq_true (by omega)
        have q1 : ((122 : Int) < (y : Int)) = False := by exact eq_false (by omega)
        have q2 : ((y : Int) < 65) = False := by exact eq_false (by omega)
        have q3 : ((90 : Int) < (y : Int)) = True := by exact eq_true (by omega)
        have q4 : ((y : Int) < 48) = False := by exact eq_false (by omega)
        have q5 : ((57 : Int) < (y : Int)) = True := by exact eq_true (by omega)
        have hf : R = false := by rw [HR.out]; exact name_bad HAT.out ha
        subst hf
        clear v ha
        go_wp2_with fail
        go_ret
        exact ⟨rfl, Below.refl _ _⟩
      · have ha : alnum c = true := by
          rw [alnum_iff, ← HY.out]
          omega
        have q0 : ((y : Int) < 97) = False := by exact eq_false (by omega)
        have q1 : ((122 : Int) < (y : Int)) = False := by exact eq_false (by omega)
        have q2 : ((y : Int) < 65) = False := by exact eq_false (by omega)
        have q3 : ((90 : Int) < (y : Int)) = True := by exact eq_true (by omega)
        have q4 : ((y : Int) < 48) = False := by exact eq_false (by omega)
        have q5 : ((57 : Int) < (y : Int)) = True := by exact eq_true (by omega)
        have HN := hide (take_all HA.out HAT.out ha)
        clear v ha
        go_wp2_with fail
        go_roundw
        case rel => exact ⟨k + 1, by omega, by go_num, HN, by first | rfl | trivial⟩
        case measure => simp [intOf]; omega
      · have ha : alnum c = false := by
          rw [Bool.eq_false_iff, Ne, alnum_iff, ← HY.out]
          omega
        have q0 : ((y : Int) < 97) = False := by exact eq_false (by omega)
        have q1 : ((122 : Int) < (y : Int)) = True := by exact eq_true (by omega)
        have q2 : ((y : Int) < 65) = False := by exact eq_false (by omega)
        have q3 : ((90 : Int) < (y : Int)) = True := by exact eq_true (by omega)
        have q4 : ((y : Int) < 48) = False := by exact eq_false (by omega)
        have q5 : ((57 : Int) < (y : Int)) = True := by exact eq_true (by omega)
        have hf : R = false := by rw [HR.out]; exact name_bad HAT.out ha
        subst hf
        clear v ha
        go_wp2_with fail
        go_ret
        exact ⟨rfl, Below.refl _ _⟩
    · have hki : ((k : Int) < (s.size : Int)) = False := eq_false (by omega)
      have hall : s.data.toList.all alnum = true := by
        have := HA.out
        rwa [List.take_of_length_le (by rw [bytes_len]; omega)] at this
      have hv : R = (!s.data.toList.isEmpty && decide (s.size ≤ 16)) := by
        rw [HR.out]
        unfold nameL
        rw [hall, bytes_len]
        rfl
      have hem : s.data.toList.isEmpty = decide (s.size = 0) := by
        rw [← bytes_len]
        cases s.data.toList <;> simp
      rw [hem] at hv
      clear hall hem
      by_cases z : s.size = 0
      · have hf : R = false := by rw [hv]; simp [z]
        subst hf
        have z0 : (0 < s.size) = False := eq_false (by omega)
        have z00 : decide (0 < s.size) = false := decide_eq_false (by omega)
        have e0 : s.toList = [] := by rw [ByteArray.toList_eq]; exact List.length_eq_zero_iff.1 (by rw [bytes_len]; exact z)
        have e1 : (s.toList == []) = true := by rw [e0]; rfl
        have e2 : (s.toList != []) = false := by rw [e0]; rfl
        clear e0
        clear hv z hlt
        go_wp2_with fail
        go_ret
        exact ⟨rfl, Below.refl _ _⟩
      · have z0 : (0 : Int) < (s.size : Int) := by omega
        have e1 : (s.toList == []) = false := by
          rw [ByteArray.toList_eq]
          exact beq_false_of_ne fun e => by
            have : s.data.toList.length = 0 := by rw [e]; rfl
            rw [bytes_len] at this
            exact z this
        have e2 : (s.toList != []) = true := by simp only [bne, e1]; rfl
        by_cases z16 : s.size ≤ 16
        · have hf : R = true := by rw [hv]; simp [z, z16]
          subst hf
          have z1 : (s.size : Int) ≤ 16 := by omega
          clear hv hlt
          go_wp2_with fail
          go_ret
          exact ⟨rfl, Below.refl _ _⟩
        · have hf : R = false := by rw [hv]; simp [z16]
          subst hf
          have z1 : decide ((s.size : Int) ≤ 16) = false := decide_eq_false (by omega)
          clear hv hlt
          go_wp2_with fail
          go_ret
          exact ⟨rfl, Below.refl _ _⟩
end Go.Proofs.YtfcjaljaomknjaaGreatDoor
namespace Go.KI
open Go
theorem dec_lit {l : List UInt8} (h0 : l ≠ []) (hd : ∀ c ∈ l, isDg c = true) (h1 : 1 < l.length → l.head? ≠ some 48) {u : Nat} (hu : dv l = u) : Lib.decDigits u = l := by
  rw [← hu]
  exact (dec_of h0 hd h1).symm
theorem sz_90 {q : Rat} (h : sz 90 q) : fitsQ q := sz_fits h (by rw [most_eq]; omega)
theorem chkM_short {q : Rat} (h : sz 90 q) : chkM (ratS q) = 0 := by
  unfold chkM
  rw [ratS_num, if_neg (by simp [chkQ_fits (sz_90 h)]), if_neg]
  have h1 := (dec_len_le (u := q.num.natAbs) (n := 90) (by omega)).2 h.1
  have h2 := (dec_len_le (u := q.den) (n := 90) (by omega)).2 h.2
  omega
end Go.KI
namespace Go.Proofs.YtfcjaljaomknjaaGreatDoor
open Go.RowKit Go.KP Go.KI Go.Shelf
attribute [local go_sem] Oper.semAt_some

theorem chkP_short {q : Rat} (h : sz 90 q) {p : Nat} (hp : p ≤ 100) : chkP (ratS q) (p : Int) = 0 := by
  unfold chkP
  rw [if_neg (by simp [chkM_short h]), if_neg (by omega)]
theorem mPrint_to {s : ByteArray} {q : Rat} {p : Nat} (h : s.data.toList = ratS q) (f : sz 90 q) (hp : p ≤ 100) (B : Nat) (w : World) (hB : B ≤ w.heap.size) (hT : PQ B w) :
    Calls Tryz.prog 9 #[.string s, .int .i64 p] w (Ret w (.tuple #[.string (strB (decT (unitsP q p) p)), .int .i64 0])) := by
  have h1 := mPrint_any s (good_len h (sz_90 f)) (p : Int) B w hB hT
  unfold printS at h1
  rw [h, chkP_short f hp, if_pos rfl, ratS_num, Int.toNat_natCast] at h1
  exact h1
theorem mFeet_to {s : ByteArray} {q : Rat} (h : s.data.toList = ratS q) (f : sz 90 q) (B : Nat) (w : World) (hB : B ≤ w.heap.size) (hT : PQ B w) :
    Calls Tryz.prog 15 #[.string s] w (Ret w (.tuple #[.string (strB (feetT (twelfths q))), .int .i64 0])) := by
  have h1 := mFeet_any s (good_len h (sz_90 f)) B w hB hT
  unfold feetS at h1
  rw [h, chkM_short f, if_pos rfl, ratS_num] at h1
  exact h1
theorem mParseFeet_to {s : ByteArray} {q : Rat} (h1 : feetOK s.data.toList) (hl : s.size ≤ 90) (h2 : feetQ s.data.toList = q) (B : Nat) (w : World) (hB : B ≤ w.heap.size) (hT : PQ B w) :
    Calls Tryz.prog 17 #[.string s] w (Ret w (.tuple #[.string (strB (ratS q)), .int .i64 0])) := by
  have h := mParseFeet_any s B w hB hT
  have e : feetE s.data.toList = 0 := by unfold feetE; rw [bytes_len, if_neg (by omega), if_pos h1]
  unfold feetR at h
  rw [e, if_pos rfl, h2] at h
  exact h
abbrev q52 : Rat := ⟨5, 2, by decide, by decide⟩
abbrev qm52 : Rat := ⟨-5, 2, by decide, by decide⟩
abbrev q13 : Rat := ⟨1, 3, by decide, by decide⟩
abbrev q1275 : Rat := ⟨127, 5, by decide, by decide⟩
theorem dig1 (u : Nat) (h : u < 10) : Lib.decDigits u = [UInt8.ofNat (48 + u)] := Lib.decDigits_one h
theorem t52 : (⟨#[53, 47, 50]⟩ : ByteArray).data.toList = ratS q52 := by
  unfold ratS
  rw [if_neg (by decide), show q52.num = ((5 : Nat) : Int) from rfl, Lib.itoa_nonneg, dig1 5 (by omega), show q52.den = 2 from rfl, dig1 2 (by omega)]
  rfl
theorem tm52 : (⟨#[45, 53, 47, 50]⟩ : ByteArray).data.toList = ratS qm52 := by
  unfold ratS
  rw [if_neg (by decide), show qm52.num = -((5 : Nat) : Int) from rfl, Lib.itoa_neg 5 (by omega), dig1 5 (by omega), show qm52.den = 2 from rfl, dig1 2 (by omega)]
  rfl
theorem t13 : (⟨#[49, 47, 51]⟩ : ByteArray).data.toList = ratS q13 := by
  unfold ratS
  rw [if_neg (by decide), show q13.num = ((1 : Nat) : Int) from rfl, Lib.itoa_nonneg, dig1 1 (by omega), show q13.den = 3 from rfl, dig1 3 (by omega)]
  rfl
theorem t1275 : (⟨#[49, 50, 55, 47, 53]⟩ : ByteArray).data.toList = ratS q1275 := by
  unfold ratS
  rw [if_neg (by decide), show q1275.num = ((127 : Nat) : Int) from rfl, Lib.itoa_nonneg, dec_lit (l := [49, 50, 55]) (by decide) (by decide) (by decide) (u := 127) rfl, show q1275.den = 5 from rfl, dig1 5 (by omega)]
  rfl
theorem t1000 : (⟨#[49, 48, 48, 48]⟩ : ByteArray).data.toList = ratS ((1000 : Nat) : Rat) := by
  rw [ratS_nat, dec_lit (l := [49, 48, 48, 48]) (by decide) (by decide) (by decide) (u := 1000) rfl]
theorem p52 : strB (decT (unitsP q52 0) 0) = ⟨#[51]⟩ := by
  rw [show unitsP q52 0 = 3 from by decide]
  unfold decT
  rw [if_neg (by decide), if_pos rfl, show (3 : Int).natAbs = 3 from rfl, dig1 3 (by omega)]
  rfl
theorem pm52 : strB (decT (unitsP qm52 0) 0) = ⟨#[45, 50]⟩ := by
  rw [show unitsP qm52 0 = -2 from by decide]
  unfold decT
  rw [if_pos (by decide), if_pos rfl, show (-2 : Int).natAbs = 2 from rfl, dig1 2 (by omega)]
  rfl
theorem p13 : strB (decT (unitsP q13 2) 2) = ⟨#[48, 46, 51, 51]⟩ := by
  rw [show unitsP q13 2 = 33 from by decide]
  unfold decT own
  rw [show (33 : Int).natAbs = 33 from rfl, dec_lit (l := [51, 51]) (by decide) (by decide) (by decide) (u := 33) rfl, if_neg (by decide), if_neg (by decide)]
  rfl
theorem f1000 : strB (feetT (twelfths ((1000 : Nat) : Rat))) = ⟨#[51, 39, 51, 34, 52]⟩ := by
  rw [show twelfths ((1000 : Nat) : Rat) = 472 from by decide]
  unfold feetT
  rw [show (472 : Int).natAbs = 472 from rfl, dig1 (472 / 144) (by omega), dig1 (472 % 144 % 12) (by omega)]
  rfl
theorem f010 : feetOK (⟨#[48, 39, 49, 34, 48]⟩ : ByteArray).data.toList := by
  show feetOK [48, 39, 49, 34, 48]
  decide
theorem fq010 : feetQ (⟨#[48, 39, 49, 34, 48]⟩ : ByteArray).data.toList = q1275 := by
  show feetQ [48, 39, 49, 34, 48] = q1275
  decide +kernel
theorem mx4 (w : World) : (Builtin.max_ #[25, 25, 25, 25] 25 #[.int .i64 0, .int .i64 0, .int .i64 0, .int .i64 0]).run Tryz.prog w = .ok (.int .i64 0) w := by kernel_rfl
theorem mawake_any (B : Nat) (w : World) (hB : B ≤ w.heap.size) (hT : PQ B w) :
    Calls Tryz.prog 8 #[] w (Ret w (.bool true)) := by
  have HT := hide hT
  have H1 := hide (mPrint_to t52 (by exact ⟨by decide +kernel, by decide +kernel⟩) (p := 0) (by omega) B w hB hT)
  rw [p52] at H1
  have H2 := hide (fun w hB hT => mPrint_to tm52 (by exact ⟨by decide +kernel, by decide +kernel⟩) (p := 0) (by omega) B w hB hT)
  rw [pm52] at H2
  have H3 := hide (fun w hB hT => mPrint_to t13 (by exact ⟨by decide +kernel, by decide +kernel⟩) (p := 2) (by omega) B w hB hT)
  rw [p13] at H3
  have H4 := hide (fun w hB hT => mFeet_to t1000 (by exact sz_nat (by decide +kernel) (by omega)) B w hB hT)
  rw [f1000] at H4
  have H5 := hide (fun w hB hT => mParseFeet_to f010 (by decide) fq010 B w hB hT)
  rw [show strB (ratS q1275) = ⟨#[49, 50, 55, 47, 53]⟩ by rw [← t1275]; rfl] at H5
  have hmx := mx4
  clear hT
  go_enter Tryz.func8, Tryz.ntmps8
  go_wp2_with fail
  refine H1.out.mono ?_
  rintro e w1 ⟨rfl, hb1⟩
  have HB1 := hide hb1
  clear hb1
  go_wp2_with fail
  refine (H2.out _ (Nat.le_trans hB HB1.out.size) (HT.out.on HB1.out hB)).mono ?_
  rintro e w2 ⟨rfl, hb2⟩
  have HB2 := hide (HB1.out.trans (hb2.mono HB1.out.size))
  clear hb2
  go_wp2_with fail
  refine (H3.out _ (Nat.le_trans hB HB2.out.size) (HT.out.on HB2.out hB)).mono ?_
  rintro e w3 ⟨rfl, hb3⟩
  have HB3 := hide (HB2.out.trans (hb3.mono HB2.out.size))
  clear hb3
  go_wp2_with fail
  refine (H4.out _ (Nat.le_trans hB HB3.out.size) (HT.out.on HB3.out hB)).mono ?_
  rintro e w4 ⟨rfl, hb4⟩
  have HB4 := hide (HB3.out.trans (hb4.mono HB3.out.size))
  clear hb4
  go_wp2_with fail
  refine (H5.out _ (Nat.le_trans hB HB4.out.size) (HT.out.on HB4.out hB)).mono ?_
  rintro e w5 ⟨rfl, hb5⟩
  have HB5 := hide (HB4.out.trans (hb5.mono HB4.out.size))
  clear hb5
  go_wp2_with fail
  go_ret
  exact ⟨rfl, HB5.out⟩
def fineQ (l : List UInt8) : Prop := l.length ≤ 30 ∧ chkQ l = 0
instance (l : List UInt8) : Decidable (fineQ l) := inferInstanceAs (Decidable (_ ∧ _))
open Go.RowKit Go.KP Go.KI Go.Shelf
attribute [local go_sem] Oper.semAt_some

def greatM (s : ByteArray) : Bool := decide ((40 < s.size ∧ chkM s.data.toList = 0) ∨ 330 < s.size)
theorem greatM_no {s : ByteArray} (h : greatM s = false) : s.size ≤ 330 := by
  unfold greatM at h
  have := of_decide_eq_false h
  omega
theorem m7Great_any (s : ByteArray) (hss : s.size ≤ 9223372036854775807) (B : Nat) (w : World) (hB : B ≤ w.heap.size) (hT : PQ B w) :
    Calls Tryz.prog 7 #[.string s] w (Ret w (.bool (greatM s))) := by
  have HC := hide (m7check_any s hss B w hB hT)
  clear hT
  obtain ⟨g, hg⟩ : ∃ g, g = greatM s := ⟨_, rfl⟩
  rw [← hg]
  unfold greatM at hg
  obtain ⟨c, hc⟩ : ∃ c, c = chkM s.data.toList := ⟨_, rfl⟩
  rw [← hc] at hg HC
  clear hc
  by_cases h40 : 40 < s.size
  · have m40 : (40 : Int) < (s.size : Int) := by omega
    by_cases hc : c = 0
    · have hg1 : g = true := by rw [hg]; exact decide_eq_true (.inl ⟨h40, hc⟩)
      subst hg1
      have t0 : (c == 0) = true := by rw [hc]; rfl
      clear hg hc
      go_enter Tryz.func7, Tryz.ntmps7
      go_wp2_with fail
      refine HC.out.mono ?_
      rintro e w1 ⟨rfl, hb1⟩
      have HB1 := hide hb1
      clear hb1
      go_wp2_with fail
      refine bodyPost_ret (results_tmp rfl _ _ _) rfl ?_
      exact ⟨rfl, HB1.out⟩
    · have t0 : (c == 0) = false := beq_false_of_ne hc
      by_cases h3 : 330 < s.size
      · have hg1 : g = true := by rw [hg]; exact decide_eq_true (.inr h3)
        subst hg1
        have m3 : (330 : Int) < (s.size : Int) := by omega
        clear hg hc
        go_enter Tryz.func7, Tryz.ntmps7
        go_wp2_with fail
        refine HC.out.mono ?_
        rintro e w1 ⟨rfl, hb1⟩
        have HB1 := hide hb1
        clear hb1
        go_wp2_with fail
        refine bodyPost_ret (results_tmp rfl _ _ _) rfl ?_
        exact ⟨rfl, HB1.out⟩
      · have hg1 : g = false := by rw [hg]; exact decide_eq_false (fun h => by rcases h with ⟨_, h⟩ | h; exact hc h; exact h3 h)
        subst hg1
        have m3 : ((330 : Int) < (s.size : Int)) = False := eq_false (by omega)
        clear hg hc
        go_enter Tryz.func7, Tryz.ntmps7
        go_wp2_with fail
        refine HC.out.mono ?_
        rintro e w1 ⟨rfl, hb1⟩
        have HB1 := hide hb1
        clear hb1
        go_wp2_with fail
        refine bodyPost_ret (results_tmp rfl _ _ _) rfl ?_
        exact ⟨rfl, HB1.out⟩
  · have m40 : ((40 : Int) < (s.size : Int)) = False := eq_false (by omega)
    have m3 : ((330 : Int) < (s.size : Int)) = False := eq_false (by omega)
    have hg1 : g = false := by rw [hg]; exact decide_eq_false (fun h => by rcases h with ⟨h, _⟩ | h <;> omega)
    subst hg1
    clear hg
    go_enter Tryz.func7, Tryz.ntmps7
    go_wp2_with fail
    refine bodyPost_ret (results_tmp rfl _ _ _) rfl ?_
    exact ⟨rfl, Below.refl _ _⟩
open Go.RowKit Go.KP Go.KI Go.Shelf
attribute [local go_sem] Oper.semAt_some

theorem m7ParseFeet_long (s : ByteArray) (h : 90 < s.size) (w : World) :
    Calls Tryz.prog 18 #[.string s] w (Ret w (pairV (feetR s.data.toList) (feetE s.data.toList))) := by
  have e : feetE s.data.toList = 4 := by unfold feetE; rw [if_pos (by rw [bytes_len]; exact h)]
  rw [show feetR s.data.toList = [] by unfold feetR; rw [e, if_neg (by decide)], e, pairV_err]
  have hm : (90 : Int) < (s.size : Int) := by omega
  clear e
  go_enter Tryz.func18, Tryz.ntmps18
  go_wp2_with fail
  refine bodyPost_ret (results_tmp2 rfl _ _ _) rfl ?_
  exact ⟨rfl, Below.refl _ _⟩
theorem feet_same {l : List UInt8} (h : feetOK l) : feetM l = rfM (digs l) := by
  obtain ⟨e1, e2, e3, e4⟩ := (feet_ledg l).2 h
  have hok := (feet_ledg l).1.1 h
  unfold feetM rfM
  rw [e1, e3, e4]
  have h7 := hok.2.2.2.2.2.2.1
  obtain ⟨Q, hQ⟩ : ∃ Q, Q = (pdg (pdg (digs l)).tail).tail := ⟨_, rfl⟩
  rw [← hQ] at h7 ⊢
  have hq := ledg_pdg Q
  rw [h7, List.append_nil] at hq
  rw [hq]
  omega
theorem m7ParseFeet_any (s : ByteArray) (B : Nat) (w : World) (hB : B ≤ w.heap.size) (hT : PE B w) :
    Calls Tryz.prog 18 #[.string s] w (Ret w (pairV (feetR s.data.toList) (feetE s.data.toList))) := by
  by_cases h90 : 90 < s.size
  · exact m7ParseFeet_long s h90 w
  obtain ⟨l, hl⟩ : ∃ l, l = s.data.toList := ⟨_, rfl⟩
  have hs : s = strB l := by rw [hl]; rfl
  have hll : l.length ≤ 90 := by rw [hl, bytes_len]; omega
  have he : feetE l = if rfOK (digs l) (isNeg l) then 0 else 3 := by
    unfold feetE
    rw [if_neg (by omega)]
    by_cases h : feetOK l
    · rw [if_pos h, if_pos ((feet_ledg l).1.1 h)]
    · rw [if_neg h, if_neg (fun k => h ((feet_ledg l).1.2 k))]
  have hr : feetR l = if rfOK (digs l) (isNeg l) then ratS (sgn (isNeg l) (((rfM (digs l) : Nat) : Rat) * (127 / 60))) else [] := by
    unfold feetR
    rw [he]
    by_cases h : rfOK (digs l) (isNeg l)
    · rw [if_pos h, if_pos h, if_pos rfl]
      unfold feetQ
      rw [feet_same ((feet_ledg l).1.2 h)]
      congr 2
      rw [Rat.natCast_mul]
      have e1 : ((127 : Nat) : Rat) = 127 := rfl
      have e2 : ((60 : Nat) : Rat) = 60 := rfl
      rw [e1, e2]
      grind
    · rw [if_neg h, if_neg h, if_neg (by decide)]
  rw [← hl, hr, he]
  clear hr he hl
  cases l with
  | nil => exact m7pfeet_p s [] (by simp) hs (.inl rfl) B w hB hT
  | cons c r =>
    subst hs
    obtain ⟨hq, hbq⟩ := head_byte (l := c :: r) rfl
    have hlr : r.length + 1 ≤ 90 := by rw [List.length_cons] at hll; exact hll
    by_cases hc : c = 45
    · subst hc
      rw [show isNeg (45 :: r) = true by simp [isNeg], show digs (45 :: r) = r from rfl]
      exact m7pfeet_n (strB (45 :: r)) r (by omega) hq (by rw [hbq]; rfl) (strB_tail 45 r) (by omega) B w hB hT
    · rw [show isNeg (c :: r) = false by simp [isNeg, hc], show digs (c :: r) = c :: r from if_neg hc]
      refine m7pfeet_p (strB (c :: r)) (c :: r) hll rfl (.inr ⟨hq, ?_⟩) B w hB hT
      rw [hbq]
      have : c.toNat ≠ 45 := fun e => hc (UInt8.toNat_inj.1 e)
      simp only [beq_eq_false_iff_ne, ne_eq]
      omega
theorem SlAt.strs {B : Nat} {w : World} {v : Value} {ws : List (List UInt8)} (h : SlAt B w 1 v ws.length (wcells ws)) :
    ∃ A c, v = .slice A ws.length c ∧ ∀ k, k < ws.length → ∃ b o, A = some ⟨b, o, none⟩ ∧ b < B ∧ w.cell? ⟨b, o + k, none⟩ = some (.string (strB (ws.getD k []))) := by
  rcases h.2 with ⟨a, c, h1, h2⟩ | ⟨b, o, cap, hv, hb, hc⟩
  · exact ⟨a, c, by rw [h1, h2], fun k hk => by omega⟩
  · exact ⟨_, cap, hv, fun k hk => ⟨b, o, rfl, hb, hc _ _ (wcells_at hk)⟩⟩
theorem sameWords_any (ws : List (List UInt8)) (hws : ws.length ≤ 1000000) (u v : Value) (B : Nat) (w : World) (hB : B ≤ w.heap.size) (hu : SlAt B w 1 u ws.length (wcells ws)) (hv : SlAt B w 1 v ws.length (wcells ws)) :
    Calls Tryz.prog 21 #[u, v] w (Ret w (.bool true)) := by
  obtain ⟨A, c, rfl, hA⟩ := SlAt.strs hu
  obtain ⟨A2, c2, rfl, hA2⟩ := SlAt.strs hv
  have HA := hide hA
  have HA2 := hide hA2
  have hnn : (((ws.length : Nat) : Int) == ((ws.length : Nat) : Int)) = true := beq_self_eq_true _
  have hnn2 : (((ws.length : Nat) : Int) != ((ws.length : Nat) : Int)) = false := by simp only [bne, hnn]; rfl
  obtain ⟨n, hn⟩ : ∃ n, n = ws.length := ⟨_, rfl⟩
  have HNN := hide hn
  rw [← hn] at hws hnn hnn2 HA HA2 ⊢
  clear hA hA2 hu hv hn
  go_enter Tryz.func21, Tryz.ntmps21
  go_wp2_with fail
  clear hnn hnn2
  go_loopw [5] (fun i wr => ∃ k : Nat, k ≤ n ∧ i = .int .i64 k ∧ Hid (Below w.heap.size w wr)) (fun i _ => n - (intOf i).toNat)
  case atStart => exact ⟨0, by omega, rfl, Below.refl _ _⟩
  case round =>
    obtain ⟨k, hk, rfl, hb⟩ := hrel
    have hk0 : (0 : Int) ≤ (k : Int) := by omega
    by_cases hlt : k < n
    · obtain ⟨b, o, rfl, hb1, r1⟩ := HA.out k hlt
      obtain ⟨b2, o2, rfl, hb2, r2⟩ := HA2.out k hlt
      have r1 := (hb.out.cell (p := ⟨b, o + k, none⟩) (Nat.lt_of_lt_of_le hb1 hB)).trans r1
      have r2 := (hb.out.cell (p := ⟨b2, o2 + k, none⟩) (Nat.lt_of_lt_of_le hb2 hB)).trans r2
      obtain ⟨x, hx⟩ : ∃ x, x = strB (ws.getD k []) := ⟨_, rfl⟩
      rw [← hx] at r1 r2
      have e1 : (x.toList == x.toList) = true := beq_self_eq_true _
      have e2 : (x.toList != x.toList) = false := by simp only [bne, e1]; rfl
      have hki : (k : Int) < (n : Int) := by omega
      clear hx hb1 hb2
      go_wp2_with fail
      go_quiet (fail)
      have HB2 := hide (below_drewN hb.out nq)
      clear hb e1 e2 r1 r2
      go_wp2_with fail
      go_roundw
      case rel => exact ⟨k + 1, by omega, by go_num, HB2⟩
      case measure => simp [intOf]; omega
    · have hki : ((k : Int) < (n : Int)) = False := eq_false (by omega)
      clear hlt
      go_wp2_with fail
      go_ret
      exact ⟨rfl, hb.out⟩
def wordsX (l : List UInt8) : List (List UInt8) := if wordsE l = 0 then wordsL l else []
theorem words_slat {w : World} {l : List UInt8} {e : Ending} {w2 : World} (h : WordsAt w l e w2) : ∃ v, e = .returned (.tuple #[v, .int .i64 (wordsE l)]) ∧ SlAt w2.heap.size w2 1 v (wordsX l).length (wcells (wordsX l)) ∧ Below w.heap.size w w2 := by
  obtain ⟨v, he, hv, hb⟩ := h
  refine ⟨v, he, ?_, hb⟩
  unfold wordsX
  by_cases h0 : wordsE l = 0
  · rw [if_pos h0] at hv ⊢
    obtain ⟨base, t, ho⟩ := hv
    exact SlAt.of_owns ho
  · rw [if_neg h0] at hv ⊢
    rw [hv]
    exact SlAt.nil _ _ _
theorem wordsX_len (l : List UInt8) : (wordsX l).length ≤ l.length + 1 := by
  unfold wordsX
  split
  · exact words_len l
  · simp
theorem measureOthers_any (a s : ByteArray) (ha : a.size ≤ 9223372036854775807) (B : Nat) (w : World) (hB : B ≤ w.heap.size) (hT : PE B w) :
    Calls Tryz.prog 4 #[.string a, .string s] w (Ret w (.bool true)) := by
  have HT := hide (hT.mono hB)
  clear hT hB B
  have HG := hide (m7Great_any a ha w.heap.size w (Nat.le_refl _) HT.out.pq)
  have HAW := hide (fun w2 (h : Below w.heap.size w w2) => mawake_any w.heap.size w2 h.size (HT.out.on h (Nat.le_refl _)).pq)
  by_cases hg : greatM a = true
  · rw [hg] at HG
    clear hg ha
    go_enter Tryz.func4, Tryz.ntmps4
    go_wp2_with fail
    refine HG.out.mono ?_
    rintro e w1 ⟨rfl, hb1⟩
    have HB1 := hide hb1
    clear hb1
    go_wp2_with fail
    refine (HAW.out _ HB1.out).mono ?_
    rintro e w2 ⟨rfl, hb2⟩
    have HB2 := hide (HB1.out.trans (hb2.mono HB1.out.size))
    clear hb2
    go_wp2_with fail
    refine bodyPost_ret (results_tmp rfl _ _ _) rfl ?_
    exact ⟨rfl, HB2.out⟩
  have hg0 : greatM a = false := by simpa using hg
  rw [hg0] at HG
  have hA : a.size ≤ 330 := greatM_no hg0
  clear hg hg0
  by_cases h1 : 120 < s.size ∧ s.size ≤ 65536
  · have m120 : (120 : Int) < (s.size : Int) := by omega
    have m65 : (s.size : Int) ≤ 65536 := by omega
    clear ha h1
    go_enter Tryz.func4, Tryz.ntmps4
    go_wp2_with fail
    refine HG.out.mono ?_
    rintro e w1 ⟨rfl, hb1⟩
    have HB1 := hide hb1
    clear hb1
    go_wp2_with fail
    refine (HAW.out _ HB1.out).mono ?_
    rintro e w2 ⟨rfl, hb2⟩
    have HB2 := hide (HB1.out.trans (hb2.mono HB1.out.size))
    clear hb2
    go_wp2_with fail
    refine bodyPost_ret (results_tmp rfl _ _ _) rfl ?_
    exact ⟨rfl, HB2.out⟩
  by_cases h2 : 65538 < s.size
  · have m120 : (120 : Int) < (s.size : Int) := by omega
    have m65 : ((s.size : Int) ≤ 65536) = False := eq_false (by omega)
    have m68 : (65538 : Int) < (s.size : Int) := by omega
    clear ha h1 h2
    go_enter Tryz.func4, Tryz.ntmps4
    go_wp2_with fail
    refine HG.out.mono ?_
    rintro e w1 ⟨rfl, hb1⟩
    have HB1 := hide hb1
    clear hb1
    go_wp2_with fail
    refine (HAW.out _ HB1.out).mono ?_
    rintro e w2 ⟨rfl, hb2⟩
    have HB2 := hide (HB1.out.trans (hb2.mono HB1.out.size))
    clear hb2
    go_wp2_with fail
    refine bodyPost_ret (results_tmp rfl _ _ _) rfl ?_
    exact ⟨rfl, HB2.out⟩
  have m68 : ((65538 : Int) < (s.size : Int)) = False := eq_false (by omega)
  have hway : ((120 : Int) < (s.size : Int)) = False ∨ ((120 : Int) < (s.size : Int) ∧ ((s.size : Int) ≤ 65536) = False) := by
    by_cases h : 120 < s.size
    · exact .inr ⟨by omega, eq_false (by omega)⟩
    · exact .inl (eq_false (by omega))
  have hS : s.size ≤ 1000000 := by omega
  have H1 := hide (fun w2 (h : Below w.heap.size w w2) => mFeet_any a (by omega) w.heap.size w2 h.size (HT.out.on h (Nat.le_refl _)).pq)
  have H2 := hide (fun w2 (h : Below w.heap.size w w2) => m7Feet_any a (by omega) w.heap.size w2 h.size (HT.out.on h (Nat.le_refl _)).pq)
  have H3 := hide (fun w2 (h : Below w.heap.size w w2) => mParseFeet_any s w.heap.size w2 h.size (HT.out.on h (Nat.le_refl _)).pq)
  have H4 := hide (fun w2 (h : Below w.heap.size w w2) => m7ParseFeet_any s w.heap.size w2 h.size (HT.out.on h (Nat.le_refl _)))
  have H5 := hide (fun w2 (h : Below w.heap.size w w2) => (mWords_any s hS w.heap.size w2 h.size (HT.out.on h (Nat.le_refl _)).pq).mono (fun e w' h => words_slat h))
  have H6 := hide (fun w2 => (m7Words_any s hS w2).mono (fun e w' h => words_slat h))
  have H7 := hide (fun w => mIsName_any s hS w)
  have H8 := hide (fun w => m7IsName_any s hS w)
  have HS := hide (fun u v w2 (hu : SlAt w2.heap.size w2 1 u (wordsX s.data.toList).length (wcells (wordsX s.data.toList))) (hv : SlAt w2.heap.size w2 1 v (wordsX s.data.toList).length (wcells (wordsX s.data.toList))) =>
    sameWords_any (wordsX s.data.toList) (by have := wordsX_len s.data.toList; rw [bytes_len] at this; omega) u v w2.heap.size w2 (Nat.le_refl _) hu hv)
  unfold pairV at H1 H2 H3 H4
  generalize strB (feetS a.data.toList) = X at H1 H2
  generalize chkM a.data.toList = E at H1 H2
  generalize strB (feetR s.data.toList) = Y at H3 H4
  generalize feetE s.data.toList = G at H3 H4
  generalize wordsE s.data.toList = Z at H5 H6
  generalize wordsX s.data.toList = V at H5 H6 HS
  generalize nameL s.data.toList = NM at H7 H8
  clear ha hA h1 h2 hS
  rcases hway with q0 | ⟨q0, q1⟩
  all_goals
    go_enter Tryz.func4, Tryz.ntmps4
    go_wp2_with fail
    refine HG.out.mono ?_
    rintro e w1 ⟨rfl, hb1⟩
    have HB1 := hide hb1
    clear hb1
    go_wp2_with fail
    refine (H1.out _ HB1.out).mono ?_
    rintro e w2 ⟨rfl, hb2⟩
    have HB2 := hide (HB1.out.trans (hb2.mono HB1.out.size))
    clear hb2
    go_wp2_with fail
    refine (H2.out _ HB2.out).mono ?_
    rintro e w3 ⟨rfl, hb3⟩
    have HB3 := hide (HB2.out.trans (hb3.mono HB2.out.size))
    clear hb3
    go_wp2_with fail
    refine (H3.out _ HB3.out).mono ?_
    rintro e w4 ⟨rfl, hb4⟩
    have HB4 := hide (HB3.out.trans (hb4.mono HB3.out.size))
    clear hb4
    go_wp2_with fail
    refine (H4.out _ HB4.out).mono ?_
    rintro e w5 ⟨rfl, hb5⟩
    have HB5 := hide (HB4.out.trans (hb5.mono HB4.out.size))
    clear hb5
    go_wp2_with fail
    refine (H5.out _ HB5.out).mono ?_
    rintro e w6 ⟨v1, rfl, hv1, hb6⟩
    have HB6 := hide (HB5.out.trans (hb6.mono HB5.out.size))
    have HV1 := hide hv1
    clear hb6 hv1
    go_wp2_with fail
    refine (H6.out _).mono ?_
    rintro e w7 ⟨v2, rfl, hv2, hb7⟩
    have HB7 := hide (HB6.out.trans (hb7.mono HB6.out.size))
    have HV2 := hide hv2
    have HV3 := hide ((HV1.out.below hb7 (Nat.le_refl _)).mono hb7.size)
    clear hb7 hv2 HV1
    go_wp2_with fail
    refine (HS.out v1 v2 w7 HV3.out HV2.out).mono ?_
    rintro e w8 ⟨rfl, hb8⟩
    have HB8 := hide (HB7.out.trans (hb8.mono HB7.out.size))
    clear hb8
    go_wp2_with fail
    refine (H7.out _).mono ?_
    rintro e w9 ⟨rfl, hb9⟩
    have HB9 := hide (HB8.out.trans (hb9.mono HB8.out.size))
    clear hb9
    go_wp2_with fail
    refine (H8.out _).mono ?_
    rintro e w10 ⟨rfl, hb10⟩
    have HB10 := hide (HB9.out.trans (hb10.mono HB9.out.size))
    clear hb10
    go_wp2_with fail
    refine (HAW.out _ HB10.out).mono ?_
    rintro e w11 ⟨rfl, hb11⟩
    have HB11 := hide (HB10.out.trans (hb11.mono HB10.out.size))
    clear hb11
    go_wp2_with fail
    refine bodyPost_ret (results_tmp rfl _ _ _) rfl ?_
    exact ⟨rfl, HB11.out⟩
end Go.Proofs.YtfcjaljaomknjaaGreatDoor
