/-
  Iterators: slices.Backward over limbs, the digits of a string: the walks.
-/
import Derived.Test.YthkioajalhglfaaGreatDoorPc
import Derived.Test.YthkioajalhglfaaGreatDoorLoop2
namespace Go.Proofs.YthkioajalhglfaaGreatDoor
open Go.RowKit Go.KP Go.KI Go.Shelf
attribute [local go_sem] Oper.semAt_some

theorem backward_any (a : Option Addr) (n c : Nat) (w : World) :
    Calls Tryz.prog 74 #[.slice a n c] w fun e w' => e = .returned (.func (.func 102) #[] #[.pointer (some ⟨w.heap.size, 0, none⟩)]) ∧ w.alloc (.cells #[.slice a n c] 46) = w' := by
  go_enter Tryz.func74, Tryz.ntmps74
  go_wp2_with fail
  go_ret
  exact ⟨rfl, rfl⟩
theorem digits_any (s : ByteArray) (w : World) :
    Calls Tryz.prog 67 #[.string s] w fun e w' => e = .returned (.func (.func 100) #[] #[.pointer (some ⟨w.heap.size, 0, none⟩)]) ∧ w.alloc (.cells #[.string s] 9) = w' := by
  go_enter Tryz.func67, Tryz.ntmps67
  go_wp2_with fail
  go_ret
  exact ⟨rfl, rfl⟩
/-- What the iterator backward reads. -/
def BackAt (bx : Nat) (a : Option Addr) (n c : Nat) (f : Nat → Int) (k : Nat) (W : World) : Prop :=
  W.heap[bx]? = some (.cells #[.slice a n c] 46 (0, 0)) ∧ (k < n → ∃ g o, a = some ⟨g, o, none⟩ ∧ W.cell? ⟨g, o + (n - 1 - k), none⟩ = some (.int .i64 (f k)))
set_option maxRecDepth 100000 in
set_option maxHeartbeats 1000000 in
theorem backSeq_any (bx n c : Nat) (a : Option Addr) (f : Nat → Int) (hn : n ≤ 1000000) :
    IterOn Tryz.prog 102 #[.pointer (some ⟨bx, 0, none⟩)] (fun k => #[.int .i64 ((n : Int) - 1 - k), .int .i64 (f k)]) n (BackAt bx a n c f) := by
  intro l J Jx W hJ hJx hJS hKe hY h0
  refine callsIn_of_wp Tryz.func102 rfl trivial ?_ rfl
  simp only [Tryz.ntmps102, List.size_toArray, List.length_cons, List.length_nil, Nat.reduceAdd, Nat.reduceSub, Array.replicate_succ, Array.replicate_zero, List.push_toArray, List.append_toArray, List.nil_append, List.cons_append]
  have c0 := cell_blk (hKe 0 _ _ (Nat.zero_le _) h0).1 0
  have HJ := hide hJ; have HJx := hide hJx; have HJS := hide hJS; have HY := hide hY; have H0 := hide h0; have HK := hide hKe
  clear hJ hJx hJS hY h0 hKe
  gi_wp2
  clear c0
  gi_loopw [3] (fun i wr => ∃ (k : Nat) (S : Nat → Prop), k ≤ n ∧ i = .int .i64 ((n : Int) - 1 - k) ∧ Hid (J k S wr ∧ W.heap.size ≤ wr.heap.size)) (fun i _ => (intOf i + 1).toNat)
  case atStart => exact ⟨0, _, Nat.zero_le _, by simp, H0.out, Nat.le_refl _⟩
  case round =>
    obtain ⟨k, S, hk, rfl, hin⟩ := hrel
    obtain ⟨hbox, hcl⟩ := HK.out k S wr hk hin.out.1
    have c0 := cell_blk hbox 0
    by_cases hlt : k < n
    · obtain ⟨g, o, rfl, hcell⟩ := hcl hlt
      obtain ⟨m, hm⟩ : ∃ m : Nat, (n : Int) - 1 - (k : Int) = m := ⟨n - 1 - k, by omega⟩
      have hm2 : n - 1 - k = m := by omega
      rw [hm2] at hcell
      have hyy := HY.out k S wr hlt hin.out.1 hin.out.2
      rw [hm] at hyy ⊢
      obtain ⟨fn, tmps, assign, body, hy, hR⟩ := hyy
      have HR := hide hR
      have hm0 : (0 : Int) ≤ (m : Int) := by omega
      have hml : (m : Int) < (n : Int) := by omega
      have HM := hide hm; have HSZ := hide hin.out.2
      clear hR hm hm2 hin hcl hbox
      gi_wp2
      refine ⟨rfl, HR.out.mono ?_⟩
      rintro e W3 ⟨S3, hu3, (⟨rfl, hJ3⟩ | ⟨rfl, hJx3⟩)⟩
      · have HJ3 := hide (And.intro hJ3 (Nat.le_trans HSZ.out hu3.size))
        clear hu3 hJ3 hy HR
        gi_wp2
        go_roundw
        case rel => exact ⟨k + 1, S3, by omega, by have := HM.out; congr 1; omega, HJ3.out⟩
        case measure => simp [intOf]
      · clear hu3 hy HR
        gi_wp2
        refine bodyPost_ret (results_none rfl _ _ _) rfl ?_
        exact ⟨⟨_, rfl⟩, S3, .inr hJx3⟩
    · obtain rfl : k = n := by omega
      have hm : (k : Int) - 1 - (k : Int) = -1 := by omega
      rw [hm]
      clear hm hcl c0 hbox
      gi_wp2
      refine bodyPost_end (results_none rfl _ _ _) rfl ?_
      exact ⟨⟨_, rfl⟩, S, .inl hin.out.1⟩
/-- A digit, from the last one on. -/
def digAt (l : List UInt8) (k : Nat) : Nat := (l[l.length - 1 - k]?.getD 48).toNat - 48
set_option maxRecDepth 100000 in
set_option maxHeartbeats 1000000 in
theorem digitSeq_any (bx : Nat) (s : ByteArray) (hs : s.size ≤ 1000000) (hd : ∀ c ∈ s.data.toList, isDg c = true) :
    IterOn Tryz.prog 100 #[.pointer (some ⟨bx, 0, none⟩)] (fun k => #[.int .i64 k, .int .i64 (digAt s.data.toList k)]) s.size (fun _ W => W.heap[bx]? = some (.cells #[.string s] 9 (0, 0))) := by
  intro l J Jx W hJ hJx hJS hKe hY h0
  refine callsIn_of_wp Tryz.func100 rfl trivial ?_ rfl
  simp only [Tryz.ntmps100, List.size_toArray, List.length_cons, List.length_nil, Nat.reduceAdd, Nat.reduceSub, Array.replicate_succ, Array.replicate_zero, List.push_toArray, List.append_toArray, List.nil_append, List.cons_append]
  have c0 := cell_blk (hKe 0 _ _ (Nat.zero_le _) h0) 0
  have HJ := hide hJ; have HJx := hide hJx; have HJS := hide hJS; have HY := hide hY; have H0 := hide h0; have HK := hide hKe; have HD := hide hd
  clear hJ hJx hJS hY h0 hKe hd
  gi_wp2
  clear c0
  gi_loopw [6] (fun i wr => ∃ (k : Nat) (S : Nat → Prop), k ≤ s.size ∧ i = .int .i64 k ∧ Hid (J k S wr ∧ W.heap.size ≤ wr.heap.size)) (fun i _ => s.size - (intOf i).toNat)
  case atStart => exact ⟨0, _, Nat.zero_le _, rfl, H0.out, Nat.le_refl _⟩
  case round =>
    obtain ⟨k, S, hk, rfl, hin⟩ := hrel
    have c0 := cell_blk (HK.out k S wr hk hin.out.1) 0
    by_cases hlt : k < s.size
    · have e3 : (k : Int) < (s.size : Int) := by omega
      obtain ⟨m, hm⟩ : ∃ m : Nat, (s.size : Int) - 1 - (k : Int) = m := ⟨s.size - 1 - k, by omega⟩
      have hml : m < s.size := by omega
      have hmi : (m : Int) < (s.size : Int) := by omega
      have hat : s.data.toList[m]? = some (s[m]'hml) := by
        have h1 : s.data.toList[m]? = some s.data[m] := by simp
        exact h1
      have hdg := isDg_iff.1 (HD.out _ (List.mem_of_getElem? hat))
      have hda : digAt s.data.toList k = (s[m]'hml).toNat - 48 := by
        unfold digAt
        rw [bytes_len, show s.size - 1 - k = m by omega, hat]
        rfl
      have hyy := HY.out k S wr hlt hin.out.1 hin.out.2
      rw [hda] at hyy
      obtain ⟨y, hyv⟩ : ∃ y : Nat, y = (s[m]'hml).toNat := ⟨_, rfl⟩
      rw [← hyv] at hyy hdg
      have hy2 : ((y - 48 : Nat) : Int) = (y : Int) - 48 := by omega
      rw [hy2] at hyy
      obtain ⟨fn, tmps, assign, body, hy, hR⟩ := hyy
      have HR := hide hR
      have hm0 : (0 : Int) ≤ (m : Int) := by omega
      have y0 : (48 : Int) ≤ (y : Int) := by omega
      have y1 : (y : Int) ≤ 57 := by omega
      have HSZ := hide hin.out.2
      have hyv2 : (s[m]'hml).toNat = y := hyv.symm
      clear hR hin hat hda hy2 hyv hdg
      gi_wp2
      refine ⟨rfl, HR.out.mono ?_⟩
      rintro e W3 ⟨S3, hu3, (⟨rfl, hJ3⟩ | ⟨rfl, hJx3⟩)⟩
      · have HJ3 := hide (And.intro hJ3 (Nat.le_trans HSZ.out hu3.size))
        clear hu3 hJ3 hy HR
        gi_wp2
        go_roundw
        case rel => exact ⟨k + 1, S3, by omega, by go_num, HJ3.out⟩
        case measure => simp [intOf]; omega
      · clear hu3 hy HR
        gi_wp2
        refine bodyPost_ret (results_none rfl _ _ _) rfl ?_
        exact ⟨⟨_, rfl⟩, S3, .inr hJx3⟩
    · obtain rfl : k = s.size := by omega
      have e3 : ¬ (s.size : Int) < (s.size : Int) := by omega
      gi_wp2
      refine bodyPost_end (results_none rfl _ _ _) rfl ?_
      exact ⟨⟨_, rfl⟩, S, .inl hin.out.1⟩
end Go.Proofs.YthkioajalhglfaaGreatDoor
