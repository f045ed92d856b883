/-
  Integers: Gcd of short numbers walked.
-/
import Derived.Test.YthkioajalhglfaaGreatDoorPq
namespace Go.Proofs.YthkioajalhglfaaGreatDoor
open Go.RowKit Go.KP Go.KI Go.Shelf
attribute [local go_sem] Oper.semAt_some

set_option maxRecDepth 100000 in
set_option maxHeartbeats 2000000 in
theorem Gcd_small (s t : ByteArray) (B : Nat) (w : World) (c1 : chkI s.data.toList = 0) (c2 : chkI t.data.toList = 0) (hs : s.size ≤ 18) (ht : t.size ≤ 18) (hB : B ≤ w.heap.size) (hT : P10 B w) :
    Calls Tryz.prog 19 #[.string s, .string t] w (Ret w (pairV (Lib.itoa ((Nat.gcd (valI s.data.toList).natAbs (valI t.data.toList).natAbs : Nat) : Int)) 0)) := by
  have H1 := hide (both_any s t (by omega) (by omega) w)
  have hb0 : bothI s.data.toList t.data.toList = 0 := by unfold bothI; rw [if_pos c1, c2]
  rw [hb0] at H1
  have HT := hide hT
  have H2 := hide (fun w => small_yes s t c1 c2 hs ht w)
  have v1 := short_val (n := 18) c1 (by rw [bytes_len]; exact hs) (by omega)
  have v2 := short_val (n := 18) c2 (by rw [bytes_len]; exact ht) (by omega)
  rw [pow18] at v1 v2
  obtain ⟨x, hx⟩ : ∃ x, x = valI s.data.toList := ⟨_, rfl⟩
  obtain ⟨y, hy⟩ : ∃ y, y = valI t.data.toList := ⟨_, rfl⟩
  rw [← hx, ← hy] at H2 ⊢
  rw [← hx] at v1
  rw [← hy] at v2
  obtain ⟨G, hG⟩ : ∃ G, G = Nat.gcd x.natAbs y.natAbs := ⟨_, rfl⟩
  rw [← hG]
  have HG := hide hG
  have V1 := hide v1; have V2 := hide v2
  clear c1 c2 hs ht hT hx hy hb0 hG v1 v2
  go_enter Tryz.func19, Tryz.ntmps19
  go_wp2_with fail
  refine H1.out.mono ?_
  rintro e w1 ⟨rfl, hb1⟩
  have HB1 := hide hb1
  clear hb1 H1
  go_wp2_with fail
  refine (H2.out _).mono ?_
  rintro e w2 ⟨rfl, hb2⟩
  have HB2 := hide (HB1.out.trans (hb2.mono HB1.out.size))
  clear hb2 H2 HB1
  go_wp2_with fail
  go_loopw [7, 8] (fun a b wr => ∃ p q : Int, a = .int .i64 p ∧ b = .int .i64 q ∧ p.natAbs < 1000000000000000000 ∧ q.natAbs < 1000000000000000000 ∧ Hid (Nat.gcd p.natAbs q.natAbs = G ∧ Below w.heap.size w wr)) (fun _ b _ => (intOf b).natAbs)
  case atStart => exact ⟨x, y, rfl, rfl, V1.out, V2.out, HG.out.symm, HB2.out⟩
  case round =>
    obtain ⟨p, q, rfl, rfl, hp, hq, hin⟩ := hrel
    have IN := hide hin.out
    clear hin
    by_cases hq0 : q = 0
    · subst hq0
      have hqq : ((0 : Int) != 0) = false := rfl
      have hG : (p.natAbs : Nat) = G := by have := IN.out.1; simpa using this
      have GG := hide hG
      clear hq hG
      go_wp2_with fail
      have hmx : max p (-p) = (G : Int) := by have := GG.out; omega
      rw [hmx]
      have hG1 : (G : Int) ≤ 9223372036854775807 := by have := GG.out; omega
      clear hmx hqq
      refine (itoa_any G (by omega) hG1 B _ (HT.out.on IN.out.2 hB)).mono ?_
      rintro e w3 ⟨rfl, hb3⟩
      have HB3 := hide (IN.out.2.trans (hb3.mono IN.out.2.size))
      clear hb3
      go_wp2_with fail
      refine bodyPost_ret (results_tmp2 rfl _ _ _) rfl ?_
      exact ⟨rfl, HB3.out⟩
    · have hqq : (q != 0) = true := by simpa using hq0
      have hyq : (q == 0) = false := by simpa using hq0
      have hr := natAbs_tmod_lt p hq0
      have hgc : Nat.gcd q.natAbs (p.tmod q).natAbs = G := by
        rw [Int.natAbs_tmod, ← IN.out.1, Nat.gcd_comm q.natAbs, ← Nat.gcd_rec, Nat.gcd_comm]
      have GG := hide hgc
      clear hq0 hgc
      go_wp2_with fail
      go_quiet (fail)
      clear hyq hqq
      go_wp2_with fail
      go_roundw
      case rel => exact ⟨q, p.tmod q, rfl, rfl, hq, by omega, GG.out, ⟨IN.out.2.os, IN.out.2.tape, IN.out.2.output, IN.out.2.size, IN.out.2.block⟩⟩
      case measure => simpa [intOf] using hr
end Go.Proofs.YthkioajalhglfaaGreatDoor
