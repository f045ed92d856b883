/-
  Integers: small, combine, times walked.
-/
import Derived.Test.YthkioajalhglfaaGreatDoorPl
import Derived.Deep.AppendLies
namespace Go.Proofs.YthkioajalhglfaaGreatDoor
open Go.RowKit Go.KP Go.KI Go.Shelf

theorem atoi_any (s : ByteArray) (h : chkI s.data.toList = 0) (hl : s.size ≤ 18) (w : World) :
    Calls Tryz.prog 65 #[.string s] w fun e w' => e = .returned (.tuple #[.int .i64 (valI s.data.toList), .nilIface]) ∧ Below w.heap.size w w' := by
  refine (Tryz.strconv_Atoi_ok s (by omega) _ (atoi_valid h (by rw [bytes_len]; exact hl)) w).mono ?_
  rintro e w' ⟨he, rfl | ⟨t, rfl⟩⟩
  · exact ⟨he, Below.refl _ _⟩
  · exact ⟨he, Lib.bytesWorld_below w 5 t⟩
set_option maxRecDepth 100000 in
theorem small_yes (s t : ByteArray) (h1 : chkI s.data.toList = 0) (h2 : chkI t.data.toList = 0) (l1 : s.size ≤ 18) (l2 : t.size ≤ 18) (w : World) :
    Calls Tryz.prog 37 #[.string s, .string t, .int .i64 18] w (Ret w (.tuple #[.int .i64 (valI s.data.toList), .int .i64 (valI t.data.toList), .bool true])) := by
  have H1 := hide (atoi_any s h1 l1 w)
  have e1 : ((18 : Int) < (s.size : Int)) = False := eq_false (by omega)
  have e2 : ((18 : Int) < (t.size : Int)) = False := eq_false (by omega)
  have H2 := hide (fun w => atoi_any t h2 l2 w)
  clear h1 h2
  go_enter Tryz.func37, Tryz.ntmps37
  go_wp2_with fail
  refine H1.out.mono ?_
  rintro e w1 ⟨rfl, hb⟩
  have HB := hide hb
  clear hb H1
  go_wp2_with fail
  refine (H2.out w1).mono ?_
  rintro e w2 ⟨rfl, hb⟩
  have HB2 := hide (HB.out.trans (hb.mono HB.out.size))
  clear hb H2
  go_wp2_with fail
  go_quiet (fail)
  go_wp2_with fail
  go_ret3
  exact ⟨rfl, below_drewN HB2.out _⟩
set_option maxRecDepth 100000 in
theorem small_no (s t : ByteArray) (h : ¬ (s.size ≤ 18 ∧ t.size ≤ 18)) (w : World) :
    Calls Tryz.prog 37 #[.string s, .string t, .int .i64 18] w (Ret w (.tuple #[.int .i64 0, .int .i64 0, .bool false])) := by
  by_cases h1 : s.size ≤ 18
  · have e1 : ((18 : Int) < (s.size : Int)) = False := eq_false (by omega)
    have e2 : (18 : Int) < (t.size : Int) := by omega
    clear h
    go_enter Tryz.func37, Tryz.ntmps37
    go_wp2_with fail
    go_ret3
    exact ⟨rfl, Below.refl _ _⟩
  · have e1 : (18 : Int) < (s.size : Int) := by omega
    clear h
    go_enter Tryz.func37, Tryz.ntmps37
    go_wp2_with fail
    go_ret3
    exact ⟨rfl, Below.refl _ _⟩

/-- Limbs combined, the carry with them. -/
def combTo (pr : Nat → Nat → Nat → Nat × Nat) (x y : List Nat) : Nat → List Nat × Nat
  | 0 => ([], 0)
  | i + 1 => ((combTo pr x y i).1 ++ [(pr (lat x i) (lat y i) (combTo pr x y i).2).1], (pr (lat x i) (lat y i) (combTo pr x y i).2).2)
def combL (pr : Nat → Nat → Nat → Nat × Nat) (x y : List Nat) : List Nat := (combTo pr x y (max x.length y.length + 1)).1
/-- What a pair function owes. -/
structure PairFn (f : Nat) (pr : Nat → Nat → Nat → Nat × Nat) : Prop where
  enters : ∀ args w, (callFunc f args).run Tryz.prog w = .ok (.enter f args) w
  small : ∀ x y c, x < 1000000000 → y < 1000000000 → c ≤ 1 → (pr x y c).1 < 1000000000 ∧ (pr x y c).2 ≤ 1
  calls : ∀ (x y c : Nat) (w : World), x < 1000000000 → y < 1000000000 → c ≤ 1 → Calls Tryz.prog f #[.int .i64 x, .int .i64 y, .int .i64 c] w fun e w' => e = .returned (.tuple #[.int .i64 (pr x y c).1, .int .i64 (pr x y c).2]) ∧ w = w'
theorem combTo_facts {pr : Nat → Nat → Nat → Nat × Nat} (hs : ∀ x y c, x < 1000000000 → y < 1000000000 → c ≤ 1 → (pr x y c).1 < 1000000000 ∧ (pr x y c).2 ≤ 1) {x y : List Nat} (hx : Lt 1000000000 x) (hy : Lt 1000000000 y) :
    ∀ i, (combTo pr x y i).1.length = i ∧ Lt 1000000000 (combTo pr x y i).1 ∧ (combTo pr x y i).2 ≤ 1 := by
  intro i
  induction i with
  | zero => exact ⟨rfl, fun z hz => by simp [combTo] at hz, Nat.zero_le _⟩
  | succ i ih =>
    have h := hs (lat x i) (lat y i) (combTo pr x y i).2 (lat_lt (by omega) hx i) (lat_lt (by omega) hy i) ih.2.2
    refine ⟨by simp [combTo, ih.1], fun z hz => ?_, h.2⟩
    simp only [combTo, List.mem_append, List.mem_singleton] at hz
    rcases hz with hz | hz
    · exact ih.2.1 z hz
    · rw [hz]; exact h.1
theorem plusFn : PairFn 48 plusP := ⟨enters_of Tryz.func48 (by kernel_rfl) rfl, fun x y c h1 h2 h3 => ⟨by unfold plusP; simp only; omega, by unfold plusP; simp only; omega⟩, fun x y c w h1 h2 h3 => plus_any x y c w h1 h2 h3⟩
theorem minusFn : PairFn 49 minusP := ⟨enters_of Tryz.func49 (by kernel_rfl) rfl, fun x y c h1 h2 h3 => ⟨by unfold minusP; split <;> simp only <;> omega, by unfold minusP; split <;> simp only <;> omega⟩, fun x y c w h1 h2 h3 => minus_any x y c w h1 h2 h3⟩
/-- It returns a row of limbs of its own. -/
def LimbsRet (w : World) (l : List Nat) (e : Ending) (w2 : World) : Prop := ∃ v, e = .returned v ∧ Below w.heap.size w w2 ∧ OwnL w.heap.size w2 v l
set_option maxRecDepth 100000 in
set_option maxHeartbeats 2000000 in
theorem combine_any (f : Nat) (pr : Nat → Nat → Nat → Nat × Nat) (hp : PairFn f pr) (va vb : Value) (x y : List Nat) (B : Nat) (w : World) (ha : LimbAt B w va x) (hb : LimbAt B w vb y) (hB : B ≤ w.heap.size) (hx : Lt 1000000000 x) (hy : Lt 1000000000 y) (lx : x.length ≤ 100000) (ly : y.length ≤ 100000) :
    Calls Tryz.prog 47 #[va, vb, .func (.func f) #[] #[]] w (LimbsRet w (trimL (combL pr x y))) := by
  obtain ⟨a0, c0, hva⟩ := ha.form
  obtain ⟨a1, c1, hvb⟩ := hb.form
  subst hva; subst hvb
  have HA := hide ha; have HB := hide hb; have HX := hide hx; have HY := hide hy; have HP := hide hp
  have hen := hp.enters
  have HF := hide (combTo_facts hp.small hx hy)
  obtain ⟨i0, hi0, hz0, hz1, hz2⟩ := info_parts info3
  obtain ⟨n, hn⟩ : ∃ n, n = max x.length y.length + 1 := ⟨_, rfl⟩
  have hnb : n ≤ 100001 := by omega
  have HN := hide hn
  have hn2 : max (x.length : Int) (y.length : Int) + 1 = (n : Int) := by omega
  clear ha hb hx hy hp hn
  go_enter Tryz.func47, Tryz.ntmps47
  go_wp2_with fail
  clear hn2
  go_loopw [7, 8, 18] (fun v c i wr => ∃ k : Nat, k ≤ n ∧ i = .int .i64 k ∧ c = .int .i64 (((combTo pr x y k).2 : Nat) : Int) ∧ Hid (OwnL w.heap.size wr v (combTo pr x y k).1 ∧ Below w.heap.size w wr)) (fun _ _ i _ => n - (intOf i).toNat)
  case atStart => exact ⟨0, Nat.zero_le _, rfl, rfl, OwnL.nil _ _, Below.refl _ _⟩
  case round =>
    obtain ⟨k, hk, rfl, rfl, hin⟩ := hrel
    have hsz := hin.out.2.size
    obtain ⟨va2, vc2, hvf, hcap, _⟩ := hin.out.1.form
    have hfk := (HF.out k).1
    rw [hfk] at hvf hcap
    subst hvf
    by_cases hlt : k < n
    · have e3 : (k : Int) < (n : Int) := by omega
      have hL1 := hide (limb_any (.slice a0 x.length c0) x k B wr (HA.out.below hin.out.2 hB) (by omega))
      have hL2 := hide (limb_any (.slice a1 y.length c1) y k B wr (HB.out.below hin.out.2 hB) (by omega))
      have hPR := hide (HP.out.calls (lat x k) (lat y k) (combTo pr x y k).2 wr (lat_lt (by omega) HX.out k) (lat_lt (by omega) HY.out k) (HF.out k).2.2)
      have HF1 := hide (show combTo pr x y (k + 1) = ((combTo pr x y k).1 ++ [(pr (lat x k) (lat y k) (combTo pr x y k).2).1], (pr (lat x k) (lat y k) (combTo pr x y k).2).2) from rfl)
      obtain ⟨pn, hpn⟩ : ∃ p, p = pr (lat x k) (lat y k) (combTo pr x y k).2 := ⟨_, rfl⟩
      rw [← hpn] at hPR HF1
      obtain ⟨L, hL⟩ : ∃ L, L = (combTo pr x y k).1 := ⟨_, rfl⟩
      obtain ⟨C, hC⟩ : ∃ C, C = (combTo pr x y k).2 := ⟨_, rfl⟩
      rw [← hC] at hPR ⊢
      rw [← hL] at HF1
      have hfk2 : L.length = k := by rw [hL]; exact hfk
      have HO := hide (show OwnL w.heap.size wr (.slice va2 k vc2) L by rw [hL]; exact hin.out.1)
      have HBW := hide hin.out.2; have HFK := hide hfk2
      clear hpn hL hC hfk hfk2 hin
      go_wp2_with fail
      refine hL1.out.mono ?_
      rintro e w1 ⟨rfl, rfl⟩
      go_wp2_with fail
      refine hL2.out.mono ?_
      rintro e w1 ⟨rfl, rfl⟩
      go_wp2_with fail
      refine hPR.out.mono ?_
      rintro e w1 ⟨rfl, rfl⟩
      clear hL1 hL2 hPR
      have HOW := hide (show (wr.alloc (.cells #[.int .i64 pn.1] 3)).ownsRow w.heap.size 3 1 (.slice va2 k vc2) k (icells L) by
        have h := HO.out
        unfold OwnL at h
        rw [HFK.out] at h
        exact h.alloc _)
      have HNW := hide (show ∀ j u, ([.int .i64 pn.1] : List Value)[j]? = some u → (wr.alloc (.cells #[.int .i64 pn.1] 3)).cell? ((⟨wr.heap.size, 0, none⟩ : Addr).add j) = some u from World.news_of_block (cs := #[.int .i64 pn.1]) (t := 3) (fr := (0, 0)) (heap_alloc_new wr _))
      go_wp2_with (at_builtin; go_must (refine wpList_append_own _ rfl (.tmp 33) (.tmp 35) 46 rfl w.heap.size 3 i0 _ 1 8 Tryz.underlying46 hi0 hz0 hz1 hz2 rfl (by decide) (.slice va2 k vc2) _ _ rfl HOW.out ⟨wr.heap.size, 0, none⟩ 1 1 [.int .i64 pn.1] rfl rfl HNW.out (by simp [Value.oneCell']) (by simp only [maxLen]; omega) (by omega) (by simp; omega) ?_); intro v1 w5 hown hg1 hiff; clear hiff; have HOW5 := hide hown; have HGR := hide hg1; clear hown hg1)
      go_roundw
      case rel =>
        refine ⟨k + 1, by omega, by go_num, by rw [HF1.out], ?_, (HBW.out.alloc (by omega) _).grown HGR.out (by simp; omega) (owns_ge HO.out (Nat.le_refl _))⟩
        rw [HF1.out]
        show World.ownsRow _ _ _ _ _ (L ++ [pn.1]).length (icells (L ++ [pn.1]))
        rw [List.length_append, HFK.out, icells_append]
        exact HOW5.out
      case measure => simp [intOf]; omega
    · obtain rfl : k = n := by omega
      have HL := hide (show (combTo pr x y k).1 = combL pr x y by rw [HN.out]; rfl)
      have hle := trimTo_le (combTo pr x y k).1 k
      have hat := hin.out.1.at_
      obtain ⟨L, hL⟩ : ∃ L, L = (combTo pr x y k).1 := ⟨_, rfl⟩
      rw [← hL] at hat hfk hle HL
      have HO := hide (show OwnL w.heap.size wr (.slice va2 k vc2) L by rw [hL]; exact hin.out.1)
      have HBW := hide hin.out.2; have HFK := hide hfk
      have HT := hide (trim_any va2 vc2 L wr.heap.size wr (by rw [hfk]; exact hat) (by omega) (by omega))
      rw [hfk] at HT
      have e3 : ¬ (k : Int) < (k : Int) := by omega
      clear hL hat hfk hin
      go_wp2_with fail
      refine HT.out.mono ?_
      rintro e w1 ⟨rfl, rfl⟩
      go_wp2_with fail
      go_ret
      refine ⟨_, rfl, HBW.out, ?_⟩
      rw [← HL.out]
      have hc := HO.out.cut (k := trimTo L k) (by rw [HFK.out]; exact hle)
      unfold trimL
      rw [HFK.out]
      exact hc
end Go.Proofs.YthkioajalhglfaaGreatDoor
