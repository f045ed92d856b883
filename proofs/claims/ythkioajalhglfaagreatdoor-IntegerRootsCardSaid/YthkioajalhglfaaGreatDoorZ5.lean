/-
  Texts of the integers, laid together: Pb, Pc, Nc, Qa, Loop2.
-/
import Derived.Deep.AppendLies
import Derived.Laws.MakeOwn
import Derived.IntWalk
import Derived.BigQuiet
import Derived.Test.YthkioajalhglfaaGreatDoorZ1
import Derived.Test.YthkioajalhglfaaGreatDoorZ2
namespace Go.Proofs.YthkioajalhglfaaGreatDoor
open Go.RowKit Go.KP Go.KI Go.Shelf

theorem atoi_any (s : ByteArray) (h : chkI s.data.toList = 0) (hl : s.size ≤ 18) (w : World) :
    Calls Tryz.prog 65 #[.string s] w fun e w' => e = .returned (.tuple #[.int .i64 (valI s.data.toList), .nilIface]) ∧ Below w.heap.size w w' := by
  refine (Tryz.strconv_Atoi_ok s (by omega) _ (atoi_valid h (by rw [bytes_len]; exact hl)) w).mono ?_
  rintro e w' ⟨he, rfl | ⟨t, rfl⟩⟩
  · exact ⟨he, Below.refl _ _⟩
  · exact ⟨he, Lib.bytesWorld_below w 5 t⟩
set_option maxRecDepth 100000 in
theorem small_yes (s t : ByteArray) (h1 : chkI s.data.toList = 0) (h2 : chkI t.data.toList = 0) (l1 : s.size ≤ 18) (l2 : t.size ≤ 18) (w : World) :
    Calls Tryz.prog 37 #[.string s, .string t, .int .i64 18] w (Ret w (.tuple #[.int .i64 (valI s.data.toList), .int .i64 (valI t.data.toList), .bool true])) := by
  have H1 := hide (atoi_any s h1 l1 w)
  have e1 : ((18 : Int) < (s.size : Int)) = False := eq_false (by omega)
  have e2 : ((18 : Int) < (t.size : Int)) = False := eq_false (by omega)
  have H2 := hide (fun w => atoi_any t h2 l2 w)
  clear h1 h2
  go_enter Tryz.func37, Tryz.ntmps37
  go_wp2_with fail
  refine H1.out.mono ?_
  rintro e w1 ⟨rfl, hb⟩
  have HB := hide hb
  clear hb H1
  go_wp2_with fail
  refine (H2.out w1).mono ?_
  rintro e w2 ⟨rfl, hb⟩
  have HB2 := hide (HB.out.trans (hb.mono HB.out.size))
  clear hb H2
  go_wp2_with fail
  go_quiet (fail)
  go_wp2_with fail
  go_ret3
  exact ⟨rfl, below_drewN HB2.out _⟩
set_option maxRecDepth 100000 in
theorem small_no (s t : ByteArray) (h : ¬ (s.size ≤ 18 ∧ t.size ≤ 18)) (w : World) :
    Calls Tryz.prog 37 #[.string s, .string t, .int .i64 18] w (Ret w (.tuple #[.int .i64 0, .int .i64 0, .bool false])) := by
  by_cases h1 : s.size ≤ 18
  · have e1 : ((18 : Int) < (s.size : Int)) = False := eq_false (by omega)
    have e2 : (18 : Int) < (t.size : Int) := by omega
    clear h
    go_enter Tryz.func37, Tryz.ntmps37
    go_wp2_with fail
    go_ret3
    exact ⟨rfl, Below.refl _ _⟩
  · have e1 : (18 : Int) < (s.size : Int) := by omega
    clear h
    go_enter Tryz.func37, Tryz.ntmps37
    go_wp2_with fail
    go_ret3
    exact ⟨rfl, Below.refl _ _⟩

/-- Limbs combined, the carry with them. -/
def combTo (pr : Nat → Nat → Nat → Nat × Nat) (x y : List Nat) : Nat → List Nat × Nat
  | 0 => ([], 0)
  | i + 1 => ((combTo pr x y i).1 ++ [(pr (lat x i) (lat y i) (combTo pr x y i).2).1], (pr (lat x i) (lat y i) (combTo pr x y i).2).2)
def combL (pr : Nat → Nat → Nat → Nat × Nat) (x y : List Nat) : List Nat := (combTo pr x y (max x.length y.length + 1)).1
/-- What a pair function owes. -/
structure PairFn (f : Nat) (pr : Nat → Nat → Nat → Nat × Nat) : Prop where
  enters : ∀ args w, (callFunc f args).run Tryz.prog w = .ok (.enter f args) w
  small : ∀ x y c, x < 1000000000 → y < 1000000000 → c ≤ 1 → (pr x y c).1 < 1000000000 ∧ (pr x y c).2 ≤ 1
  calls : ∀ (x y c : Nat) (w : World), x < 1000000000 → y < 1000000000 → c ≤ 1 → Calls Tryz.prog f #[.int .i64 x, .int .i64 y, .int .i64 c] w fun e w' => e = .returned (.tuple #[.int .i64 (pr x y c).1, .int .i64 (pr x y c).2]) ∧ w = w'
theorem combTo_facts {pr : Nat → Nat → Nat → Nat × Nat} (hs : ∀ x y c, x < 1000000000 → y < 1000000000 → c ≤ 1 → (pr x y c).1 < 1000000000 ∧ (pr x y c).2 ≤ 1) {x y : List Nat} (hx : Lt 1000000000 x) (hy : Lt 1000000000 y) :
    ∀ i, (combTo pr x y i).1.length = i ∧ Lt 1000000000 (combTo pr x y i).1 ∧ (combTo pr x y i).2 ≤ 1 := by
  intro i
  induction i with
  | zero => exact ⟨rfl, fun z hz => by simp [combTo] at hz, Nat.zero_le _⟩
  | succ i ih =>
    have h := hs (lat x i) (lat y i) (combTo pr x y i).2 (lat_lt (by omega) hx i) (lat_lt (by omega) hy i) ih.2.2
    refine ⟨by simp [combTo, ih.1], fun z hz => ?_, h.2⟩
    simp only [combTo, List.mem_append, List.mem_singleton] at hz
    rcases hz with hz | hz
    · exact ih.2.1 z hz
    · rw [hz]; exact h.1
theorem plusFn : PairFn 48 plusP := ⟨enters_of Tryz.func48 (by kernel_rfl) rfl, fun x y c h1 h2 h3 => ⟨by unfold plusP; simp only; omega, by unfold plusP; simp only; omega⟩, fun x y c w h1 h2 h3 => plus_any x y c w h1 h2 h3⟩
theorem minusFn : PairFn 49 minusP := ⟨enters_of Tryz.func49 (by kernel_rfl) rfl, fun x y c h1 h2 h3 => ⟨by unfold minusP; split <;> simp only <;> omega, by unfold minusP; split <;> simp only <;> omega⟩, fun x y c w h1 h2 h3 => minus_any x y c w h1 h2 h3⟩
/-- It returns a row of limbs of its own. -/
def LimbsRet (w : World) (l : List Nat) (e : Ending) (w2 : World) : Prop := ∃ v, e = .returned v ∧ Below w.heap.size w w2 ∧ OwnL w.heap.size w2 v l
set_option maxRecDepth 100000 in
set_option maxHeartbeats 2000000 in
theorem combine_any (f : Nat) (pr : Nat → Nat → Nat → Nat × Nat) (hp : PairFn f pr) (va vb : Value) (x y : List Nat) (B : Nat) (w : World) (ha : LimbAt B w va x) (hb : LimbAt B w vb y) (hB : B ≤ w.heap.size) (hx : Lt 1000000000 x) (hy : Lt 1000000000 y) (lx : x.length ≤ 100000) (ly : y.length ≤ 100000) :
    Calls Tryz.prog 47 #[va, vb, .func (.func f) #[] #[]] w (LimbsRet w (trimL (combL pr x y))) := by
  obtain ⟨a0, c0, hva⟩ := ha.form
  obtain ⟨a1, c1, hvb⟩ := hb.form
  subst hva; subst hvb
  have HA := hide ha; have HB := hide hb; have HX := hide hx; have HY := hide hy; have HP := hide hp
  have hen := hp.enters
  have HF := hide (combTo_facts hp.small hx hy)
  obtain ⟨i0, hi0, hz0, hz1, hz2⟩ := info_parts info3
  obtain ⟨n, hn⟩ : ∃ n, n = max x.length y.length + 1 := ⟨_, rfl⟩
  have hnb : n ≤ 100001 := by omega
  have HN := hide hn
  have hn2 : max (x.length : Int) (y.length : Int) + 1 = (n : Int) := by omega
  clear ha hb hx hy hp hn
  go_enter Tryz.func47, Tryz.ntmps47
  go_wp2_with fail
  clear hn2
  go_loopw [7, 8, 18] (fun v c i wr => ∃ k : Nat, k ≤ n ∧ i = .int .i64 k ∧ c = .int .i64 (((combTo pr x y k).2 : Nat) : Int) ∧ Hid (OwnL w.heap.size wr v (combTo pr x y k).1 ∧ Below w.heap.size w wr)) (fun _ _ i _ => n - (intOf i).toNat)
  case atStart => exact ⟨0, Nat.zero_le _, rfl, rfl, OwnL.nil _ _, Below.refl _ _⟩
  case round =>
    obtain ⟨k, hk, rfl, rfl, hin⟩ := hrel
    have hsz := hin.out.2.size
    obtain ⟨va2, vc2, hvf, hcap, _⟩ := hin.out.1.form
    have hfk := (HF.out k).1
    rw [hfk] at hvf hcap
    subst hvf
    by_cases hlt : k < n
    · have e3 : (k : Int) < (n : Int) := by omega
      have hL1 := hide (limb_any (.slice a0 x.length c0) x k B wr (HA.out.below hin.out.2 hB) (by omega))
      have hL2 := hide (limb_any (.slice a1 y.length c1) y k B wr (HB.out.below hin.out.2 hB) (by omega))
      have hPR := hide (HP.out.calls (lat x k) (lat y k) (combTo pr x y k).2 wr (lat_lt (by omega) HX.out k) (lat_lt (by omega) HY.out k) (HF.out k).2.2)
      have HF1 := hide (show combTo pr x y (k + 1) = ((combTo pr x y k).1 ++ [(pr (lat x k) (lat y k) (combTo pr x y k).2).1], (pr (lat x k) (lat y k) (combTo pr x y k).2).2) from rfl)
      obtain ⟨pn, hpn⟩ : ∃ p, p = pr (lat x k) (lat y k) (combTo pr x y k).2 := ⟨_, rfl⟩
      rw [← hpn] at hPR HF1
      obtain ⟨L, hL⟩ : ∃ L, L = (combTo pr x y k).1 := ⟨_, rfl⟩
      obtain ⟨C, hC⟩ : ∃ C, C = (combTo pr x y k).2 := ⟨_, rfl⟩
      rw [← hC] at hPR ⊢
      rw [← hL] at HF1
      have hfk2 : L.length = k := by rw [hL]; exact hfk
      have HO := hide (show OwnL w.heap.size wr (.slice va2 k vc2) L by rw [hL]; exact hin.out.1)
      have HBW := hide hin.out.2; have HFK := hide hfk2
      clear hpn hL hC hfk hfk2 hin
      go_wp2_with fail
      refine hL1.out.mono ?_
      rintro e w1 ⟨rfl, rfl⟩
      go_wp2_with fail
      refine hL2.out.mono ?_
      rintro e w1 ⟨rfl, rfl⟩
      go_wp2_with fail
      refine hPR.out.mono ?_
      rintro e w1 ⟨rfl, rfl⟩
      clear hL1 hL2 hPR
      have HOW := hide (show (wr.alloc (.cells #[.int .i64 pn.1] 3)).ownsRow w.heap.size 3 1 (.slice va2 k vc2) k (icells L) by
        have h := HO.out
        unfold OwnL at h
        rw [HFK.out] at h
        exact h.alloc _)
      have HNW := hide (show ∀ j u, ([.int .i64 pn.1] : List Value)[j]? = some u → (wr.alloc (.cells #[.int .i64 pn.1] 3)).cell? ((⟨wr.heap.size, 0, none⟩ : Addr).add j) = some u from World.news_of_block (cs := #[.int .i64 pn.1]) (t := 3) (fr := (0, 0)) (heap_alloc_new wr _))
      go_wp2_with (at_builtin; go_must (refine wpList_append_own _ rfl (.tmp 33) (.tmp 35) 46 rfl w.heap.size 3 i0 _ 1 8 Tryz.underlying46 hi0 hz0 hz1 hz2 rfl (by decide) (.slice va2 k vc2) _ _ rfl HOW.out ⟨wr.heap.size, 0, none⟩ 1 1 [.int .i64 pn.1] rfl rfl HNW.out (by simp [Value.oneCell']) (by simp only [maxLen]; omega) (by omega) (by simp; omega) ?_); intro v1 w5 hown hg1 hiff; clear hiff; have HOW5 := hide hown; have HGR := hide hg1; clear hown hg1)
      go_roundw
      case rel =>
        refine ⟨k + 1, by omega, by go_num, by rw [HF1.out], ?_, (HBW.out.alloc (by omega) _).grown HGR.out (by simp; omega) (owns_ge HO.out (Nat.le_refl _))⟩
        rw [HF1.out]
        show World.ownsRow _ _ _ _ _ (L ++ [pn.1]).length (icells (L ++ [pn.1]))
        rw [List.length_append, HFK.out, icells_append]
        exact HOW5.out
      case measure => simp [intOf]; omega
    · obtain rfl : k = n := by omega
      have HL := hide (show (combTo pr x y k).1 = combL pr x y by rw [HN.out]; rfl)
      have hle := trimTo_le (combTo pr x y k).1 k
      have hat := hin.out.1.at_
      obtain ⟨L, hL⟩ : ∃ L, L = (combTo pr x y k).1 := ⟨_, rfl⟩
      rw [← hL] at hat hfk hle HL
      have HO := hide (show OwnL w.heap.size wr (.slice va2 k vc2) L by rw [hL]; exact hin.out.1)
      have HBW := hide hin.out.2; have HFK := hide hfk
      have HT := hide (trim_any va2 vc2 L wr.heap.size wr (by rw [hfk]; exact hat) (by omega) (by omega))
      rw [hfk] at HT
      have e3 : ¬ (k : Int) < (k : Int) := by omega
      clear hL hat hfk hin
      go_wp2_with fail
      refine HT.out.mono ?_
      rintro e w1 ⟨rfl, rfl⟩
      go_wp2_with fail
      go_ret
      refine ⟨_, rfl, HBW.out, ?_⟩
      rw [← HL.out]
      have hc := HO.out.cut (k := trimTo L k) (by rw [HFK.out]; exact hle)
      unfold trimL
      rw [HFK.out]
      exact hc
end Go.Proofs.YthkioajalhglfaaGreatDoor
namespace Go.Proofs.YthkioajalhglfaaGreatDoor
open Go.RowKit Go.KP Go.KI Go.Shelf

/-- A block that is a row of limbs. -/
abbrev rowO (L : List Nat) : Obj := .cells (icells L).toArray 3
theorem setCell_size (w : World) (a : Addr) (v : Value) : (w.setCell a v).heap.size = w.heap.size := by simp [World.setCell]
theorem setCell_other {w : World} {b b2 k : Nat} {v : Value} (h : b ≠ b2) : (w.setCell ⟨b, k, none⟩ v).heap[b2]? = w.heap[b2]? := by
  simp only [World.setCell, Array.getElem?_modify, if_neg h]
theorem row_cell {w : World} {g : Nat} {L : List Nat} (h : w.heap[g]? = some (rowO L)) {i : Nat} (hi : i < L.length) : w.cell? ⟨g, i, none⟩ = some (.int .i64 (lat L i)) := by
  rw [cell_blk h]
  simp only [List.getElem?_toArray]
  exact icells_at hi
theorem row_froz {w : World} {g : Nat} {L : List Nat} (h : w.heap[g]? = some (rowO L)) (i : Nat) : w.frozen? ⟨g, i, none⟩ = false := froz_blk h i
theorem row_set {w : World} {g : Nat} {L : List Nat} (h : w.heap[g]? = some (rowO L)) (k v : Nat) : (w.setCell ⟨g, k, none⟩ (.int .i64 v)).heap[g]? = some (rowO (L.set k v)) := by
  simp only [World.setCell, Array.getElem?_modify, h]
  simp [icells, List.map_set]
theorem row_owns {w : World} {g base : Nat} {L : List Nat} (h : w.heap[g]? = some (rowO L)) (hb : base ≤ g) (hl : L.length ≤ maxLen) : OwnL base w (.slice (some ⟨g, 0, none⟩) L.length L.length) L := by
  refine ⟨by rw [icells_len]; omega, .inr ⟨g, L.length, _, rfl, hb, h, Nat.le_refl _, hl, by simp [icells_len], ?_⟩⟩
  rw [List.take_of_length_le]
  simp [icells_len]
theorem row_limbs {w : World} {g : Nat} {L : List Nat} (h : w.heap[g]? = some (rowO L)) (hl : L.length ≤ maxLen) : LimbAt w.heap.size w (.slice (some ⟨g, 0, none⟩) L.length L.length) L := (row_owns h (Nat.zero_le _) hl).at_
def zeros (n : Nat) : List Nat := List.replicate n 0
theorem zeros_len (n : Nat) : (zeros n).length = n := by simp [zeros]
theorem zeros_lt (b n : Nat) (hb : 0 < b) : Lt b (zeros n) := fun x hx => by
  rw [List.eq_of_mem_replicate hx]
  exact hb
theorem make_ints (n : Nat) (hn : n ≤ 1000000) (W : World) :
    (Instr.makeSlice 46 (.int .i64 (n : Int)) (.int .i64 (n : Int))).run Tryz.prog W = .ok (.slice (some ⟨W.heap.size, 0, none⟩) n n) (W.alloc (rowO (zeros n))) := by
  obtain ⟨i0, hi0, hz0, hz1, hz2⟩ := info_parts info3
  have hr := run_make (P := Tryz.prog) W 46 3 i0 (.int .i64 0) Tryz.underlying46 hi0 hz0 .i64 .i64 n n (by omega) (Int.le_refl _) (by rw [hz2]; omega) (by omega)
  simp only [Int.toNat_natCast, hz1] at hr
  rw [hr]
  have e : madeCells (Value.int .i64 0).cells (n * 1) = (icells (zeros n)).toArray := by
    simp [madeCells, Value.cells, icells, zeros]
    apply Array.ext
    · simp
    · intro i h1 h2
      simp [Nat.mod_one]
  rw [e]
/-- One limb of a product. -/
theorem times_step {b i k o c c2 n v q x y V T : Nat} (h : o + b ^ (i + k) * c = V + x * T * b ^ i) (h1 : n + b ^ (i + k) * q = o + b ^ (i + k) * v) (h2 : q + x * y + c = v + b * c2) :
    n + b ^ (i + (k + 1)) * c2 = V + x * (T + b ^ k * y) * b ^ i := by
  have e1 : b ^ (i + (k + 1)) = b ^ (i + k) * b := by rw [← Nat.add_assoc, Nat.pow_succ]
  have e2 : b ^ (i + k) = b ^ i * b ^ k := Nat.pow_add b i k
  have h3 : b ^ (i + k) * (q + x * y + c) = b ^ (i + k) * (v + b * c2) := by rw [h2]
  rw [e1]
  have h4 : x * (T + b ^ k * y) * b ^ i = x * T * b ^ i + b ^ (i + k) * (x * y) := by rw [e2]; grind
  rw [h4]
  have h5 : b ^ (i + k) * (q + x * y + c) = b ^ (i + k) * q + b ^ (i + k) * (x * y) + b ^ (i + k) * c := by grind
  have h6 : b ^ (i + k) * (v + b * c2) = b ^ (i + k) * v + b ^ (i + k) * b * c2 := by grind
  omega
theorem times_total {b : Nat} {x y L0 : List Nat} {i k X : Nat} (h : lv b L0 = lvT b x i * lv b y) (hX : X = lat x i) (hk : y.length ≤ k) : lv b L0 + X * lvT b y k * b ^ i = lvT b x (i + 1) * lv b y := by
  rw [h, lvT_succ, lvT_all hk, hX]
  grind
theorem times_zero {b : Nat} (h0 : 0 < b) {x y L : List Nat} {i k C : Nat} (hx : Lt b x) (hy : Lt b y) (hk : k = y.length + 1) (h : lv b L + b ^ (i + k) * C = lvT b x (i + 1) * lv b y) : C = 0 := by
  have h1 := lvT_lt h0 hx (i + 1)
  have h2 := lv_lt hy
  have h4 : lvT b x (i + 1) * lv b y < b ^ (i + k) := by
    have e : b ^ (i + k) = b ^ (i + 1) * b ^ y.length := by
      rw [← Nat.pow_add]
      congr 1
      omega
    rw [e]
    exact Nat.mul_lt_mul'' h1 h2
  rcases Nat.eq_zero_or_pos C with h5 | h5
  · exact h5
  · exfalso
    have : b ^ (i + k) * 1 ≤ b ^ (i + k) * C := Nat.mul_le_mul_left _ h5
    omega
theorem mul_lt_sq {x y : Nat} (hx : x < 1000000000) (hy : y < 1000000000) : x * y ≤ 999999998000000001 := by
  have : x * y ≤ 999999999 * 999999999 := Nat.mul_le_mul (by omega) (by omega)
  omega
theorem limb_same (v : Value) (l : List Nat) (i : Nat) (B : Nat) (w : World) (h : LimbAt B w v l) (hi : i ≤ 1000000) :
    Calls Tryz.prog 70 #[v, .int .i64 i] w fun e w' => e = .returned (.int .i64 (lat l i)) ∧ w' = w := (limb_any v l i B w h hi).mono fun _ _ ⟨h1, h2⟩ => ⟨h1, h2.symm⟩
set_option maxRecDepth 100000 in
set_option maxHeartbeats 4000000 in
theorem times_any (va vb : Value) (x y : List Nat) (B : Nat) (w : World) (ha : LimbAt B w va x) (hb : LimbAt B w vb y) (hB : B ≤ w.heap.size) (hx : Lt 1000000000 x) (hy : Lt 1000000000 y) (lx : x.length ≤ 100000) (ly : y.length ≤ 100000) :
    Calls Tryz.prog 40 #[va, vb] w fun e w' => ∃ l, LimbsRet w l e w' ∧ Norm 1000000000 l ∧ lv 1000000000 l = lv 1000000000 x * lv 1000000000 y ∧ l.length ≤ x.length + y.length + 1 := by
  obtain ⟨a0, c0, hva⟩ := ha.form
  obtain ⟨a1, c1, hvb⟩ := hb.form
  subst hva; subst hvb
  obtain ⟨n, hn⟩ : ∃ n, n = x.length + y.length + 1 := ⟨_, rfl⟩
  have hn2 : (x.length : Int) + (y.length : Int) + 1 = (n : Int) := by omega
  have hmk := make_ints n (by omega)
  have HA := hide ha; have HB := hide hb; have HX := hide hx; have HY := hide hy; have HN := hide hn
  have hnb : n ≤ 200001 := by omega
  clear ha hb hx hy hn
  go_enter Tryz.func40, Tryz.ntmps40
  go_wp2_with fail
  clear hmk
  have H0 := hide (heap_alloc_new w (rowO (zeros n))); have HB0 := hide ((Below.refl w.heap.size w).alloc (Nat.le_refl _) (rowO (zeros n)))
  go_loopw [20] (fun i wr => ∃ k : Nat, k ≤ x.length ∧ i = .int .i64 k ∧ Hid (∃ L : List Nat, L.length = n ∧ Lt 1000000000 L ∧ lv 1000000000 L = lvT 1000000000 x k * lv 1000000000 y ∧ wr.heap[w.heap.size]? = some (rowO L) ∧ Below w.heap.size w wr)) (fun i _ => x.length - (intOf i).toNat)
  case atStart =>
    refine ⟨0, Nat.zero_le _, rfl, zeros n, zeros_len n, zeros_lt _ _ (by omega), ?_, H0.out, HB0.out⟩
    rw [lvT_zero, zeros, lv_zeros]
    simp
  case round =>
    obtain ⟨i, hi, rfl, hin⟩ := hrel
    obtain ⟨L0, hL0n, hL0t, hL0v, hL0b, hL0w⟩ := hin.out
    have hsz := lt_blk hL0b
    by_cases hlt : i < x.length
    · have e3 : (i : Int) < (x.length : Int) := by omega
      rcases (HA.out.below hL0w hB).cases with ⟨_, _, _, hnil⟩ | ⟨b, o, cap, hv, hbb, hcl⟩
      · rw [hnil] at hlt
        simp at hlt
      injection hv with hv1 hv2 hv3
      subst hv1; subst hv3
      have hcell := hcl i hlt
      have hxi := lat_lt (by omega) HX.out i
      obtain ⟨X, hX⟩ : ∃ X, X = lat x i := ⟨_, rfl⟩
      rw [← hX] at hcell hxi
      have HXE := hide hX; have HL0 := hide hL0b; have HW0 := hide hL0w; have HV0 := hide hL0v; have HN0 := hide hL0n; have HT0 := hide hL0t
      clear hcl hv2 hX hL0n hL0t hL0v hL0b hL0w hin
      obtain ⟨wo, hwo⟩ : ∃ wo, wo = wr := ⟨_, rfl⟩
      subst hwo
      go_wp2_with fail
      go_loopw [8, 28] (fun c j wr => ∃ (k C : Nat), k ≤ y.length + 1 ∧ j = .int .i64 k ∧ c = .int .i64 C ∧ C < 1000000000 ∧ Hid (∃ L : List Nat, L.length = n ∧ Lt 1000000000 L ∧ lv 1000000000 L + 1000000000 ^ (i + k) * C = lv 1000000000 L0 + X * lvT 1000000000 y k * 1000000000 ^ i ∧ wr.heap[w.heap.size]? = some (rowO L) ∧ Below w.heap.size w wr)) (fun _ j _ => y.length + 1 - (intOf j).toNat)
      case atStart =>
        refine ⟨0, 0, Nat.zero_le _, rfl, rfl, by omega, L0, HN0.out, HT0.out, ?_, HL0.out, HW0.out⟩
        rw [lvT_zero]
        simp
      case round =>
        obtain ⟨k, C, hk, rfl, rfl, hC, hin⟩ := hrel
        obtain ⟨L, hLn, hLt, hLv, hLb, hLw⟩ := hin.out
        have hsz2 := lt_blk hLb
        by_cases hlt2 : k < y.length + 1
        · have e4 : (k : Int) < (y.length : Int) + 1 := by omega
          have hik : i + k < L.length := by rw [hLn, HN.out]; omega
          have q1 := row_cell hLb hik
          have q2 := row_froz hLb (i + k)
          have hyk := lat_lt (by omega) HY.out k
          have hlk := lat_lt (by omega) hLt (i + k)
          have hlim := hide (fun m : Nat => limb_same (.slice a1 y.length c1) y k B (wr.drewN m) (HB.out.below (below_drewN hLw m) hB) (by omega))
          obtain ⟨Y, hY⟩ : ∃ Y, Y = lat y k := ⟨_, rfl⟩
          obtain ⟨Q, hQ⟩ : ∃ Q, Q = lat L (i + k) := ⟨_, rfl⟩
          rw [← hY] at hyk hlim
          rw [← hQ] at hlk q1
          have hm := mul_lt_sq hxi hyk
          have p0 : (0 : Int) ≤ (X : Int) * (Y : Int) := Int.mul_nonneg (by omega) (by omega)
          have p1 : (X : Int) * (Y : Int) ≤ 999999998000000001 := by
            have : ((X * Y : Nat) : Int) ≤ 999999998000000001 := by omega
            rwa [Int.natCast_mul] at this
          have w1 : IntKind.i64.wrap ((i : Int) + (k : Int)) = (i : Int) + (k : Int) := IntWalk.i64_in _ (by omega)
          have w2 : IntKind.i64.wrap ((X : Int) * (Y : Int)) = (X : Int) * (Y : Int) := IntWalk.i64_in _ (by omega)
          have w3 : IntKind.i64.wrap ((Q : Int) + (X : Int) * (Y : Int)) = (Q : Int) + (X : Int) * (Y : Int) := IntWalk.i64_in _ (by omega)
          have w4 : IntKind.i64.wrap ((Q : Int) + (X : Int) * (Y : Int) + (C : Int)) = (Q : Int) + (X : Int) * (Y : Int) + (C : Int) := IntWalk.i64_in _ (by omega)
          have j0 : (0 : Int) ≤ (i : Int) + (k : Int) := by omega
          have j1 : (i : Int) + (k : Int) < (n : Int) := by omega
          have j2 : ((i : Int) + (k : Int)).toNat = i + k := by omega
          have HLv := hide hLv; have HLt := hide hLt; have HLn := hide hLn; have HLb := hide hLb; have HLw := hide hLw; have HYE := hide hY; have HQE := hide hQ; have HIK := hide hik
          clear hLv hLt hLn hLb hLw hY hQ hik hin
          go_wp2_with fail
          go_quiet ((go_at_call 70; exact Calls.quiet_of_same (hlim.out _)))
          clear w1 w2 w3 w4
          go_wp2_with fail
          have hdm := Nat.div_add_mod (Q + X * Y + C) 1000000000
          have hml := Nat.mod_lt (Q + X * Y + C) (show 0 < 1000000000 by omega)
          go_roundw
          case rel =>
            refine ⟨k + 1, (Q + X * Y + C) / 1000000000, by omega, by go_num, by simp, by omega, L.set (i + k) ((Q + X * Y + C) % 1000000000), by rw [List.length_set]; exact HLn.out, lt_set HLt.out hml, ?_, ?_, ?_⟩
            · rw [lvT_succ, ← HYE.out]
              have h1 := lv_set (b := 1000000000) ((Q + X * Y + C) % 1000000000) HIK.out
              rw [← HQE.out] at h1
              exact times_step HLv.out h1 (by omega)
            · exact row_set (w := wr.drewN nq) HLb.out (i + k) _
            · exact (below_drewN HLw.out nq).setCell (p := ⟨w.heap.size, i + k, none⟩) (Nat.le_refl _) _
          case measure => simp [intOf]; omega
        · have e4 : ¬ (k : Int) < (y.length : Int) + 1 := by omega
          have hk1 : k = y.length + 1 := by omega
          have htot := hLv.trans (times_total HV0.out (X := X) HXE.out (k := k) (by omega))
          have hC0 := times_zero (by omega) HX.out HY.out hk1 htot
          have HLE := hide (show lv 1000000000 L = lvT 1000000000 x (i + 1) * lv 1000000000 y by
            rw [hC0] at htot
            simpa using htot)
          clear htot
          have HLt := hide hLt; have HLn := hide hLn; have HLb := hide hLb; have HLw := hide hLw
          clear hLv hLt hLn hLb hLw hk1 hC0 hin
          go_wp2_with fail
          go_roundw
          case rel => exact ⟨i + 1, by omega, by go_num, L, HLn.out, HLt.out, HLE.out, HLb.out, HLw.out⟩
          case measure => simp [intOf]; omega
    · have e3 : ¬ (i : Int) < (x.length : Int) := by omega
      have HE := hide (show lv 1000000000 L0 = lv 1000000000 x * lv 1000000000 y by rw [hL0v, lvT_all (l := x) (i := i) (by omega)])
      have HT := hide (trim_any (some ⟨w.heap.size, 0, none⟩) n L0 wr.heap.size wr (by
        have := row_limbs hL0b (by unfold maxLen; omega)
        rw [hL0n] at this ⊢
        exact this) (by omega) (by omega))
      rw [hL0n] at HT
      have HO := hide (row_owns hL0b (Nat.le_refl _) (by unfold maxLen; omega))
      have HLn := hide hL0n; have HLw := hide hL0w; have HLt := hide hL0t
      clear hL0n hL0t hL0v hL0b hL0w hin
      go_wp2_with fail
      refine HT.out.mono ?_
      rintro e w1 ⟨rfl, rfl⟩
      go_wp2_with fail
      go_ret
      refine ⟨trimL L0, ⟨_, rfl, HLw.out, ?_⟩, trimL_norm HLt.out, by rw [trimL_lv, HE.out], ?_⟩
      · have hc := HO.out.cut (k := trimTo L0 n) (by rw [HLn.out]; exact trimTo_le _ _)
        rw [HLn.out] at hc
        unfold trimL
        rw [HLn.out]
        exact hc
      · rw [trimL_len]
        have := trimTo_le L0 L0.length
        have := HLn.out
        have := HN.out
        omega
end Go.Proofs.YthkioajalhglfaaGreatDoor
namespace Go.KI
open Go

theorem lv_cut (b : Nat) (l : List Nat) (k : Nat) (h : k ≤ l.length) : lv b l = lvT b l k + b ^ k * lv b (l.drop k) := by
  unfold lvT
  conv => lhs; rw [← List.take_append_drop k l]
  rw [lv_append, List.length_take, Nat.min_eq_left h]
theorem lat_drop (l : List Nat) (j i : Nat) : lat (l.drop j) i = lat l (j + i) := by
  unfold lat
  rw [List.getElem?_drop]
theorem lt_drop {b : Nat} {l : List Nat} (h : Lt b l) (j : Nat) : Lt b (l.drop j) := fun x hx => h x (List.mem_of_mem_drop hx)
theorem lt_take {b : Nat} {l : List Nat} (h : Lt b l) (j : Nat) : Lt b (l.take j) := fun x hx => h x (List.mem_of_mem_take hx)
/-- Limbs of one length and one value are the same. -/
theorem lv_inj {b : Nat} (hb : 0 < b) : ∀ {x y : List Nat}, Lt b x → Lt b y → x.length = y.length → lv b x = lv b y → x = y := by
  intro x
  induction x with
  | nil => intro y _ _ hl _; exact (List.eq_nil_of_length_eq_zero hl.symm).symm
  | cons a r ih =>
    intro y hx hy hl hv
    cases y with
    | nil => simp at hl
    | cons c s =>
      simp only [lv] at hv
      have ha := hx a (by simp)
      have hc := hy c (by simp)
      have h1 : a = c := by
        have e1 : (a + b * lv b r) % b = a := by rw [Nat.add_mul_mod_self_left, Nat.mod_eq_of_lt ha]
        have e2 : (c + b * lv b s) % b = c := by rw [Nat.add_mul_mod_self_left, Nat.mod_eq_of_lt hc]
        rw [← e1, hv, e2]
      subst h1
      have h2 : lv b r = lv b s := Nat.eq_of_mul_eq_mul_left hb (Nat.add_left_cancel hv)
      rw [ih (fun z hz => hx z (List.mem_cons_of_mem _ hz)) (fun z hz => hy z (List.mem_cons_of_mem _ hz)) (by simpa using hl) h2]
/-- Zeros above. -/
theorem high_zero {b : Nat} {l : List Nat} {n V : Nat} (hn : n ≤ l.length) (h : lv b l < V) (hV : V ≤ b ^ n) : lv b (l.drop n) = 0 ∧ lv b l = lvT b l n := by
  have h1 := lv_cut b l n hn
  have h2 : lv b (l.drop n) = 0 := by
    rcases Nat.eq_zero_or_pos (lv b (l.drop n)) with h3 | h3
    · exact h3
    · have : b ^ n * 1 ≤ b ^ n * lv b (l.drop n) := Nat.mul_le_mul_left _ h3
      omega
  rw [h2] at h1
  exact ⟨h2, by omega⟩
/-- The two lists agree ahead of the window and behind it. -/
structure WinEq (j n : Nat) (L M : List Nat) : Prop where
  len : M.length = L.length
  low : M.take j = L.take j
  high : M.drop (j + n) = L.drop (j + n)
theorem WinEq.refl (j n : Nat) (L : List Nat) : WinEq j n L L := ⟨rfl, rfl, rfl⟩
theorem WinEq.trans {j n : Nat} {a c d : List Nat} (h : WinEq j n a c) (k : WinEq j n c d) : WinEq j n a d := ⟨k.len.trans h.len, k.low.trans h.low, k.high.trans h.high⟩
theorem WinEq.set {j n : Nat} {L M : List Nat} (h : WinEq j n L M) {i : Nat} (hi : i < n) (v : Nat) : WinEq j n L (M.set (j + i) v) := by
  refine ⟨by rw [List.length_set]; exact h.len, ?_, ?_⟩
  · rw [← h.low, List.take_set_of_le (by omega)]
  · rw [← h.high, List.drop_set_of_lt (by omega)]
theorem drop_set_add (L : List Nat) (j i v : Nat) : (L.set (j + i) v).drop j = (L.drop j).set i v := by
  rw [List.drop_set, if_neg (by omega)]
  congr 1
  omega
theorem lvT_set_past {b : Nat} {L : List Nat} {i v : Nat} : lvT b (L.set i v) i = lvT b L i := by
  unfold lvT
  rw [List.take_set_of_le (Nat.le_refl _)]
/-- A window of limbs, i of them turned: the value of the turned ones. -/
theorem win_set {b : Nat} {M : List Nat} {j i v : Nat} (hi : j + i < M.length) : lvT b ((M.set (j + i) v).drop j) (i + 1) = lvT b (M.drop j) i + b ^ i * v := by
  rw [drop_set_add, lvT_succ, lvT_set_past, lat_set (by rw [List.length_drop]; omega), if_pos rfl]
theorem win_keep {L M : List Nat} {j i : Nat} (h : M.drop (j + i) = L.drop (j + i)) : lat M (j + i) = lat L (j + i) := by
  have h1 := lat_drop M (j + i) 0
  have h2 := lat_drop L (j + i) 0
  rw [Nat.add_zero] at h1 h2
  rw [← h1, ← h2, h]
theorem drop_set_next {L M : List Nat} {j i v : Nat} (h : M.drop (j + i) = L.drop (j + i)) : (M.set (j + i) v).drop (j + (i + 1)) = L.drop (j + (i + 1)) := by
  rw [List.drop_set_of_lt (by omega), show j + (i + 1) = (j + i) + 1 by omega]
  have h1 := congrArg (List.drop 1) h
  simpa only [List.drop_drop] using h1

/-- One limb taken: n + c + q y = x + b c2. -/
theorem take_step {b i q o c c2 n x y X Y : Nat} (h : o + q * Y = X + b ^ i * c) (h2 : n + c + q * y = x + b * c2) : (o + b ^ i * n) + q * (Y + b ^ i * y) = (X + b ^ i * x) + b ^ (i + 1) * c2 := by
  rw [Nat.pow_succ]
  have h3 : b ^ i * (n + c + q * y) = b ^ i * (x + b * c2) := by rw [h2]
  grind
/-- One limb put back: x + q y + c = n + b c2. -/
theorem rest_step {b i q o c c2 n x y X Y : Nat} (h : o + b ^ i * c = X + q * Y) (h2 : x + q * y + c = n + b * c2) : (o + b ^ i * n) + b ^ (i + 1) * c2 = (X + b ^ i * x) + q * (Y + b ^ i * y) := by
  rw [Nat.pow_succ]
  have h3 : b ^ i * (x + q * y + c) = b ^ i * (n + b * c2) := by rw [h2]
  grind
/-- Taken and put back: as it was. -/
theorem win_back {b j n q V : Nat} (hb : 0 < b) {L M R : List Nat} {c c2 : Nat} (hL : Lt b L) (hR : Lt b R) (h1 : WinEq j n L M) (h2 : WinEq j n M R)
    (e1 : lvT b (M.drop j) n + q * V = lvT b (L.drop j) n + b ^ n * c) (e2 : lvT b (R.drop j) n + b ^ n * c2 = lvT b (M.drop j) n + q * V) : R = L := by
  have h3 := h1.trans h2
  have b1 := lvT_lt hb (lt_drop hL j) n
  have b2 := lvT_lt hb (lt_drop hR j) n
  have e3 : lvT b (R.drop j) n + b ^ n * c2 = lvT b (L.drop j) n + b ^ n * c := by rw [e2, e1]
  have e4 : lvT b (R.drop j) n = lvT b (L.drop j) n := by
    have f1 : (lvT b (R.drop j) n + b ^ n * c2) % b ^ n = lvT b (R.drop j) n := by rw [Nat.add_mul_mod_self_left, Nat.mod_eq_of_lt b2]
    have f2 : (lvT b (L.drop j) n + b ^ n * c) % b ^ n = lvT b (L.drop j) n := by rw [Nat.add_mul_mod_self_left, Nat.mod_eq_of_lt b1]
    rw [← f1, e3, f2]
  have e5 : (R.drop j).take n = (L.drop j).take n := by
    refine lv_inj hb (lt_take (lt_drop hR j) n) (lt_take (lt_drop hL j) n) ?_ e4
    rw [List.length_take, List.length_take, List.length_drop, List.length_drop, h3.len]
  have k1 : R = R.take j ++ ((R.drop j).take n ++ R.drop (j + n)) := by rw [← List.drop_drop, List.take_append_drop, List.take_append_drop]
  have k2 : L = L.take j ++ ((L.drop j).take n ++ L.drop (j + n)) := by rw [← List.drop_drop, List.take_append_drop, List.take_append_drop]
  rw [k1, k2, h3.low, h3.high, e5]
/-- Three upper limbs bound the value from above. -/
theorem top3_lt {b : Nat} (hb : 0 < b) {l : List Nat} (h : Lt b l) (n : Nat) : lvT b l (n + 3) < b ^ n * (lat l n + b * lat l (n + 1) + b * (b * lat l (n + 2)) + 1) := by
  have h0 := lvT_lt hb h n
  have h1 : lvT b l (n + 3) = lvT b l n + b ^ n * (lat l n + b * lat l (n + 1) + b * (b * lat l (n + 2))) := by
    have p1 : b ^ (n + 1) = b ^ n * b := Nat.pow_succ ..
    have p2 : b ^ (n + 2) = b ^ n * b * b := by rw [show n + 2 = n + 1 + 1 from rfl, Nat.pow_succ, Nat.pow_succ]
    rw [lvT_succ, lvT_succ, lvT_succ, p1, p2]
    generalize b ^ n = P
    have e1 : P * (b * (b * lat l (n + 2))) = P * b * b * lat l (n + 2) := by rw [← Nat.mul_assoc, ← Nat.mul_assoc]
    have e2 : P * (b * lat l (n + 1)) = P * b * lat l (n + 1) := by rw [← Nat.mul_assoc]
    rw [Nat.mul_add, Nat.mul_add, e1, e2]
    omega
  rw [h1, Nat.mul_add _ _ 1, Nat.mul_one]
  omega
theorem top2_le {b : Nat} (l : List Nat) (n : Nat) : b ^ n * (lat l n + b * lat l (n + 1)) ≤ lvT b l (n + 2) := by
  rw [lvT_succ, lvT_succ, Nat.pow_succ]
  generalize b ^ n = P
  have : P * (lat l n + b * lat l (n + 1)) = P * lat l n + P * b * lat l (n + 1) := by grind
  omega
theorem top2_lt {b : Nat} (hb : 0 < b) {l : List Nat} (h : Lt b l) (n : Nat) : lvT b l (n + 1) < b ^ n * (lat l n + 1) := by
  rw [lvT_succ, Nat.mul_add, Nat.mul_one]
  have := lvT_lt hb h n
  omega
/-- The guess is not less than the quotient: it stays so when it is lowered because of the second limb. -/
theorem est_lower {P b q r t v1 v2 u0 U V : Nat} (hU : U < P * (t * b + u0 + 1)) (hV : P * (v2 + b * v1) ≤ V) (hqr : q * v1 + r = t) (hgt : r * b + u0 < q * v2) : U < q * V := by
  have h1 : t * b + u0 + 1 ≤ q * (v2 + b * v1) := by
    have : t * b = q * v1 * b + r * b := by rw [← hqr, Nat.add_mul]
    have : q * (v2 + b * v1) = q * v2 + q * v1 * b := by grind
    omega
  have h2 : P * (t * b + u0 + 1) ≤ P * (q * (v2 + b * v1)) := Nat.mul_le_mul_left _ h1
  have h3 : P * (q * (v2 + b * v1)) = q * (P * (v2 + b * v1)) := by grind
  have h4 : q * (P * (v2 + b * v1)) ≤ q * V := Nat.mul_le_mul_left _ hV
  omega
/-- The first guess. -/
theorem est_start {P b t v1 u0 U V : Nat} (hv : 0 < v1) (hu : u0 < b) (hU : U < P * (t * b + u0 + 1)) (hV : P * (b * v1) ≤ V) : U < (t / v1 + 1) * V := by
  have h1 := Nat.div_add_mod t v1
  have h2 := Nat.mod_lt t hv
  have h3 : t * b + u0 + 1 ≤ (t / v1 + 1) * (b * v1) := by
    have e : (t / v1 + 1) * (b * v1) = (v1 * (t / v1) + v1) * b := by grind
    have : (t + 1) * b ≤ (v1 * (t / v1) + v1) * b := Nat.mul_le_mul_right _ (by omega)
    have : (t + 1) * b = t * b + b := by grind
    omega
  have h4 : P * (t * b + u0 + 1) ≤ P * ((t / v1 + 1) * (b * v1)) := Nat.mul_le_mul_left _ h3
  have h5 : P * ((t / v1 + 1) * (b * v1)) = (t / v1 + 1) * (P * (b * v1)) := by grind
  have h6 : (t / v1 + 1) * (P * (b * v1)) ≤ (t / v1 + 1) * V := Nat.mul_le_mul_left _ hV
  omega
/-- One round of the long division. -/
theorem round_div {b j V U S S2 q Q : Nat} {T : Nat} (h : T + b ^ (j + 1) * (S + V * Q) = U) (x : Nat) (h2 : x + b * S = S2 + V * q) : ∀ T2, T = T2 + b ^ j * x → T2 + b ^ j * (S2 + V * (q + b * Q)) = U := by
  intro T2 hT
  rw [← h, hT, Nat.pow_succ]
  have : b ^ j * (x + b * S) = b ^ j * (S2 + V * q) := by rw [h2]
  grind
/-- The floor's quotient and remainder, from those of the sizes. -/
theorem floor_long (m1 m2 : Bool) {a b : Nat} (hb : 0 < b) :
    ((m1 = m2 ∨ a % b = 0) → valS (!(m1 == m2)) (a / b) = (valS m1 a).fdiv (valS m2 b) ∧ valS m2 (a % b) = (valS m1 a).fmod (valS m2 b)) ∧
    (m1 ≠ m2 → a % b ≠ 0 → valS (!(m1 == m2)) (a / b + 1) = (valS m1 a).fdiv (valS m2 b) ∧ valS m2 (b - a % b) = (valS m1 a).fmod (valS m2 b)) := by
  have h1 := Nat.div_add_mod a b
  have h2 := Nat.mod_lt a hb
  obtain ⟨q, hq⟩ : ∃ q, q = a / b := ⟨_, rfl⟩
  obtain ⟨r, hr⟩ : ∃ r, r = a % b := ⟨_, rfl⟩
  rw [← hq, ← hr] at h1 ⊢
  rw [← hr] at h2
  clear hq hr
  have h3 : (b : Int) * (q : Int) + (r : Int) = (a : Int) := by rw [← h1]; simp
  have h4 : -(b : Int) * (q : Int) = -((b : Int) * q) := Int.neg_mul ..
  have h5 : (b : Int) * -(q : Int) = -((b : Int) * q) := Int.mul_neg ..
  have h6 : -(b : Int) * -(q : Int) = (b : Int) * q := Int.neg_mul_neg ..
  have h7 : (b : Int) * -((q + 1 : Nat) : Int) = -((b : Int) * q) - b := by rw [Int.mul_neg, Int.natCast_add, Int.mul_add, Int.natCast_one, Int.mul_one]; omega
  have h8 : -(b : Int) * ((q + 1 : Nat) : Int) = -((b : Int) * q) - b := by rw [Int.neg_mul, Int.natCast_add, Int.mul_add, Int.natCast_one, Int.mul_one]; omega
  have hbp : (0 : Int) < (b : Int) := by omega
  have hbn : -(b : Int) < 0 := by omega
  constructor
  · intro h
    cases m1 <;> cases m2 <;> simp only [valS, Bool.false_eq_true, if_false, if_true, beq_self_eq_true, Bool.not_true, show (false == true) = false from rfl, show (true == false) = false from rfl, Bool.not_false]
    · have := (Int.fdiv_fmod_unique (a := (a : Int)) (r := (r : Int)) (q := (q : Int)) hbp).2 ⟨by omega, by omega, by omega⟩
      exact ⟨this.1.symm, this.2.symm⟩
    · have h0 : r = 0 := by simpa using h
      have := (Int.fdiv_fmod_unique' (a := (a : Int)) (r := -(r : Int)) (q := -(q : Int)) hbn).2 ⟨by omega, by omega, by omega⟩
      exact ⟨this.1.symm, this.2.symm⟩
    · have h0 : r = 0 := by simpa using h
      have := (Int.fdiv_fmod_unique (a := -(a : Int)) (r := (r : Int)) (q := -(q : Int)) hbp).2 ⟨by omega, by omega, by omega⟩
      exact ⟨this.1.symm, this.2.symm⟩
    · have := (Int.fdiv_fmod_unique' (a := -(a : Int)) (r := -(r : Int)) (q := (q : Int)) hbn).2 ⟨by omega, by omega, by omega⟩
      exact ⟨this.1.symm, this.2.symm⟩
  · intro hm h0
    cases m1 <;> cases m2 <;> simp only [valS, Bool.false_eq_true, if_false, if_true, beq_self_eq_true, Bool.not_true, show (false == true) = false from rfl, show (true == false) = false from rfl, Bool.not_false]
    · exact absurd rfl hm
    · have := (Int.fdiv_fmod_unique' (a := (a : Int)) (r := -((b - r : Nat) : Int)) (q := -((q + 1 : Nat) : Int)) hbn).2 ⟨by rw [Int.neg_mul_neg, Int.natCast_add, Int.mul_add, Int.natCast_one, Int.mul_one]; omega, by omega, by omega⟩
      exact ⟨this.1.symm, this.2.symm⟩
    · have := (Int.fdiv_fmod_unique (a := -(a : Int)) (r := ((b - r : Nat) : Int)) (q := -((q + 1 : Nat) : Int)) hbp).2 ⟨by omega, by omega, by omega⟩
      exact ⟨this.1.symm, this.2.symm⟩
    · exact absurd rfl hm
theorem fdiv_natAbs_le {x y : Int} (hy : y ≠ 0) : (x.fdiv y).natAbs ≤ x.natAbs := by
  have h := Int.mul_fdiv_add_fmod x y
  have hr : (y < 0 → y < x.fmod y ∧ x.fmod y ≤ 0) ∧ (0 < y → 0 ≤ x.fmod y ∧ x.fmod y < y) := by
    constructor
    · intro hn
      exact ((Int.fdiv_fmod_unique' (a := x) (r := x.fmod y) (q := x.fdiv y) hn).1 ⟨rfl, rfl⟩).2
    · intro hp
      exact ((Int.fdiv_fmod_unique (a := x) (r := x.fmod y) (q := x.fdiv y) hp).1 ⟨rfl, rfl⟩).2
  obtain ⟨q, hq⟩ : ∃ q, q = x.fdiv y := ⟨_, rfl⟩
  obtain ⟨r, hr2⟩ : ∃ r, r = x.fmod y := ⟨_, rfl⟩
  rw [← hq, ← hr2] at h
  rw [← hr2] at hr
  rw [← hq]
  clear hq hr2
  rcases Nat.eq_zero_or_pos q.natAbs with h0 | h0
  · omega
  have e : (y * q).natAbs = y.natAbs * q.natAbs := Int.natAbs_mul ..
  have e2 : y.natAbs + q.natAbs ≤ y.natAbs * q.natAbs + 1 := by
    obtain ⟨s, hs⟩ : ∃ s, y.natAbs = s + 1 := ⟨y.natAbs - 1, by omega⟩
    obtain ⟨t, ht⟩ : ∃ t, q.natAbs = t + 1 := ⟨q.natAbs - 1, by omega⟩
    rw [hs, ht]
    have : (s + 1) * (t + 1) = s * t + s + t + 1 := by grind
    omega
  omega
theorem fmod_natAbs_lt {x y : Int} (hy : y ≠ 0) : (x.fmod y).natAbs < y.natAbs := by
  rcases Int.lt_or_gt_of_ne hy with hn | hp
  · have := ((Int.fdiv_fmod_unique' (a := x) (r := x.fmod y) (q := x.fdiv y) hn).1 ⟨rfl, rfl⟩).2
    omega
  · have := ((Int.fdiv_fmod_unique (a := x) (r := x.fmod y) (q := x.fdiv y) hp).1 ⟨rfl, rfl⟩).2
    omega
/-- What the guess of a limb of the quotient keeps: q, the rest r of the upper two limbs T; S is the window's value, W the divisor's. -/
def EstAt (v1 T S W q r : Nat) : Prop := q * v1 + r = T ∧ S < (q + 1) * W
/-- What the guess starts from. -/
structure EstIn (b v1 v2 x0 x1 u0 S W : Nat) : Prop where
  pos : 0 < v1
  x0le : x0 ≤ v1
  x1lt : x1 < b
  u0lt : u0 < b
  small : S < b * W
  high : ∃ P, S < P * ((x0 * b + x1) * b + u0 + 1) ∧ P * (v2 + b * v1) ≤ W
theorem EstIn.of {b : Nat} (hb : 0 < b) {L V : List Nat} (hL : Lt b L) (hV : Norm b V) {j m : Nat} (hm : V.length = m + 2) (hn : j + (m + 2) < L.length) (h : lv b (L.drop (j + 1)) < lv b V) :
    EstIn b (lat V (m + 1)) (lat V m) (lat L (j + (m + 2))) (lat L (j + (m + 1))) (lat L (j + m)) (lvT b (L.drop j) (m + 3)) (lv b V) ∧ lv b (L.drop j) = lvT b (L.drop j) (m + 3) := by
  have hVl : lv b V < b ^ (m + 2) := by rw [← hm]; exact lv_lt hV.lt
  have hz := high_zero (b := b) (l := L.drop (j + 1)) (n := m + 2) (by rw [List.length_drop]; omega) h (Nat.le_of_lt hVl)
  have hdd : (L.drop j).drop (m + 3) = (L.drop (j + 1)).drop (m + 2) := by
    rw [List.drop_drop, List.drop_drop]
    congr 1
    omega
  have hcut := lv_cut b (L.drop j) (m + 3) (by rw [List.length_drop]; omega)
  rw [hdd, hz.1, Nat.mul_zero, Nat.add_zero] at hcut
  have hne : V ≠ [] := fun e => by rw [e] at hm; simp at hm
  have ht := hV.top.resolve_left hne
  rw [hm, show m + 2 - 1 = m + 1 by omega] at ht
  have hVt : lvT b V (m + 2) = lv b V := lvT_all (by omega)
  have hS : lvT b (L.drop j) (m + 3) < b * lv b V := by
    have h1 : lv b (L.drop j) = lat L j + b * lv b (L.drop (j + 1)) := by
      rw [List.drop_eq_getElem_cons (show j < L.length by omega)]
      show L[j] + b * lv b (L.drop (j + 1)) = _
      rw [lat_at (show j < L.length by omega)]
    have h2 := lat_lt hb hL j
    have h3 : b * (lv b (L.drop (j + 1)) + 1) ≤ b * lv b V := Nat.mul_le_mul_left b h
    rw [Nat.mul_add, Nat.mul_one] at h3
    omega
  refine ⟨⟨by omega, ?_, lat_lt hb hL _, lat_lt hb hL _, hS, b ^ m, ?_, ?_⟩, hcut⟩
  · have h1 := top2_lt hb hV.lt (m + 1)
    rw [hVt] at h1
    have h2 : b ^ (m + 1) * lat (L.drop (j + 1)) (m + 1) ≤ lvT b (L.drop (j + 1)) (m + 2) := by
      rw [lvT_succ]
      omega
    rw [lat_drop, show j + 1 + (m + 1) = j + (m + 2) by omega] at h2
    have h3 : b ^ (m + 1) * lat L (j + (m + 2)) < b ^ (m + 1) * (lat V (m + 1) + 1) := by
      rw [← hz.2] at h2
      omega
    have h4 := Nat.lt_of_mul_lt_mul_left h3
    omega
  · have h1 := top3_lt hb (lt_drop hL j) m
    rw [lat_drop, lat_drop, lat_drop] at h1
    have e : (lat L (j + (m + 2)) * b + lat L (j + (m + 1))) * b + lat L (j + m) + 1 = lat L (j + m) + b * lat L (j + (m + 1)) + b * (b * lat L (j + (m + 2))) + 1 := by grind
    rw [e]
    exact h1
  · have h1 := top2_le (b := b) V m
    rw [hVt] at h1
    exact h1
theorem EstIn.start {b v1 v2 x0 x1 u0 S W : Nat} (h : EstIn b v1 v2 x0 x1 u0 S W) : EstAt v1 (x0 * b + x1) S W ((x0 * b + x1) / v1) ((x0 * b + x1) % v1) ∧ (x0 * b + x1) / v1 < 2 * b := by
  obtain ⟨P, h1, h2⟩ := h.high
  refine ⟨⟨?_, ?_⟩, ?_⟩
  · rw [Nat.mul_comm]
    exact Nat.div_add_mod _ _
  · refine est_start h.pos h.u0lt h1 (Nat.le_trans (Nat.mul_le_mul_left P ?_) h2)
    omega
  · rw [Nat.div_lt_iff_lt_mul h.pos]
    have h3 : x0 * b ≤ v1 * b := Nat.mul_le_mul_right b h.x0le
    have h4 : 1 * b ≤ v1 * b := Nat.mul_le_mul_right b h.pos
    have h5 : 2 * b * v1 = v1 * b + v1 * b := by grind
    have := h.x1lt
    omega
theorem EstIn.down {b v1 v2 x0 x1 u0 S W q r : Nat} (h : EstIn b v1 v2 x0 x1 u0 S W) (ha : EstAt v1 (x0 * b + x1) S W q r) (hq : b ≤ q ∨ r * b + u0 < q * v2) (h1 : 1 ≤ q) : EstAt v1 (x0 * b + x1) S W (q - 1) (r + v1) := by
  obtain ⟨k, rfl⟩ : ∃ k, q = k + 1 := ⟨q - 1, by omega⟩
  rw [Nat.add_sub_cancel]
  have e : (k + 1) * v1 = k * v1 + v1 := by rw [Nat.add_mul, Nat.one_mul]
  refine ⟨by have := ha.1; omega, ?_⟩
  rcases hq with hq | hq
  · exact Nat.lt_of_lt_of_le h.small (Nat.mul_le_mul_right W hq)
  · obtain ⟨P, g1, g2⟩ := h.high
    exact est_lower g1 g2 ha.1 hq
theorem EstIn.stop {b v1 v2 x0 x1 u0 S W q r : Nat} (h : EstIn b v1 v2 x0 x1 u0 S W) (ha : EstAt v1 (x0 * b + x1) S W q r) (hr : b ≤ r) : q < b := by
  rcases Nat.lt_or_ge q b with h1 | h1
  · exact h1
  · have h2 : b * v1 ≤ q * v1 := Nat.mul_le_mul_right v1 h1
    have h3 : x0 * b ≤ v1 * b := Nat.mul_le_mul_right b h.x0le
    have h4 : v1 * b = b * v1 := Nat.mul_comm ..
    have := ha.1
    have := h.x1lt
    omega
end Go.KI
namespace Go.Proofs.YthkioajalhglfaaGreatDoor
open Go.RowKit Go.KP Go.KI Go.Shelf
attribute [local go_sem] Oper.semAt_some

/-- From w to w2 only block g has turned. -/
structure Only (g : Nat) (w w2 : World) : Prop where
  os : w2.os = w.os
  tape : w2.tape = w.tape
  output : w2.output = w.output
  size : w.heap.size ≤ w2.heap.size
  block : ∀ b, b ≠ g → b < w.heap.size → w2.heap[b]? = w.heap[b]?
theorem Only.refl (g : Nat) (w : World) : Only g w w := ⟨rfl, rfl, rfl, Nat.le_refl _, fun _ _ _ => rfl⟩
theorem Only.trans {g : Nat} {a b c : World} (h : Only g a b) (k : Only g b c) : Only g a c :=
  ⟨k.os.trans h.os, k.tape.trans h.tape, k.output.trans h.output, Nat.le_trans h.size k.size, fun i hi hl => (k.block i hi (Nat.lt_of_lt_of_le hl h.size)).trans (h.block i hi hl)⟩
theorem Only.drewN {g : Nat} {a w : World} (h : Only g a w) (n : Nat) : Only g a (w.drewN n) := ⟨h.os, h.tape, h.output, h.size, h.block⟩
theorem Only.set {g : Nat} {a w : World} (h : Only g a w) (k : Nat) (v : Value) : Only g a (w.setCell ⟨g, k, none⟩ v) :=
  ⟨h.os, h.tape, h.output, by rw [setCell_size]; exact h.size, fun b hb hl => (setCell_other (Ne.symm hb)).trans (h.block b hb hl)⟩
theorem Only.below {g n : Nat} {a w w2 : World} (h : Below n a w) (k : Only g w w2) (hn : n ≤ g) (hs : n ≤ w.heap.size) : Below n a w2 :=
  h.trans ⟨k.os, k.tape, k.output, k.size, fun b hb => k.block b (by omega) (by omega)⟩
/-- Block g begins with the limbs L; it has c cells. -/
def RowAt (w : World) (g c : Nat) (L : List Nat) : Prop := ∃ cur : Array Value, w.heap[g]? = some (.cells cur 3 (0, 0)) ∧ L.length ≤ c ∧ c ≤ maxLen ∧ cur.size = c * 1 ∧ cur.toList.take (L.length * 1) = icells L
theorem RowAt.cell {w : World} {g c : Nat} {L : List Nat} (h : RowAt w g c L) {i : Nat} (hi : i < L.length) : w.cell? ⟨g, i, none⟩ = some (.int .i64 (lat L i)) := by
  obtain ⟨cur, h1, _, _, _, h2⟩ := h
  rw [cell_blk h1, ← Array.getElem?_toList]
  have h3 := icells_at hi
  rw [← h2, List.getElem?_take, if_pos (by omega)] at h3
  exact h3
theorem RowAt.froz {w : World} {g c : Nat} {L : List Nat} (h : RowAt w g c L) (i : Nat) : w.frozen? ⟨g, i, none⟩ = false := by
  obtain ⟨cur, h1, _⟩ := h
  exact froz_blk h1 i
theorem RowAt.set {w : World} {g c : Nat} {L : List Nat} (h : RowAt w g c L) (k v : Nat) : RowAt (w.setCell ⟨g, k, none⟩ (.int .i64 v)) g c (L.set k v) := by
  obtain ⟨cur, h1, h2, h3, h4, h5⟩ := h
  refine ⟨cur.setIfInBounds k (.int .i64 v), ?_, by rw [List.length_set]; exact h2, h3, by simpa using h4, ?_⟩
  · simp only [World.setCell, Array.getElem?_modify, h1]
    simp
  · rw [List.length_set, Array.toList_setIfInBounds, List.take_set, h5]
    simp [icells, List.map_set]
theorem RowAt.only {w w2 : World} {g g2 c : Nat} {L : List Nat} (h : RowAt w g c L) (k : Only g2 w w2) (hg : g ≠ g2) : RowAt w2 g c L := by
  obtain ⟨cur, h1, h2⟩ := h
  exact ⟨cur, (k.block g hg (lt_blk h1)).trans h1, h2⟩
theorem RowAt.below {w w2 : World} {n g c : Nat} {L : List Nat} (h : RowAt w g c L) (k : Below n w w2) (hg : g < n) : RowAt w2 g c L := by
  obtain ⟨cur, h1, h2⟩ := h
  exact ⟨cur, below_blk k h1 hg, h2⟩
theorem RowAt.lt {w : World} {g c : Nat} {L : List Nat} (h : RowAt w g c L) : g < w.heap.size := by
  obtain ⟨cur, h1, _⟩ := h
  exact lt_blk h1
theorem RowAt.own {w : World} {g c base : Nat} {L : List Nat} (h : RowAt w g c L) (hb : base ≤ g) : OwnL base w (.slice (some ⟨g, 0, none⟩) L.length c) L := by
  obtain ⟨cur, h1, h2, h3, h4, h5⟩ := h
  exact ⟨by rw [icells_len]; omega, .inr ⟨g, c, cur, rfl, hb, h1, h2, h3, h4, h5⟩⟩
theorem RowAt.limbs {w : World} {g c : Nat} {L : List Nat} (h : RowAt w g c L) : LimbAt w.heap.size w (.slice (some ⟨g, 0, none⟩) L.length c) L := (h.own (Nat.zero_le _)).at_
theorem OwnL.row {base : Nat} {w : World} {v : Value} {L : List Nat} (h : OwnL base w v L) (h0 : L ≠ []) : ∃ g c, v = .slice (some ⟨g, 0, none⟩) L.length c ∧ base ≤ g ∧ RowAt w g c L := by
  rcases h.2 with ⟨_, h2⟩ | ⟨g, cap, cur, hv, h1, h2, h3, h4, h5, h6⟩
  · exact absurd (List.eq_nil_of_length_eq_zero h2) h0
  · exact ⟨g, cap, hv, h1, cur, h2, h3, h4, h5, h6⟩

/-- What take leaves: the window of L less q times V, and whether that was too much. -/
def TakeRes (g c : Nat) (L V : List Nat) (j q n : Nat) (w : World) (e : Ending) (w' : World) : Prop := ∃ (C : Nat) (M : List Nat), e = .returned (.bool (decide (0 < C))) ∧ Only g w w' ∧ RowAt w' g c M ∧ Lt 1000000000 M ∧ WinEq j (n + 1) L M ∧
  lvT 1000000000 (M.drop j) (n + 1) + q * lv 1000000000 V = lvT 1000000000 (L.drop j) (n + 1) + 1000000000 ^ (n + 1) * C
/-- What restore leaves. -/
def RestRes (g c : Nat) (L V : List Nat) (j q n N : Nat) (w : World) (e : Ending) (w' : World) : Prop := ∃ (C : Nat) (M : List Nat), e = .returned (.slice (some ⟨g, 0, none⟩) N c) ∧ Only g w w' ∧ RowAt w' g c M ∧ Lt 1000000000 M ∧ WinEq j (n + 1) L M ∧
  lvT 1000000000 (M.drop j) (n + 1) + 1000000000 ^ (n + 1) * C = lvT 1000000000 (L.drop j) (n + 1) + q * lv 1000000000 V
theorem take_nums {X C p : Nat} (hX : X < 1000000000) (hC : C < 1000000000) (hp : p ≤ 999999998000000001) (h : X < C + p) :
    ∃ m C2 R : Nat, (X : Int) - (C : Int) - (p : Int) = -(m : Int) ∧ ((m : Int) + 1000000000 - 1) / 1000000000 = (C2 : Int) ∧ (0 : Int) < (m : Int) ∧ (m : Int) ≤ 999999999000000000 ∧ (C2 : Int) < 1000000000 ∧
      IntKind.i64.wrap (-(m : Int) + (C2 : Int) * 1000000000) = (R : Int) ∧ R < 1000000000 ∧ R + C + p = X + 1000000000 * C2 := by
  obtain ⟨m, hm⟩ : ∃ m, m = C + p - X := ⟨_, rfl⟩
  obtain ⟨C2, hC2⟩ : ∃ C2, C2 = (m + 999999999) / 1000000000 := ⟨_, rfl⟩
  have h1 := Nat.div_add_mod (m + 999999999) 1000000000
  have h2 := Nat.mod_lt (m + 999999999) (show 0 < 1000000000 by omega)
  rw [← hC2] at h1
  have e : ((m : Int) + 1000000000 - 1) / 1000000000 = (C2 : Int) := by
    omega
  clear hC2
  obtain ⟨s, hs⟩ : ∃ s, s = (m + 999999999) % 1000000000 := ⟨_, rfl⟩
  rw [← hs] at h1 h2
  clear hs
  exact ⟨m, C2, C2 * 1000000000 - m, by omega, e, by omega, by omega, by omega, by rw [IntWalk.i64_in _ (by omega)]; omega, by omega, by omega⟩
set_option maxRecDepth 100000 in
set_option maxHeartbeats 4000000 in
theorem take_any (g c : Nat) (L : List Nat) (gv cv : Nat) (V : List Nat) (j q : Nat) (w : World) (hL : RowAt w g c L) (hV : RowAt w gv cv V) (hne : gv ≠ g) (hl : Lt 1000000000 L) (hv : Lt 1000000000 V) (hj : j + V.length + 1 ≤ L.length) (hq : q < 1000000000) (lL : L.length ≤ 200000) :
    Calls Tryz.prog 76 #[.slice (some ⟨g, 0, none⟩) L.length c, .slice (some ⟨gv, 0, none⟩) V.length cv, .int .i64 j, .int .i64 q] w (TakeRes g c L V j q V.length w) := by
  obtain ⟨N, hN⟩ : ∃ N, N = L.length := ⟨_, rfl⟩
  obtain ⟨n, hn⟩ : ∃ n, n = V.length := ⟨_, rfl⟩
  have HV := hide hV; have HL := hide hL; have LV := hide hv; have LL := hide hl; have HN := hide hN; have HNV := hide hn
  rw [← hN] at hj lL ⊢
  rw [← hn] at hj ⊢
  have hne2 := hide hne
  clear hV hL hv hl hN hn hne
  go_enter Tryz.func76, Tryz.ntmps76
  go_wp2_with fail
  go_loopw [9, 15] (fun cc i wr => ∃ (k C : Nat), k ≤ n + 1 ∧ i = .int .i64 k ∧ cc = .int .i64 C ∧ C < 1000000000 ∧ Hid (∃ M : List Nat, Only g w wr ∧ RowAt wr g c M ∧ Lt 1000000000 M ∧ WinEq j (n + 1) L M ∧ M.drop (j + k) = L.drop (j + k) ∧ lvT 1000000000 (M.drop j) k + q * lvT 1000000000 V k = lvT 1000000000 (L.drop j) k + 1000000000 ^ k * C)) (fun _ i _ => n + 1 - (intOf i).toNat)
  case atStart =>
    refine ⟨0, 0, Nat.zero_le _, rfl, rfl, by omega, L, Only.refl _ _, HL.out, LL.out, WinEq.refl _ _ _, rfl, ?_⟩
    show 0 + q * 0 = 0 + 1000000000 ^ 0 * 0
    rw [Nat.mul_zero, Nat.mul_zero]
  case round =>
    obtain ⟨k, C, hk, rfl, rfl, hC, hin⟩ := hrel
    obtain ⟨M, hO, hR, hM, hW, hD, hval⟩ := hin.out
    by_cases hlt : k < n + 1
    · have e4 : (k : Int) < (n : Int) + 1 := by omega
      have hMl : M.length = N := hW.len.trans HN.out.symm
      have hjk : j + k < M.length := by omega
      have q1 := hR.cell hjk
      have q2 := hR.froz (j + k)
      have hlk := lat_lt (by omega) hM (j + k)
      have hyk := lat_lt (by omega) LV.out k
      have hlim := hide (fun m : Nat => limb_same (.slice (some ⟨gv, 0, none⟩) n cv) V k wr.heap.size (wr.drewN m) (by rw [HNV.out]; exact (RowAt.limbs (w := wr.drewN m) (HV.out.only (hO.drewN m) hne2.out))) (by omega))
      obtain ⟨Y, hY⟩ : ∃ Y, Y = lat V k := ⟨_, rfl⟩
      obtain ⟨X, hX⟩ : ∃ X, X = lat M (j + k) := ⟨_, rfl⟩
      rw [← hY] at hyk hlim
      rw [← hX] at hlk q1
      have hm := mul_lt_sq hq hyk
      obtain ⟨p, hp⟩ : ∃ p, p = q * Y := ⟨_, rfl⟩
      have hpi : (q : Int) * (Y : Int) = (p : Int) := by rw [hp, Int.natCast_mul]
      rw [← hp] at hm
      have w0 : IntKind.i64.wrap ((j : Int) + (k : Int)) = (j : Int) + (k : Int) := IntWalk.i64_in _ (by omega)
      have w1 : IntKind.i64.wrap ((X : Int) - (C : Int)) = (X : Int) - (C : Int) := IntWalk.i64_in _ (by omega)
      have w2 : IntKind.i64.wrap (p : Int) = (p : Int) := IntWalk.i64_in _ (by omega)
      have j0 : (0 : Int) ≤ (j : Int) + (k : Int) := by omega
      have j1 : (j : Int) + (k : Int) < (N : Int) := by omega
      have j2 : ((j : Int) + (k : Int)).toNat = j + k := by omega
      have HO := hide hO; have HR := hide hR; have HM := hide hM; have HW := hide hW; have HD := hide hD; have HVL := hide hval; have HY := hide hY; have HX := hide hX; have HP := hide hp; have HJK := hide hjk
      clear hO hR hM hW hD hval hY hX hp hjk hMl hin
      by_cases hneg : X < C + p
      · obtain ⟨m, C2, R, f1, d1, m1, m2, c1, hrr, hRl, hs⟩ := take_nums hlk hC hm hneg
        have w3 : IntKind.i64.wrap ((X : Int) - (C : Int) - (p : Int)) = -(m : Int) := by rw [f1]; exact IntWalk.i64_in _ (by omega)
        have HS := hide hs
        have t1 : 0 < m := by omega
        clear f1 hs hneg hm
        go_wp2_with fail
        go_quiet ((go_at_call 70; exact Calls.quiet_of_same (hlim.out _)))
        have D1 := hide d1; have CB := hide c1
        clear w1 w2 w3 hpi hlim
        go_wp2_with fail
        go_roundw
        case rel =>
          refine ⟨k + 1, C2, by omega, by go_num, by rw [D1.out], by have := CB.out; omega, M.set (j + k) R, (HO.out.drewN nq).set _ _, RowAt.set (w := wr.drewN nq) HR.out _ _, lt_set HM.out hRl, HW.out.set (by omega) _, drop_set_next HD.out, ?_⟩
          rw [win_set HJK.out, lvT_succ, lvT_succ, lat_drop, ← HY.out, ← win_keep HD.out, ← HX.out]
          exact take_step HVL.out (by rw [← HP.out]; exact HS.out)
        case measure => simp [intOf]; omega
      · obtain ⟨R, hR2⟩ : ∃ R, R = X - (C + p) := ⟨_, rfl⟩
        have w3 : IntKind.i64.wrap ((X : Int) - (C : Int) - (p : Int)) = (R : Int) := by rw [IntWalk.i64_in _ (by omega)]; omega
        have HS := hide (show R + C + p = X + 1000000000 * 0 by omega)
        have hRl : R < 1000000000 := by omega
        have t1 : ((R : Int) < 0) = False := eq_false (by omega)
        clear hR2 hneg hm
        go_wp2_with fail
        go_quiet ((go_at_call 70; exact Calls.quiet_of_same (hlim.out _)))
        clear w1 w2 w3 hpi hlim
        go_wp2_with fail
        go_roundw
        case rel =>
          refine ⟨k + 1, 0, by omega, by go_num, rfl, by omega, M.set (j + k) R, (HO.out.drewN nq).set _ _, RowAt.set (w := wr.drewN nq) HR.out _ _, lt_set HM.out hRl, HW.out.set (by omega) _, drop_set_next HD.out, ?_⟩
          rw [win_set HJK.out, lvT_succ, lvT_succ, lat_drop, ← HY.out, ← win_keep HD.out, ← HX.out]
          exact take_step HVL.out (by rw [← HP.out]; exact HS.out)
        case measure => simp [intOf]; omega
    · obtain rfl : k = n + 1 := by omega
      have e4 : ¬ (((n + 1 : Nat) : Int) < (n : Int) + 1) := by omega
      have HF := hide (show ∃ M : List Nat, Only g w wr ∧ RowAt wr g c M ∧ Lt 1000000000 M ∧ WinEq j (n + 1) L M ∧ lvT 1000000000 (M.drop j) (n + 1) + q * lv 1000000000 V = lvT 1000000000 (L.drop j) (n + 1) + 1000000000 ^ (n + 1) * C from ⟨M, hO, hR, hM, hW, by rw [lvT_all (l := V) (by have := HNV.out; omega)] at hval; exact hval⟩)
      clear hO hR hM hW hD hval hin
      go_wp2_with fail
      go_ret
      obtain ⟨M, f1, f2, f3, f4, f5⟩ := HF.out
      exact ⟨C, M, rfl, f1, f2, f3, f4, f5⟩
theorem rest_nums {X C p : Nat} (hX : X < 1000000000) (hC : C < 1000000000) (hp : p ≤ 999999998000000001) :
    ∃ t C2 R : Nat, (X : Int) + (p : Int) + (C : Int) = (t : Int) ∧ IntKind.i64.wrap ((X : Int) + (p : Int)) = (X : Int) + (p : Int) ∧ IntKind.i64.wrap ((X : Int) + (p : Int) + (C : Int)) = (t : Int) ∧ (t : Int) / 1000000000 = (C2 : Int) ∧ (t : Int) % 1000000000 = (R : Int) ∧ t ≤ 1000000000000000000 ∧ C2 < 1000000000 ∧ R < 1000000000 ∧ X + p + C = R + 1000000000 * C2 := by
  have h1 := Nat.div_add_mod (X + p + C) 1000000000
  have h2 := Nat.mod_lt (X + p + C) (show 0 < 1000000000 by omega)
  refine ⟨X + p + C, (X + p + C) / 1000000000, (X + p + C) % 1000000000, by omega, IntWalk.i64_in _ (by omega), ?_, by omega, by omega, by omega, by omega, h2, by omega⟩
  rw [IntWalk.i64_in _ (by omega)]
  omega
set_option maxRecDepth 100000 in
set_option maxHeartbeats 4000000 in
theorem restore_any (g c : Nat) (L : List Nat) (gv cv : Nat) (V : List Nat) (j q : Nat) (w : World) (hL : RowAt w g c L) (hV : RowAt w gv cv V) (hne : gv ≠ g) (hl : Lt 1000000000 L) (hv : Lt 1000000000 V) (hj : j + V.length + 1 ≤ L.length) (hq : q < 1000000000) (lL : L.length ≤ 200000) :
    Calls Tryz.prog 77 #[.slice (some ⟨g, 0, none⟩) L.length c, .slice (some ⟨gv, 0, none⟩) V.length cv, .int .i64 j, .int .i64 q] w (RestRes g c L V j q V.length L.length w) := by
  obtain ⟨N, hN⟩ : ∃ N, N = L.length := ⟨_, rfl⟩
  obtain ⟨n, hn⟩ : ∃ n, n = V.length := ⟨_, rfl⟩
  have HV := hide hV; have HL := hide hL; have LV := hide hv; have LL := hide hl; have HN := hide hN; have HNV := hide hn
  rw [← hN] at hj lL ⊢
  rw [← hn] at hj ⊢
  have hne2 := hide hne
  clear hV hL hv hl hN hn hne
  go_enter Tryz.func77, Tryz.ntmps77
  go_wp2_with fail
  go_loopw [9, 15] (fun cc i wr => ∃ (k C : Nat), k ≤ n + 1 ∧ i = .int .i64 k ∧ cc = .int .i64 C ∧ C < 1000000000 ∧ Hid (∃ M : List Nat, Only g w wr ∧ RowAt wr g c M ∧ Lt 1000000000 M ∧ WinEq j (n + 1) L M ∧ M.drop (j + k) = L.drop (j + k) ∧ lvT 1000000000 (M.drop j) k + 1000000000 ^ k * C = lvT 1000000000 (L.drop j) k + q * lvT 1000000000 V k)) (fun _ i _ => n + 1 - (intOf i).toNat)
  case atStart =>
    refine ⟨0, 0, Nat.zero_le _, rfl, rfl, by omega, L, Only.refl _ _, HL.out, LL.out, WinEq.refl _ _ _, rfl, ?_⟩
    show 0 + 1000000000 ^ 0 * 0 = 0 + q * 0
    rw [Nat.mul_zero, Nat.mul_zero]
  case round =>
    obtain ⟨k, C, hk, rfl, rfl, hC, hin⟩ := hrel
    obtain ⟨M, hO, hR, hM, hW, hD, hval⟩ := hin.out
    by_cases hlt : k < n + 1
    · have e4 : (k : Int) < (n : Int) + 1 := by omega
      have hMl : M.length = N := hW.len.trans HN.out.symm
      have hjk : j + k < M.length := by omega
      have q1 := hR.cell hjk
      have q2 := hR.froz (j + k)
      have hlk := lat_lt (by omega) hM (j + k)
      have hyk := lat_lt (by omega) LV.out k
      have hlim := hide (fun m : Nat => limb_same (.slice (some ⟨gv, 0, none⟩) n cv) V k wr.heap.size (wr.drewN m) (by rw [HNV.out]; exact (RowAt.limbs (w := wr.drewN m) (HV.out.only (hO.drewN m) hne2.out))) (by omega))
      obtain ⟨Y, hY⟩ : ∃ Y, Y = lat V k := ⟨_, rfl⟩
      obtain ⟨X, hX⟩ : ∃ X, X = lat M (j + k) := ⟨_, rfl⟩
      rw [← hY] at hyk hlim
      rw [← hX] at hlk q1
      have hm := mul_lt_sq hq hyk
      obtain ⟨p, hp⟩ : ∃ p, p = q * Y := ⟨_, rfl⟩
      have hpi : (q : Int) * (Y : Int) = (p : Int) := by rw [hp, Int.natCast_mul]
      rw [← hp] at hm
      have w0 : IntKind.i64.wrap ((j : Int) + (k : Int)) = (j : Int) + (k : Int) := IntWalk.i64_in _ (by omega)
      have w2 : IntKind.i64.wrap (p : Int) = (p : Int) := IntWalk.i64_in _ (by omega)
      obtain ⟨t, C2, R, -, w1, w3, d1, d2, ht, hC2, hRl, hs⟩ := rest_nums hlk hC hm
      have j0 : (0 : Int) ≤ (j : Int) + (k : Int) := by omega
      have j1 : (j : Int) + (k : Int) < (N : Int) := by omega
      have j2 : ((j : Int) + (k : Int)).toNat = j + k := by omega
      have HO := hide hO; have HR := hide hR; have HM := hide hM; have HW := hide hW; have HD := hide hD; have HVL := hide hval; have HY := hide hY; have HX := hide hX; have HP := hide hp; have HJK := hide hjk; have HS := hide hs
      clear hO hR hM hW hD hval hY hX hp hjk hMl hin hs hm
      go_wp2_with fail
      go_quiet ((go_at_call 70; exact Calls.quiet_of_same (hlim.out _)))
      clear w1 w2 w3 hpi hlim
      go_wp2_with fail
      go_roundw
      case rel =>
        refine ⟨k + 1, C2, by omega, by go_num, by first | rfl | rw [d1], hC2, M.set (j + k) R, (HO.out.drewN nq).set _ _, RowAt.set (w := wr.drewN nq) HR.out _ _, lt_set HM.out hRl, HW.out.set (by omega) _, drop_set_next HD.out, ?_⟩
        rw [win_set HJK.out, lvT_succ, lvT_succ, lat_drop, ← HY.out, ← win_keep HD.out, ← HX.out]
        exact rest_step HVL.out (by rw [← HP.out]; exact HS.out)
      case measure => simp [intOf]; omega
    · obtain rfl : k = n + 1 := by omega
      have e4 : ¬ (((n + 1 : Nat) : Int) < (n : Int) + 1) := by omega
      have HF := hide (show ∃ M : List Nat, Only g w wr ∧ RowAt wr g c M ∧ Lt 1000000000 M ∧ WinEq j (n + 1) L M ∧ lvT 1000000000 (M.drop j) (n + 1) + 1000000000 ^ (n + 1) * C = lvT 1000000000 (L.drop j) (n + 1) + q * lv 1000000000 V from ⟨M, hO, hR, hM, hW, by rw [lvT_all (l := V) (by have := HNV.out; omega)] at hval; exact hval⟩)
      clear hO hR hM hW hD hval hin
      go_wp2_with fail
      go_ret
      obtain ⟨M, f1, f2, f3, f4, f5⟩ := HF.out
      exact ⟨C, M, rfl, f1, f2, f3, f4, f5⟩
/-- What estimate returns. -/
def EstRes (S W : Nat) (w : World) (e : Ending) (w' : World) : Prop := ∃ q : Nat, e = .returned (.int .i64 q) ∧ q < 1000000000 ∧ S < (q + 1) * W ∧ Below w.heap.size w w'
theorem est_nums {x0 x1 : Nat} (h0 : x0 < 1000000000) (h1 : x1 < 1000000000) : ((x0 : Int) * 1000000000 + (x1 : Int) = ((x0 * 1000000000 + x1 : Nat) : Int)) ∧ x0 * 1000000000 + x1 < 1000000000000000000 := by omega
set_option maxRecDepth 100000 in
set_option maxHeartbeats 4000000 in
theorem estimate_any (g c : Nat) (L : List Nat) (gv cv : Nat) (V : List Nat) (j m : Nat) (w : World) (hL : RowAt w g c L) (hV : RowAt w gv cv V) (hl : Lt 1000000000 L) (hv : Norm 1000000000 V) (hm : V.length = m + 2) (hj : j + (m + 2) < L.length) (lL : L.length ≤ 200000) (hs : lv 1000000000 (L.drop (j + 1)) < lv 1000000000 V) :
    Calls Tryz.prog 75 #[.slice (some ⟨g, 0, none⟩) L.length c, .slice (some ⟨gv, 0, none⟩) V.length cv, .int .i64 j] w (EstRes (lvT 1000000000 (L.drop j) (m + 3)) (lv 1000000000 V) w) := by
  have HI := hide (EstIn.of (by omega) hl hv hm hj hs).1
  have c0 := hide (fun w' (hb : Below w.heap.size w w') => (hL.below hb hL.lt).cell (i := j + (m + 2)) hj)
  have c1 := hide (fun w' (hb : Below w.heap.size w w') => (hL.below hb hL.lt).cell (i := j + (m + 1)) (by omega))
  have c2 := hide (fun w' (hb : Below w.heap.size w w') => (hL.below hb hL.lt).cell (i := j + m) (by omega))
  have d1 := hide (fun w' (hb : Below w.heap.size w w') => (hV.below hb hV.lt).cell (i := m + 1) (by omega))
  have d2 := hide (fun w' (hb : Below w.heap.size w w') => (hV.below hb hV.lt).cell (i := m) (by omega))
  obtain ⟨x0, hx0⟩ : ∃ x, x = lat L (j + (m + 2)) := ⟨_, rfl⟩
  obtain ⟨x1, hx1⟩ : ∃ x, x = lat L (j + (m + 1)) := ⟨_, rfl⟩
  obtain ⟨u0, hu0⟩ : ∃ x, x = lat L (j + m) := ⟨_, rfl⟩
  obtain ⟨v1, hv1⟩ : ∃ x, x = lat V (m + 1) := ⟨_, rfl⟩
  obtain ⟨v2, hv2⟩ : ∃ x, x = lat V m := ⟨_, rfl⟩
  have b0 : x0 < 1000000000 := by rw [hx0]; exact lat_lt (by omega) hl _
  have b1 : x1 < 1000000000 := by rw [hx1]; exact lat_lt (by omega) hl _
  have b2 : u0 < 1000000000 := by rw [hu0]; exact lat_lt (by omega) hl _
  have b3 : v1 < 1000000000 := by rw [hv1]; exact lat_lt (by omega) hv.lt _
  have b4 : v2 < 1000000000 := by rw [hv2]; exact lat_lt (by omega) hv.lt _
  rw [← hx0, ← hx1, ← hu0, ← hv1, ← hv2] at HI
  rw [← hx0] at c0
  rw [← hx1] at c1
  rw [← hu0] at c2
  rw [← hv1] at d1
  rw [← hv2] at d2
  obtain ⟨N, hN⟩ : ∃ N, N = L.length := ⟨_, rfl⟩
  rw [← hN] at hj lL ⊢
  rw [hm]
  obtain ⟨S, hS⟩ : ∃ S, S = lvT 1000000000 (L.drop j) (m + 3) := ⟨_, rfl⟩
  obtain ⟨W, hW⟩ : ∃ W, W = lv 1000000000 V := ⟨_, rfl⟩
  rw [← hS, ← hW] at HI ⊢
  have hvp : 0 < v1 := HI.out.pos
  have hst := HI.out.start
  obtain ⟨eT, hTl⟩ := est_nums b0 b1
  obtain ⟨T, hT⟩ : ∃ T, T = x0 * 1000000000 + x1 := ⟨_, rfl⟩
  have HDn := hide (fun q r => HI.out.down (q := q) (r := r))
  have HSt := hide (fun q r => HI.out.stop (q := q) (r := r))
  rw [← hT] at hst eT hTl HDn HSt
  obtain ⟨q0, hq0⟩ : ∃ q, q = T / v1 := ⟨_, rfl⟩
  obtain ⟨r0, hr0⟩ : ∃ r, r = T % v1 := ⟨_, rfl⟩
  have hrl : r0 < v1 := by rw [hr0]; exact Nat.mod_lt _ hvp
  have eq0 : (T : Int) / (v1 : Int) = (q0 : Int) := by rw [hq0, Int.natCast_ediv]
  have er0 : (T : Int) % (v1 : Int) = (r0 : Int) := by rw [hr0, Int.natCast_emod]
  rw [← hq0, ← hr0] at hst
  obtain ⟨hst, hq0l⟩ := hst
  have HS0 := hide hst
  have hv0 : ((v1 : Int) == 0) = false := by
    have : (v1 : Int) ≠ 0 := by omega
    simpa using this
  obtain ⟨a0, ha0⟩ : ∃ a : Nat, a = j + (m + 2) := ⟨_, rfl⟩
  obtain ⟨a1, ha1⟩ : ∃ a : Nat, a = j + (m + 1) := ⟨_, rfl⟩
  obtain ⟨a2, ha2⟩ : ∃ a : Nat, a = j + m := ⟨_, rfl⟩
  obtain ⟨n, hn⟩ : ∃ n : Nat, n = m + 2 := ⟨_, rfl⟩
  obtain ⟨b, hb⟩ : ∃ b : Nat, b = m + 1 := ⟨_, rfl⟩
  rw [← ha0] at c0 hj
  rw [← ha1] at c1
  rw [← ha2] at c2
  rw [← hb] at d1
  rw [← hn]
  have e0 : (j : Int) + (n : Int) = (a0 : Int) := by omega
  have e1 : (a0 : Int) - 1 = (a1 : Int) := by omega
  have e2 : (a0 : Int) - 2 = (a2 : Int) := by omega
  have e3 : (n : Int) - 1 = (b : Int) := by omega
  have e4 : (n : Int) - 2 = (m : Int) := by omega
  have f0 : (a0 : Int) < (N : Int) := by omega
  have f1 : (a1 : Int) < (N : Int) := by omega
  have f2 : (a2 : Int) < (N : Int) := by omega
  have f3 : (b : Int) < (n : Int) := by omega
  have f4 : (m : Int) < (n : Int) := by omega
  have f5 : (n : Int) ≤ 200000 := by omega
  have hvp2 : (0 : Int) < (v1 : Int) := by omega
  clear hL hV hl hv hm hs hx0 hx1 hu0 hv1 hv2 hN hS hW hT hq0 hr0 hst ha0 ha1 ha2 hn hb
  have q1 := c0.out w (Below.refl _ _)
  have q2 := c1.out w (Below.refl _ _)
  have q3 := d1.out w (Below.refl _ _)
  go_enter Tryz.func75, Tryz.ntmps75
  go_wp2_with fail
  go_quiet (fail)
  have HB1 := hide (below_drewN (Below.refl w.heap.size w) nq)
  go_wp2_with fail
  go_quiet (fail)
  have HB2 := hide (below_drewN HB1.out nq)
  clear HB1
  go_wp2_with fail
  go_loopw [9, 10] (fun qq rr wr => ∃ q r : Nat, qq = .int .i64 q ∧ rr = .int .i64 r ∧ r < 1000000000 ∧ q < 2000000000 ∧ Hid (EstAt v1 T S W q r ∧ Below w.heap.size w wr)) (fun qq _ _ => (intOf qq).toNat)
  case atStart => exact ⟨q0, r0, rfl, by rw [er0], by omega, by omega, HS0.out, HB2.out⟩
  case round =>
    obtain ⟨q, r, rfl, rfl, hr, hq, hin⟩ := hrel
    have HA := hide hin.out.1; have HB := hide hin.out.2
    clear hin
    have q3 := d1.out wr HB.out
    have q4 := d2.out wr HB.out
    have q5 := c2.out wr HB.out
    by_cases hge : 1000000000 ≤ q
    · have g1 : (1000000000 : Int) ≤ (q : Int) := by omega
      go_wp2_with fail
      go_quiet (fail)
      have HB := hide (below_drewN HB.out nq)
      go_wp2_with fail
      have hq1 : 1 ≤ q := by omega
      have HA2 := hide (HDn.out q r HA.out (.inl hge) hq1)
      have hqi : (1 : Int) ≤ (q : Int) := by omega
      have w5 : (q : Int) - 1 = ((q - 1 : Nat) : Int) := by omega
      obtain ⟨q2, hq2⟩ : ∃ q2, q2 = q - 1 := ⟨_, rfl⟩
      rw [← hq2] at HA2 w5
      have hql2 : q2 < q := by omega
      obtain ⟨r2, hr2⟩ : ∃ r2, r2 = r + v1 := ⟨_, rfl⟩
      rw [← hr2] at HA2
      have w6 : (r : Int) + (v1 : Int) = (r2 : Int) := by omega
      have hrl2 : r2 < 2000000000 := by omega
      clear hq2 hr2
      by_cases hb : 1000000000 ≤ r2
      · have g3 : (1000000000 : Int) ≤ (r2 : Int) := by omega
        have HX := hide (HSt.out q2 r2 HA2.out hb)
        clear hb
        go_wp2_with fail
        go_quiet (fail)
        have HB := hide (below_drewN HB.out nq)
        go_wp2_with fail
        go_ret
        exact ⟨q2, by first | rfl | rw [w5], HX.out, HA2.out.2, HB.out.os, HB.out.tape, HB.out.output, HB.out.size, HB.out.block⟩
      · have g3 : ((1000000000 : Int) ≤ (r2 : Int)) = False := eq_false (by omega)
        go_wp2_with fail
        go_quiet (fail)
        have HB := hide (below_drewN HB.out nq)
        go_wp2_with fail
        go_roundw
        case rel => exact ⟨q2, r2, by first | rfl | rw [w5], by first | rfl | rw [w6], by omega, by omega, HA2.out, HB.out.os, HB.out.tape, HB.out.output, HB.out.size, HB.out.block⟩
        case measure => simp [intOf]; omega
    · have g1 : ((1000000000 : Int) ≤ (q : Int)) = False := eq_false (by omega)
      have g2 : (r : Int) < 1000000000 := by omega
      have hpm := mul_lt_sq (x := q) (y := v2) (by omega) b4
      obtain ⟨p, hp⟩ : ∃ p, p = q * v2 := ⟨_, rfl⟩
      have hpi : (q : Int) * (v2 : Int) = (p : Int) := by rw [hp, Int.natCast_mul]
      have HP := hide hp
      rw [← hp] at hpm
      by_cases hc : r * 1000000000 + u0 < p
      · have g4 : (r : Int) * 1000000000 + (u0 : Int) < (p : Int) := by omega
        clear hp
        go_wp2_with fail
        go_quiet (fail)
        have HB := hide (below_drewN HB.out nq)
        go_wp2_with fail
        have hq1 : 1 ≤ q := by rcases Nat.eq_zero_or_pos q with h0 | h0; exact absurd hc (by rw [HP.out, h0, Nat.zero_mul]; omega); exact h0
        have HA2 := hide (HDn.out q r HA.out (.inr (by rw [← HP.out]; exact hc)) hq1)
        have hqi : (1 : Int) ≤ (q : Int) := by omega
        have w5 : (q : Int) - 1 = ((q - 1 : Nat) : Int) := by omega
        obtain ⟨q2, hq2⟩ : ∃ q2, q2 = q - 1 := ⟨_, rfl⟩
        rw [← hq2] at HA2 w5
        have hql2 : q2 < q := by omega
        obtain ⟨r2, hr2⟩ : ∃ r2, r2 = r + v1 := ⟨_, rfl⟩
        rw [← hr2] at HA2
        have w6 : (r : Int) + (v1 : Int) = (r2 : Int) := by omega
        have hrl2 : r2 < 2000000000 := by omega
        clear hq2 hr2
        by_cases hb : 1000000000 ≤ r2
        · have g3 : (1000000000 : Int) ≤ (r2 : Int) := by omega
          have HX := hide (HSt.out q2 r2 HA2.out hb)
          clear hb
          go_wp2_with fail
          go_quiet (fail)
          have HB := hide (below_drewN HB.out nq)
          go_wp2_with fail
          go_ret
          exact ⟨q2, by first | rfl | rw [w5], HX.out, HA2.out.2, HB.out.os, HB.out.tape, HB.out.output, HB.out.size, HB.out.block⟩
        · have g3 : ((1000000000 : Int) ≤ (r2 : Int)) = False := eq_false (by omega)
          go_wp2_with fail
          go_quiet (fail)
          have HB := hide (below_drewN HB.out nq)
          go_wp2_with fail
          go_roundw
          case rel => exact ⟨q2, r2, by first | rfl | rw [w5], by first | rfl | rw [w6], by omega, by omega, HA2.out, HB.out.os, HB.out.tape, HB.out.output, HB.out.size, HB.out.block⟩
          case measure => simp [intOf]; omega
      · have g4 : ((r : Int) * 1000000000 + (u0 : Int) < (p : Int)) = False := eq_false (by omega)
        clear hp
        go_wp2_with fail
        go_quiet (fail)
        have HB := hide (below_drewN HB.out nq)
        go_wp2_with fail
        go_ret
        exact ⟨q, rfl, by omega, HA.out.2, HB.out⟩
end Go.Proofs.YthkioajalhglfaaGreatDoor
namespace Go.KP
open Go Go.RowKit

/-- **An iterator's contract, by numbered rounds**: round k is handed 'encs k', k < N; it asks 'Ke k' of the world behind k rounds. -/
def IterOn (P : Program) (gf : Nat) (lb : Array Value) (encs : Nat → Array Value) (N : Nat) (Ke : Nat → World → Prop) : Prop :=
  ∀ (l : Nat) (J : Nat → (Nat → Prop) → World → Prop) (Jx : (Nat → Prop) → World → Prop) (W : World),
    (∀ k, Stays W.heap.size (J k)) → Stays W.heap.size Jx → (∀ k S W1, J k S W1 → ∀ b, S b → b < W1.heap.size) → (∀ k S W1, k ≤ N → J k S W1 → Ke k W1) →
    (∀ k S W1, k < N → J k S W1 → W.heap.size ≤ W1.heap.size →
      YieldAt Fence.wide 0 P l (encs k) W1 fun e W2 => ∃ S', Upd W.heap.size S S' W1 W2 ∧
        ((e = .returned (.bool true) ∧ J (k + 1) S' W2) ∨ (e = .returned (.bool false) ∧ Jx S' W2))) →
    J 0 (fun _ => False) W →
    CallsIn Fence.wide 0 P gf (#[.func (.yield l) #[] #[]] ++ lb) W fun e W2 => (∃ v, e = .returned v) ∧ ∃ S, J N S W2 ∨ Jx S W2

/-- How the body of a round may be left. -/
def bodyEndOn (B : Nat) (I : (Nat → Prop) → World → Prop) (Ix : Code → (Nat → Prop) → World → Prop) (S : Nat → Prop) (W : World) : Exit → Act → World → Prop
  | .normal, _, W2 => ∃ S', Upd B S S' W W2 ∧ I S' W2
  | .ret, _, W2 => ∃ S', Upd B S S' W W2 ∧ Ix .ret S' W2
  | .exit id, _, W2 => ∃ S', Upd B S S' W W2 ∧ Ix (.exit id) S' W2
  | .goto t, _, W2 => ∃ S', Upd B S S' W W2 ∧ Ix (.goto t) S' W2
  | .panic _, _, _ => False
  | .outgrown, _, _ => False
variable {P : Program}
/-- **The loop.** I k: what holds between two rounds, k of them over; Ix c: a round has left by the jump c. -/
theorem wp_iter_on {g : Operand} {ps : Array Tmp} {assign body : Code} {Q : Exit → Act → World → Prop} {a : Act} {w : World}
    {gf : Nat} {lb : Array Value} (hg : a.eval g = .func (.func gf) #[] lb) (eg : ∀ args w, (callFunc gf args).run P w = .ok (.enter gf args) w)
    {encs : Nat → Array Value} {N : Nat} {Ke : Nat → World → Prop} (hseq : IterOn P gf lb encs N Ke) (hps : ∀ k, (encs k).size = ps.size)
    (I : Nat → (Nat → Prop) → World → Prop) (Ix : Code → (Nat → Prop) → World → Prop) (hI : ∀ k, Stays w.heap.size (I k)) (hIx : ∀ c, Stays w.heap.size (Ix c)) (h0 : I 0 (fun _ => False) w) (hke : ∀ k S W, k ≤ N → I k S W → Ke k W)
    (Ax : Nat → (Nat → Prop) → Act → World → Prop)
    (hAx : ∀ k S a1 W l r r2, Ax k S a1 W → W.heap[l]? = some (.loop r) → Ax k S a1 (W.putObj l (.loop r2)))
    (hassign : ∀ (l k : Nat) (S : Nat → Prop) (W : World) (K : Act → World → Prop), w.heap.size ≤ W.heap.size → (∀ b, S b → b < W.heap.size) → (∀ a1 W1, Quiet w.heap.size S W W1 → Upd w.heap.size S S W W1 → Ax k S a1 W1 → K a1 W1) →
      assign.wpIn (Fence.wide.inRound l) 0 P (Exit.then K (fun _ _ _ => False)) { tmps := (ps.zip (encs k)).foldl (fun t (p, v) => t.setIfInBounds p v) a.tmps, defers := [] } W)
    (hS : ∀ k S W, I k S W → ∀ b, S b → b < W.heap.size)
    (hbody : ∀ (l k : Nat) (S : Nat → Prop) (a1 : Act) (W : World), k < N → I k S W → Ax k S a1 W → w.heap.size ≤ W.heap.size →
      body.wpIn (Fence.wide.inRound l) 0 P (bodyEndOn w.heap.size (I (k + 1)) Ix S W) a1 W)
    (hdone : ∀ (D : Nat) (S : Nat → Prop) (W : World), w.heap.size ≤ D → I N S W → W.heap[D]? = some (.deferred (some [])) → Q .normal { a with defers := { target := .collected D, args := #[] } :: a.defers } W)
    (hstop : ∀ (D : Nat) (c : Code) (S : Nat → Prop) (W : World), w.heap.size ≤ D → Ix c S W → W.heap[D]? = some (.deferred (some [])) → c.wpIn Fence.wide 0 P Q { a with defers := { target := .collected D, args := #[] } :: a.defers } W) :
    (Code.rangeFunc g ps assign body).wpIn Fence.wide 0 P Q a w := by
  refine wpIn_rangeFunc ?_
  intro fn _
  obtain ⟨rec, hrec⟩ : ∃ rec : LoopState → Option Code → Loop, rec = fun st pe => { state := st, pending := pe, fn, tmps := a.tmps, params := ps, assign, body, defers := w.heap.size } := ⟨_, rfl⟩
  obtain ⟨W1, hW1⟩ : ∃ W1, (w.alloc (.deferred (some []))).alloc (.loop (rec .ready none)) = W1 := ⟨_, rfl⟩
  have hL1 : W1.heap[w.heap.size + 1]? = some (.loop (rec .ready none)) := by
    rw [← hW1]; have h := World.alloc_heap_new (w.alloc (.deferred (some []))) (.loop (rec .ready none)); rwa [World.size_alloc] at h
  have hK1 : W1.heap[w.heap.size]? = some (.deferred (some [])) := by
    rw [← hW1]; exact (Below.heap_alloc _ _ _ (by simp)).trans (World.alloc_heap_new w _)
  have hq1 : Quiet w.heap.size (fun _ => False) w W1 := by rw [← hW1]; exact ((Quiet.refl _ _ w).alloc _).alloc _
  have hs1 : W1.heap.size = w.heap.size + 2 := by rw [← hW1]; simp
  have inner : ∀ (i : Nat) (S S' : Nat → Prop) (W W2 : World), w.heap.size ≤ i → i < w.heap.size + 2 → i < W.heap.size → ¬ S i → Upd w.heap.size S S' W W2 → W2.heap[i]? = W.heap[i]? ∧ ¬ S' i := fun i S S' W W2 h1 _ h3 h4 hu => hu.block i h1 h3 h4
  refine ⟨w.heap.size + 1, [{ target := .collected w.heap.size, args := #[] }], W1, { target := .fn (.func gf) lb, args := #[.func (.yield (w.heap.size + 1)) #[] #[]] }, W1, gf,
    #[.func (.yield (w.heap.size + 1)) #[] #[]] ++ lb, W1, ?_, ?_, ?_, ?_, fun h => by simp [Fence.wide] at h, ?_⟩
  · rw [← hW1, hrec]; exact run_enterLoop_outer _ _ _ _ _
  · simp only [resolve, hg]
    simp [go_sem]
  · exact fun _ _ => trivial
  · simp [invoke, go_sem, eg]
  · refine (hseq (w.heap.size + 1)
      (fun k S W => I k S W ∧ ¬ S w.heap.size ∧ ¬ S (w.heap.size + 1) ∧ W1.heap.size ≤ W.heap.size ∧ W.heap[w.heap.size + 1]? = some (.loop (rec .ready none)) ∧ W.heap[w.heap.size]? = some (.deferred (some [])))
      (fun S W => ∃ c, Ix c S W ∧ ¬ S w.heap.size ∧ ¬ S (w.heap.size + 1) ∧ W1.heap.size ≤ W.heap.size ∧ W.heap[w.heap.size + 1]? = some (.loop (rec .done (some c))) ∧ W.heap[w.heap.size]? = some (.deferred (some [])))
      W1 ?_ ?_ (fun k S W1 h => hS k S W1 h.1) (fun k S W1 hk h => hke k S W1 hk h.1) ?_ ⟨hI 0 _ _ _ h0 hq1, fun h => h, fun h => h, Nat.le_refl _, hL1, hK1⟩).mono ?_
    · rintro k S W W2 ⟨hi, n1, n2, hsz, hl, hk⟩ hq
      have hw : w.heap.size + 1 < W.heap.size := (Array.getElem?_eq_some_iff.1 hl).1
      exact ⟨hI k _ _ _ hi ⟨hq.os, hq.tape, hq.output, hq.size, fun b hb hlt => hq.block b (hb.imp (fun h => by omega) id) hlt⟩, n1, n2, Nat.le_trans hsz hq.size,
        (hq.block _ (.inl (by omega)) hw).trans hl, (hq.block _ (.inl (by omega)) (by omega)).trans hk⟩
    · rintro S W W2 ⟨c, hi, n1, n2, hsz, hl, hk⟩ hq
      have hw : w.heap.size + 1 < W.heap.size := (Array.getElem?_eq_some_iff.1 hl).1
      exact ⟨c, hIx c _ _ _ hi ⟨hq.os, hq.tape, hq.output, hq.size, fun b hb hlt => hq.block b (hb.imp (fun h => by omega) id) hlt⟩, n1, n2, Nat.le_trans hsz hq.size,
        (hq.block _ (.inl (by omega)) hw).trans hl, (hq.block _ (.inl (by omega)) (by omega)).trans hk⟩
    · rintro k S W hkN ⟨hi, n1, n2, hsz, hl, hk⟩ _
      have hlt : w.heap.size + 1 < W.heap.size := (Array.getElem?_eq_some_iff.1 hl).1
      have hy := run_yield (P := P) (args := encs k) hl (by rw [hrec]; exact hps k)
      rw [hrec] at hy
      refine ⟨fn, _, assign, body, hy, roundIn_of_wpIn trivial (hassign _ k S W _ (by omega) (hS k S W hi) ?_)⟩
      intro a1 Wa hqa hua hax
      have hla := (inner (w.heap.size + 1) _ _ _ _ (by omega) (by omega) hlt n2 hua).1.trans hl
      have hka := (inner w.heap.size _ _ _ _ (by omega) (by omega) (by omega) n1 hua).1.trans hk
      have hsa := hua.size
      refine ⟨_, run_beginRound hla (by rw [hrec]), ?_⟩
      have hlt2 : w.heap.size + 1 < Wa.heap.size := by omega
      have hia := hI k _ _ _ hi hqa
      obtain ⟨W2, hW2⟩ : ∃ W2, Wa.putObj (w.heap.size + 1) (.loop { rec .ready none with state := .busy }) = W2 := ⟨_, rfl⟩
      have hq2 : Quiet w.heap.size S Wa W2 := by rw [← hW2]; exact putObj_quiet _ _ _ (by omega) n2
      have hax2 : Ax k S a1 W2 := by rw [← hW2]; exact hAx _ _ _ _ _ _ _ hax hla
      have hl2 : W2.heap[w.heap.size + 1]? = some (.loop { rec .ready none with state := .busy }) := by rw [← hW2]; exact World.putObj_heap_same hlt2
      have hk2 : W2.heap[w.heap.size]? = some (.deferred (some [])) := by rw [← hW2]; exact (World.putObj_heap_other (by omega)).trans hka
      have hs2 : W2.heap.size = Wa.heap.size := by rw [← hW2]; simp
      rw [hW2]
      refine wpIn_mono (hbody _ k S a1 W2 hkN (hI k _ _ _ hia hq2) hax2 (by omega)) ?_
      have fin : ∀ (jump : Option Code) (S' : Nat → Prop) (W3 : World), Upd w.heap.size S S' W2 W3 →
          ∃ W4, (Instr.endRound (w.heap.size + 1) jump).run P W3 = .ok (.bool jump.isNone) W4 ∧ Upd W1.heap.size S S' W W4 ∧ Quiet w.heap.size S' W3 W4 ∧
            ¬ S' w.heap.size ∧ ¬ S' (w.heap.size + 1) ∧ W1.heap.size ≤ W4.heap.size ∧
            W4.heap[w.heap.size + 1]? = some (.loop (rec (if jump.isNone then .ready else .done) jump)) ∧ W4.heap[w.heap.size]? = some (.deferred (some [])) := fun jump S' W3 hu => by
        have hl3 := (inner (w.heap.size + 1) _ _ _ _ (by omega) (by omega) (by omega) n2 hu)
        have hk3 := (inner w.heap.size _ _ _ _ (by omega) (by omega) (by omega) n1 hu)
        have hl4 := hl3.1.trans hl2
        have hs3 := hu.size
        have hr := run_endRound (P := P) jump hl4
        have e : ({ rec .ready none with state := if jump.isNone then LoopState.ready else LoopState.done, pending := jump } : Loop) = rec (if jump.isNone then .ready else .done) jump := by rw [hrec]
        simp only at hr
        rw [e] at hr
        have hq4 : Quiet w.heap.size S' W3 (W3.putObj (w.heap.size + 1) (.loop (rec (if jump.isNone then .ready else .done) jump))) := putObj_quiet _ _ _ (by omega) hl3.2
        refine ⟨_, hr, ⟨by simp; omega, fun b hB hlt' hs' => ?_⟩, hq4, hk3.2, hl3.2, by simp; omega, World.putObj_heap_same (by omega), (World.putObj_heap_other (by omega)).trans (hk3.1.trans hk2)⟩
        · obtain ⟨g1, g2⟩ := hua.block b (by omega) hlt' hs'
          obtain ⟨g3, g4⟩ := hu.block b (by omega) (by omega) g2
          refine ⟨(World.putObj_heap_other (by omega)).trans (g3.trans ?_), g4⟩
          rw [← hW2, World.putObj_heap_other (by omega)]
          exact g1
      rintro e a3 W3 hp
      cases e with
      | normal =>
        obtain ⟨S', hu, hi3⟩ := hp
        obtain ⟨W4, hr, hu4, hq4, m1, m2, m3, hl4, hk4⟩ := fin none S' W3 hu
        exact ⟨_, _, hr, S', hu4, .inl ⟨rfl, hI _ _ _ _ hi3 hq4, m1, m2, m3, hl4, hk4⟩⟩
      | ret =>
        obtain ⟨S', hu, hi3⟩ := hp
        obtain ⟨W4, hr, hu4, hq4, m1, m2, m3, hl4, hk4⟩ := fin (some .ret) S' W3 hu
        exact ⟨_, _, hr, S', hu4, .inr ⟨rfl, .ret, hIx _ _ _ _ hi3 hq4, m1, m2, m3, hl4, hk4⟩⟩
      | exit id =>
        obtain ⟨S', hu, hi3⟩ := hp
        obtain ⟨W4, hr, hu4, hq4, m1, m2, m3, hl4, hk4⟩ := fin (some (.exit id)) S' W3 hu
        exact ⟨_, _, hr, S', hu4, .inr ⟨rfl, .exit id, hIx _ _ _ _ hi3 hq4, m1, m2, m3, hl4, hk4⟩⟩
      | goto t =>
        obtain ⟨S', hu, hi3⟩ := hp
        obtain ⟨W4, hr, hu4, hq4, m1, m2, m3, hl4, hk4⟩ := fin (some (.goto t)) S' W3 hu
        exact ⟨_, _, hr, S', hu4, .inr ⟨rfl, .goto t, hIx _ _ _ _ hi3 hq4, m1, m2, m3, hl4, hk4⟩⟩
      | panic ch => exact hp.elim
      | outgrown => exact hp.elim
    · rintro e W2 ⟨⟨v, rfl⟩, S, (⟨hi, n1, n2, hsz, hl, hk⟩ | ⟨c, hi, n1, n2, hsz, hl, hk⟩)⟩
      · refine ⟨none, _, by have h := run_endLoop (P := P) hl (by rw [hrec]; simp); rw [hrec] at h; exact h, ?_⟩
        exact hdone _ S _ (Nat.le_refl _) (hI _ _ _ _ hi (putObj_quiet _ _ _ (by omega) n2)) ((World.putObj_heap_other (by omega)).trans hk)
      · refine ⟨some c, _, by have h := run_endLoop (P := P) hl (by rw [hrec]; simp); rw [hrec] at h; exact h, ?_⟩
        exact hstop _ c S _ (Nat.le_refl _) (hIx _ _ _ _ hi (putObj_quiet _ _ _ (by omega) n2)) ((World.putObj_heap_other (by omega)).trans hk)

end Go.KP
