/-
  Texts of the integers, laid together: Pc, Loop2, Pd, Pe, Pf, Prefix, Round.
-/
import Derived.Laws.MakeOwn
import Derived.IntWalk
import Derived.Deep.RegionHeld3
import Derived.Deep.QuietTactic
import Derived.BigQuiet
import Derived.Orders
import Derived.KernelRfl
import Derived.Deep.AppendLies
import Derived.OwnWalk
import Derived.Test.YtgddookioipjiaaGreatDoorZ2
namespace Go.Proofs.YtgddookioipjiaaGreatDoor
open Go.RowKit Go.KP Go.KI Go.Shelf

/-- A block that is a row of limbs. -/
abbrev rowO (L : List Nat) : Obj := .cells (icells L).toArray 3
theorem setCell_size (w : World) (a : Addr) (v : Value) : (w.setCell a v).heap.size = w.heap.size := by simp [World.setCell]
theorem setCell_other {w : World} {b b2 k : Nat} {v : Value} (h : b ≠ b2) : (w.setCell ⟨b, k, none⟩ v).heap[b2]? = w.heap[b2]? := by
  simp only [World.setCell, Array.getElem?_modify, if_neg h]
theorem row_cell {w : World} {g : Nat} {L : List Nat} (h : w.heap[g]? = some (rowO L)) {i : Nat} (hi : i < L.length) : w.cell? ⟨g, i, none⟩ = some (.int .i64 (lat L i)) := by
  rw [cell_blk h]
  simp only [List.getElem?_toArray]
  exact icells_at hi
theorem row_froz {w : World} {g : Nat} {L : List Nat} (h : w.heap[g]? = some (rowO L)) (i : Nat) : w.frozen? ⟨g, i, none⟩ = false := froz_blk h i
theorem row_set {w : World} {g : Nat} {L : List Nat} (h : w.heap[g]? = some (rowO L)) (k v : Nat) : (w.setCell ⟨g, k, none⟩ (.int .i64 v)).heap[g]? = some (rowO (L.set k v)) := by
  simp only [World.setCell, Array.getElem?_modify, h]
  simp [icells, List.map_set]
theorem row_owns {w : World} {g base : Nat} {L : List Nat} (h : w.heap[g]? = some (rowO L)) (hb : base ≤ g) (hl : L.length ≤ maxLen) : OwnL base w (.slice (some ⟨g, 0, none⟩) L.length L.length) L := by
  refine ⟨by rw [icells_len]; omega, .inr ⟨g, L.length, _, rfl, hb, h, Nat.le_refl _, hl, by simp [icells_len], ?_⟩⟩
  rw [List.take_of_length_le]
  simp [icells_len]
theorem row_limbs {w : World} {g : Nat} {L : List Nat} (h : w.heap[g]? = some (rowO L)) (hl : L.length ≤ maxLen) : LimbAt w.heap.size w (.slice (some ⟨g, 0, none⟩) L.length L.length) L := (row_owns h (Nat.zero_le _) hl).at_
def zeros (n : Nat) : List Nat := List.replicate n 0
theorem zeros_len (n : Nat) : (zeros n).length = n := by simp [zeros]
theorem zeros_lt (b n : Nat) (hb : 0 < b) : Lt b (zeros n) := fun x hx => by
  rw [List.eq_of_mem_replicate hx]
  exact hb
theorem make_ints (n : Nat) (hn : n ≤ 1000000) (W : World) :
    (Instr.makeSlice 40 (.int .i64 (n : Int)) (.int .i64 (n : Int))).run Tryz.prog W = .ok (.slice (some ⟨W.heap.size, 0, none⟩) n n) (W.alloc (rowO (zeros n))) := by
  obtain ⟨i0, hi0, hz0, hz1, hz2⟩ := info_parts info3
  have hr := run_make (P := Tryz.prog) W 40 3 i0 (.int .i64 0) Tryz.underlying40 hi0 hz0 .i64 .i64 n n (by omega) (Int.le_refl _) (by rw [hz2]; omega) (by omega)
  simp only [Int.toNat_natCast, hz1] at hr
  rw [hr]
  have e : madeCells (Value.int .i64 0).cells (n * 1) = (icells (zeros n)).toArray := by
    simp [madeCells, Value.cells, icells, zeros]
    apply Array.ext
    · simp
    · intro i h1 h2
      simp [Nat.mod_one]
  rw [e]
/-- One limb of a product. -/
theorem times_step {b i k o c c2 n v q x y V T : Nat} (h : o + b ^ (i + k) * c = V + x * T * b ^ i) (h1 : n + b ^ (i + k) * q = o + b ^ (i + k) * v) (h2 : q + x * y + c = v + b * c2) :
    n + b ^ (i + (k + 1)) * c2 = V + x * (T + b ^ k * y) * b ^ i := by
  have e1 : b ^ (i + (k + 1)) = b ^ (i + k) * b := by rw [← Nat.add_assoc, Nat.pow_succ]
  have e2 : b ^ (i + k) = b ^ i * b ^ k := Nat.pow_add b i k
  have h3 : b ^ (i + k) * (q + x * y + c) = b ^ (i + k) * (v + b * c2) := by rw [h2]
  rw [e1]
  have h4 : x * (T + b ^ k * y) * b ^ i = x * T * b ^ i + b ^ (i + k) * (x * y) := by rw [e2]; grind
  rw [h4]
  have h5 : b ^ (i + k) * (q + x * y + c) = b ^ (i + k) * q + b ^ (i + k) * (x * y) + b ^ (i + k) * c := by grind
  have h6 : b ^ (i + k) * (v + b * c2) = b ^ (i + k) * v + b ^ (i + k) * b * c2 := by grind
  omega
theorem times_total {b : Nat} {x y L0 : List Nat} {i k X : Nat} (h : lv b L0 = lvT b x i * lv b y) (hX : X = lat x i) (hk : y.length ≤ k) : lv b L0 + X * lvT b y k * b ^ i = lvT b x (i + 1) * lv b y := by
  rw [h, lvT_succ, lvT_all hk, hX]
  grind
theorem times_zero {b : Nat} (h0 : 0 < b) {x y L : List Nat} {i k C : Nat} (hx : Lt b x) (hy : Lt b y) (hk : k = y.length + 1) (h : lv b L + b ^ (i + k) * C = lvT b x (i + 1) * lv b y) : C = 0 := by
  have h1 := lvT_lt h0 hx (i + 1)
  have h2 := lv_lt hy
  have h4 : lvT b x (i + 1) * lv b y < b ^ (i + k) := by
    have e : b ^ (i + k) = b ^ (i + 1) * b ^ y.length := by
      rw [← Nat.pow_add]
      congr 1
      omega
    rw [e]
    exact Nat.mul_lt_mul'' h1 h2
  rcases Nat.eq_zero_or_pos C with h5 | h5
  · exact h5
  · exfalso
    have : b ^ (i + k) * 1 ≤ b ^ (i + k) * C := Nat.mul_le_mul_left _ h5
    omega
theorem mul_lt_sq {x y : Nat} (hx : x < 1000000000) (hy : y < 1000000000) : x * y ≤ 999999998000000001 := by
  have : x * y ≤ 999999999 * 999999999 := Nat.mul_le_mul (by omega) (by omega)
  omega
theorem limb_same (v : Value) (l : List Nat) (i : Nat) (B : Nat) (w : World) (h : LimbAt B w v l) (hi : i ≤ 1000000) :
    Calls Tryz.prog 177 #[v, .int .i64 i] w fun e w' => e = .returned (.int .i64 (lat l i)) ∧ w' = w := (limb_any v l i B w h hi).mono fun _ _ ⟨h1, h2⟩ => ⟨h1, h2.symm⟩
set_option maxRecDepth 100000 in
set_option maxHeartbeats 4000000 in
theorem times_any (va vb : Value) (x y : List Nat) (B : Nat) (w : World) (ha : LimbAt B w va x) (hb : LimbAt B w vb y) (hB : B ≤ w.heap.size) (hx : Lt 1000000000 x) (hy : Lt 1000000000 y) (lx : x.length ≤ 100000) (ly : y.length ≤ 100000) :
    Calls Tryz.prog 156 #[va, vb] w fun e w' => ∃ l, LimbsRet w l e w' ∧ Norm 1000000000 l ∧ lv 1000000000 l = lv 1000000000 x * lv 1000000000 y ∧ l.length ≤ x.length + y.length + 1 := by
  obtain ⟨a0, c0, hva⟩ := ha.form
  obtain ⟨a1, c1, hvb⟩ := hb.form
  subst hva; subst hvb
  obtain ⟨n, hn⟩ : ∃ n, n = x.length + y.length + 1 := ⟨_, rfl⟩
  have hn2 : (x.length : Int) + (y.length : Int) + 1 = (n : Int) := by omega
  have hmk := make_ints n (by omega)
  have HA := hide ha; have HB := hide hb; have HX := hide hx; have HY := hide hy; have HN := hide hn
  have hnb : n ≤ 200001 := by omega
  clear ha hb hx hy hn
  go_enter Tryz.func156, Tryz.ntmps156
  go_wp2_with fail
  clear hmk
  have H0 := hide (heap_alloc_new w (rowO (zeros n))); have HB0 := hide ((Below.refl w.heap.size w).alloc (Nat.le_refl _) (rowO (zeros n)))
  go_loopw [20] (fun i wr => ∃ k : Nat, k ≤ x.length ∧ i = .int .i64 k ∧ Hid (∃ L : List Nat, L.length = n ∧ Lt 1000000000 L ∧ lv 1000000000 L = lvT 1000000000 x k * lv 1000000000 y ∧ wr.heap[w.heap.size]? = some (rowO L) ∧ Below w.heap.size w wr)) (fun i _ => x.length - (intOf i).toNat)
  case atStart =>
    refine ⟨0, Nat.zero_le _, rfl, zeros n, zeros_len n, zeros_lt _ _ (by omega), ?_, H0.out, HB0.out⟩
    rw [lvT_zero, zeros, lv_zeros]
    simp
  case round =>
    obtain ⟨i, hi, rfl, hin⟩ := hrel
    obtain ⟨L0, hL0n, hL0t, hL0v, hL0b, hL0w⟩ := hin.out
    have hsz := lt_blk hL0b
    by_cases hlt : i < x.length
    · have e3 : (i : Int) < (x.length : Int) := by omega
      rcases (HA.out.below hL0w hB).cases with ⟨_, _, _, hnil⟩ | ⟨b, o, cap, hv, hbb, hcl⟩
      · rw [hnil] at hlt
        simp at hlt
      injection hv with hv1 hv2 hv3
      subst hv1; subst hv3
      have hcell := hcl i hlt
      have hxi := lat_lt (by omega) HX.out i
      obtain ⟨X, hX⟩ : ∃ X, X = lat x i := ⟨_, rfl⟩
      rw [← hX] at hcell hxi
      have HXE := hide hX; have HL0 := hide hL0b; have HW0 := hide hL0w; have HV0 := hide hL0v; have HN0 := hide hL0n; have HT0 := hide hL0t
      clear hcl hv2 hX hL0n hL0t hL0v hL0b hL0w hin
      obtain ⟨wo, hwo⟩ : ∃ wo, wo = wr := ⟨_, rfl⟩
      subst hwo
      go_wp2_with fail
      go_loopw [8, 28] (fun c j wr => ∃ (k C : Nat), k ≤ y.length + 1 ∧ j = .int .i64 k ∧ c = .int .i64 C ∧ C < 1000000000 ∧ Hid (∃ L : List Nat, L.length = n ∧ Lt 1000000000 L ∧ lv 1000000000 L + 1000000000 ^ (i + k) * C = lv 1000000000 L0 + X * lvT 1000000000 y k * 1000000000 ^ i ∧ wr.heap[w.heap.size]? = some (rowO L) ∧ Below w.heap.size w wr)) (fun _ j _ => y.length + 1 - (intOf j).toNat)
      case atStart =>
        refine ⟨0, 0, Nat.zero_le _, rfl, rfl, by omega, L0, HN0.out, HT0.out, ?_, HL0.out, HW0.out⟩
        rw [lvT_zero]
        simp
      case round =>
        obtain ⟨k, C, hk, rfl, rfl, hC, hin⟩ := hrel
        obtain ⟨L, hLn, hLt, hLv, hLb, hLw⟩ := hin.out
        have hsz2 := lt_blk hLb
        by_cases hlt2 : k < y.length + 1
        · have e4 : (k : Int) < (y.length : Int) + 1 := by omega
          have hik : i + k < L.length := by rw [hLn, HN.out]; omega
          have q1 := row_cell hLb hik
          have q2 := row_froz hLb (i + k)
          have hyk := lat_lt (by omega) HY.out k
          have hlk := lat_lt (by omega) hLt (i + k)
          have hlim := hide (fun m : Nat => limb_same (.slice a1 y.length c1) y k B (wr.drewN m) (HB.out.below (below_drewN hLw m) hB) (by omega))
          obtain ⟨Y, hY⟩ : ∃ Y, Y = lat y k := ⟨_, rfl⟩
          obtain ⟨Q, hQ⟩ : ∃ Q, Q = lat L (i + k) := ⟨_, rfl⟩
          rw [← hY] at hyk hlim
          rw [← hQ] at hlk q1
          have hm := mul_lt_sq hxi hyk
          have p0 : (0 : Int) ≤ (X : Int) * (Y : Int) := Int.mul_nonneg (by omega) (by omega)
          have p1 : (X : Int) * (Y : Int) ≤ 999999998000000001 := by
            have : ((X * Y : Nat) : Int) ≤ 999999998000000001 := by omega
            rwa [Int.natCast_mul] at this
          have w1 : IntKind.i64.wrap ((i : Int) + (k : Int)) = (i : Int) + (k : Int) := IntWalk.i64_in _ (by omega)
          have w2 : IntKind.i64.wrap ((X : Int) * (Y : Int)) = (X : Int) * (Y : Int) := IntWalk.i64_in _ (by omega)
          have w3 : IntKind.i64.wrap ((Q : Int) + (X : Int) * (Y : Int)) = (Q : Int) + (X : Int) * (Y : Int) := IntWalk.i64_in _ (by omega)
          have w4 : IntKind.i64.wrap ((Q : Int) + (X : Int) * (Y : Int) + (C : Int)) = (Q : Int) + (X : Int) * (Y : Int) + (C : Int) := IntWalk.i64_in _ (by omega)
          have j0 : (0 : Int) ≤ (i : Int) + (k : Int) := by omega
          have j1 : (i : Int) + (k : Int) < (n : Int) := by omega
          have j2 : ((i : Int) + (k : Int)).toNat = i + k := by omega
          have HLv := hide hLv; have HLt := hide hLt; have HLn := hide hLn; have HLb := hide hLb; have HLw := hide hLw; have HYE := hide hY; have HQE := hide hQ; have HIK := hide hik
          clear hLv hLt hLn hLb hLw hY hQ hik hin
          go_wp2_with fail
          go_quiet ((go_at_call 177; exact Calls.quiet_of_same (hlim.out _)))
          clear w1 w2 w3 w4
          go_wp2_with fail
          have hdm := Nat.div_add_mod (Q + X * Y + C) 1000000000
          have hml := Nat.mod_lt (Q + X * Y + C) (show 0 < 1000000000 by omega)
          go_roundw
          case rel =>
            refine ⟨k + 1, (Q + X * Y + C) / 1000000000, by omega, by go_num, by simp, by omega, L.set (i + k) ((Q + X * Y + C) % 1000000000), by rw [List.length_set]; exact HLn.out, lt_set HLt.out hml, ?_, ?_, ?_⟩
            · rw [lvT_succ, ← HYE.out]
              have h1 := lv_set (b := 1000000000) ((Q + X * Y + C) % 1000000000) HIK.out
              rw [← HQE.out] at h1
              exact times_step HLv.out h1 (by omega)
            · exact row_set (w := wr.drewN nq) HLb.out (i + k) _
            · exact (below_drewN HLw.out nq).setCell (p := ⟨w.heap.size, i + k, none⟩) (Nat.le_refl _) _
          case measure => simp [intOf]; omega
        · have e4 : ¬ (k : Int) < (y.length : Int) + 1 := by omega
          have hk1 : k = y.length + 1 := by omega
          have htot := hLv.trans (times_total HV0.out (X := X) HXE.out (k := k) (by omega))
          have hC0 := times_zero (by omega) HX.out HY.out hk1 htot
          have HLE := hide (show lv 1000000000 L = lvT 1000000000 x (i + 1) * lv 1000000000 y by
            rw [hC0] at htot
            simpa using htot)
          clear htot
          have HLt := hide hLt; have HLn := hide hLn; have HLb := hide hLb; have HLw := hide hLw
          clear hLv hLt hLn hLb hLw hk1 hC0 hin
          go_wp2_with fail
          go_roundw
          case rel => exact ⟨i + 1, by omega, by go_num, L, HLn.out, HLt.out, HLE.out, HLb.out, HLw.out⟩
          case measure => simp [intOf]; omega
    · have e3 : ¬ (i : Int) < (x.length : Int) := by omega
      have HE := hide (show lv 1000000000 L0 = lv 1000000000 x * lv 1000000000 y by rw [hL0v, lvT_all (l := x) (i := i) (by omega)])
      have HT := hide (trim_any (some ⟨w.heap.size, 0, none⟩) n L0 wr.heap.size wr (by
        have := row_limbs hL0b (by unfold maxLen; omega)
        rw [hL0n] at this ⊢
        exact this) (by omega) (by omega))
      rw [hL0n] at HT
      have HO := hide (row_owns hL0b (Nat.le_refl _) (by unfold maxLen; omega))
      have HLn := hide hL0n; have HLw := hide hL0w; have HLt := hide hL0t
      clear hL0n hL0t hL0v hL0b hL0w hin
      go_wp2_with fail
      refine HT.out.mono ?_
      rintro e w1 ⟨rfl, rfl⟩
      go_wp2_with fail
      go_ret
      refine ⟨trimL L0, ⟨_, rfl, HLw.out, ?_⟩, trimL_norm HLt.out, by rw [trimL_lv, HE.out], ?_⟩
      · have hc := HO.out.cut (k := trimTo L0 n) (by rw [HLn.out]; exact trimTo_le _ _)
        rw [HLn.out] at hc
        unfold trimL
        rw [HLn.out]
        exact hc
      · rw [trimL_len]
        have := trimTo_le L0 L0.length
        have := HLn.out
        have := HN.out
        omega
end Go.Proofs.YtgddookioipjiaaGreatDoor
namespace Go.KP
open Go Go.RowKit

/-- **An iterator's contract, by numbered rounds**: round k is handed 'encs k', k < N; it asks 'Ke k' of the world behind k rounds. -/
def IterOn (P : Program) (gf : Nat) (lb : Array Value) (encs : Nat → Array Value) (N : Nat) (Ke : Nat → World → Prop) : Prop :=
  ∀ (l : Nat) (J : Nat → (Nat → Prop) → World → Prop) (Jx : (Nat → Prop) → World → Prop) (W : World),
    (∀ k, Stays W.heap.size (J k)) → Stays W.heap.size Jx → (∀ k S W1, J k S W1 → ∀ b, S b → b < W1.heap.size) → (∀ k S W1, k ≤ N → J k S W1 → Ke k W1) →
    (∀ k S W1, k < N → J k S W1 → W.heap.size ≤ W1.heap.size →
      YieldAt Fence.wide 0 P l (encs k) W1 fun e W2 => ∃ S', Upd W.heap.size S S' W1 W2 ∧
        ((e = .returned (.bool true) ∧ J (k + 1) S' W2) ∨ (e = .returned (.bool false) ∧ Jx S' W2))) →
    J 0 (fun _ => False) W →
    CallsIn Fence.wide 0 P gf (#[.func (.yield l) #[] #[]] ++ lb) W fun e W2 => (∃ v, e = .returned v) ∧ ∃ S, J N S W2 ∨ Jx S W2

/-- How the body of a round may be left. -/
def bodyEndOn (B : Nat) (I : (Nat → Prop) → World → Prop) (Ix : Code → (Nat → Prop) → World → Prop) (S : Nat → Prop) (W : World) : Exit → Act → World → Prop
  | .normal, _, W2 => ∃ S', Upd B S S' W W2 ∧ I S' W2
  | .ret, _, W2 => ∃ S', Upd B S S' W W2 ∧ Ix .ret S' W2
  | .exit id, _, W2 => ∃ S', Upd B S S' W W2 ∧ Ix (.exit id) S' W2
  | .goto t, _, W2 => ∃ S', Upd B S S' W W2 ∧ Ix (.goto t) S' W2
  | .panic _, _, _ => False
  | .outgrown, _, _ => False
variable {P : Program}
/-- **The loop.** I k: what holds between two rounds, k of them over; Ix c: a round has left by the jump c. -/
theorem wp_iter_on {g : Operand} {ps : Array Tmp} {assign body : Code} {Q : Exit → Act → World → Prop} {a : Act} {w : World}
    {gf : Nat} {lb : Array Value} (hg : a.eval g = .func (.func gf) #[] lb) (eg : ∀ args w, (callFunc gf args).run P w = .ok (.enter gf args) w)
    {encs : Nat → Array Value} {N : Nat} {Ke : Nat → World → Prop} (hseq : IterOn P gf lb encs N Ke) (hps : ∀ k, (encs k).size = ps.size)
    (I : Nat → (Nat → Prop) → World → Prop) (Ix : Code → (Nat → Prop) → World → Prop) (hI : ∀ k, Stays w.heap.size (I k)) (hIx : ∀ c, Stays w.heap.size (Ix c)) (h0 : I 0 (fun _ => False) w) (hke : ∀ k S W, k ≤ N → I k S W → Ke k W)
    (Ax : Nat → (Nat → Prop) → Act → World → Prop)
    (hAx : ∀ k S a1 W l r r2, Ax k S a1 W → W.heap[l]? = some (.loop r) → Ax k S a1 (W.putObj l (.loop r2)))
    (hassign : ∀ (l k : Nat) (S : Nat → Prop) (W : World) (K : Act → World → Prop), w.heap.size ≤ W.heap.size → (∀ b, S b → b < W.heap.size) → (∀ a1 W1, Quiet w.heap.size S W W1 → Upd w.heap.size S S W W1 → Ax k S a1 W1 → K a1 W1) →
      assign.wpIn (Fence.wide.inRound l) 0 P (Exit.then K (fun _ _ _ => False)) { tmps := (ps.zip (encs k)).foldl (fun t (p, v) => t.setIfInBounds p v) a.tmps, defers := [] } W)
    (hS : ∀ k S W, I k S W → ∀ b, S b → b < W.heap.size)
    (hbody : ∀ (l k : Nat) (S : Nat → Prop) (a1 : Act) (W : World), k < N → I k S W → Ax k S a1 W → w.heap.size ≤ W.heap.size →
      body.wpIn (Fence.wide.inRound l) 0 P (bodyEndOn w.heap.size (I (k + 1)) Ix S W) a1 W)
    (hdone : ∀ (D : Nat) (S : Nat → Prop) (W : World), w.heap.size ≤ D → I N S W → W.heap[D]? = some (.deferred (some [])) → Q .normal { a with defers := { target := .collected D, args := #[] } :: a.defers } W)
    (hstop : ∀ (D : Nat) (c : Code) (S : Nat → Prop) (W : World), w.heap.size ≤ D → Ix c S W → W.heap[D]? = some (.deferred (some [])) → c.wpIn Fence.wide 0 P Q { a with defers := { target := .collected D, args := #[] } :: a.defers } W) :
    (Code.rangeFunc g ps assign body).wpIn Fence.wide 0 P Q a w := by
  refine wpIn_rangeFunc ?_
  intro fn _
  obtain ⟨rec, hrec⟩ : ∃ rec : LoopState → Option Code → Loop, rec = fun st pe => { state := st, pending := pe, fn, tmps := a.tmps, params := ps, assign, body, defers := w.heap.size } := ⟨_, rfl⟩
  obtain ⟨W1, hW1⟩ : ∃ W1, (w.alloc (.deferred (some []))).alloc (.loop (rec .ready none)) = W1 := ⟨_, rfl⟩
  have hL1 : W1.heap[w.heap.size + 1]? = some (.loop (rec .ready none)) := by
    rw [← hW1]; have h := World.alloc_heap_new (w.alloc (.deferred (some []))) (.loop (rec .ready none)); rwa [World.size_alloc] at h
  have hK1 : W1.heap[w.heap.size]? = some (.deferred (some [])) := by
    rw [← hW1]; exact (Below.heap_alloc _ _ _ (by simp)).trans (World.alloc_heap_new w _)
  have hq1 : Quiet w.heap.size (fun _ => False) w W1 := by rw [← hW1]; exact ((Quiet.refl _ _ w).alloc _).alloc _
  have hs1 : W1.heap.size = w.heap.size + 2 := by rw [← hW1]; simp
  have inner : ∀ (i : Nat) (S S' : Nat → Prop) (W W2 : World), w.heap.size ≤ i → i < w.heap.size + 2 → i < W.heap.size → ¬ S i → Upd w.heap.size S S' W W2 → W2.heap[i]? = W.heap[i]? ∧ ¬ S' i := fun i S S' W W2 h1 _ h3 h4 hu => hu.block i h1 h3 h4
  refine ⟨w.heap.size + 1, [{ target := .collected w.heap.size, args := #[] }], W1, { target := .fn (.func gf) lb, args := #[.func (.yield (w.heap.size + 1)) #[] #[]] }, W1, gf,
    #[.func (.yield (w.heap.size + 1)) #[] #[]] ++ lb, W1, ?_, ?_, ?_, ?_, fun h => by simp [Fence.wide] at h, ?_⟩
  · rw [← hW1, hrec]; exact run_enterLoop_outer _ _ _ _ _
  · simp only [resolve, hg]
    simp [go_sem]
  · exact fun _ _ => trivial
  · simp [invoke, go_sem, eg]
  · refine (hseq (w.heap.size + 1)
      (fun k S W => I k S W ∧ ¬ S w.heap.size ∧ ¬ S (w.heap.size + 1) ∧ W1.heap.size ≤ W.heap.size ∧ W.heap[w.heap.size + 1]? = some (.loop (rec .ready none)) ∧ W.heap[w.heap.size]? = some (.deferred (some [])))
      (fun S W => ∃ c, Ix c S W ∧ ¬ S w.heap.size ∧ ¬ S (w.heap.size + 1) ∧ W1.heap.size ≤ W.heap.size ∧ W.heap[w.heap.size + 1]? = some (.loop (rec .done (some c))) ∧ W.heap[w.heap.size]? = some (.deferred (some [])))
      W1 ?_ ?_ (fun k S W1 h => hS k S W1 h.1) (fun k S W1 hk h => hke k S W1 hk h.1) ?_ ⟨hI 0 _ _ _ h0 hq1, fun h => h, fun h => h, Nat.le_refl _, hL1, hK1⟩).mono ?_
    · rintro k S W W2 ⟨hi, n1, n2, hsz, hl, hk⟩ hq
      have hw : w.heap.size + 1 < W.heap.size := (Array.getElem?_eq_some_iff.1 hl).1
      exact ⟨hI k _ _ _ hi ⟨hq.os, hq.tape, hq.output, hq.size, fun b hb hlt => hq.block b (hb.imp (fun h => by omega) id) hlt⟩, n1, n2, Nat.le_trans hsz hq.size,
        (hq.block _ (.inl (by omega)) hw).trans hl, (hq.block _ (.inl (by omega)) (by omega)).trans hk⟩
    · rintro S W W2 ⟨c, hi, n1, n2, hsz, hl, hk⟩ hq
      have hw : w.heap.size + 1 < W.heap.size := (Array.getElem?_eq_some_iff.1 hl).1
      exact ⟨c, hIx c _ _ _ hi ⟨hq.os, hq.tape, hq.output, hq.size, fun b hb hlt => hq.block b (hb.imp (fun h => by omega) id) hlt⟩, n1, n2, Nat.le_trans hsz hq.size,
        (hq.block _ (.inl (by omega)) hw).trans hl, (hq.block _ (.inl (by omega)) (by omega)).trans hk⟩
    · rintro k S W hkN ⟨hi, n1, n2, hsz, hl, hk⟩ _
      have hlt : w.heap.size + 1 < W.heap.size := (Array.getElem?_eq_some_iff.1 hl).1
      have hy := run_yield (P := P) (args := encs k) hl (by rw [hrec]; exact hps k)
      rw [hrec] at hy
      refine ⟨fn, _, assign, body, hy, roundIn_of_wpIn trivial (hassign _ k S W _ (by omega) (hS k S W hi) ?_)⟩
      intro a1 Wa hqa hua hax
      have hla := (inner (w.heap.size + 1) _ _ _ _ (by omega) (by omega) hlt n2 hua).1.trans hl
      have hka := (inner w.heap.size _ _ _ _ (by omega) (by omega) (by omega) n1 hua).1.trans hk
      have hsa := hua.size
      refine ⟨_, run_beginRound hla (by rw [hrec]), ?_⟩
      have hlt2 : w.heap.size + 1 < Wa.heap.size := by omega
      have hia := hI k _ _ _ hi hqa
      obtain ⟨W2, hW2⟩ : ∃ W2, Wa.putObj (w.heap.size + 1) (.loop { rec .ready none with state := .busy }) = W2 := ⟨_, rfl⟩
      have hq2 : Quiet w.heap.size S Wa W2 := by rw [← hW2]; exact putObj_quiet _ _ _ (by omega) n2
      have hax2 : Ax k S a1 W2 := by rw [← hW2]; exact hAx _ _ _ _ _ _ _ hax hla
      have hl2 : W2.heap[w.heap.size + 1]? = some (.loop { rec .ready none with state := .busy }) := by rw [← hW2]; exact World.putObj_heap_same hlt2
      have hk2 : W2.heap[w.heap.size]? = some (.deferred (some [])) := by rw [← hW2]; exact (World.putObj_heap_other (by omega)).trans hka
      have hs2 : W2.heap.size = Wa.heap.size := by rw [← hW2]; simp
      rw [hW2]
      refine wpIn_mono (hbody _ k S a1 W2 hkN (hI k _ _ _ hia hq2) hax2 (by omega)) ?_
      have fin : ∀ (jump : Option Code) (S' : Nat → Prop) (W3 : World), Upd w.heap.size S S' W2 W3 →
          ∃ W4, (Instr.endRound (w.heap.size + 1) jump).run P W3 = .ok (.bool jump.isNone) W4 ∧ Upd W1.heap.size S S' W W4 ∧ Quiet w.heap.size S' W3 W4 ∧
            ¬ S' w.heap.size ∧ ¬ S' (w.heap.size + 1) ∧ W1.heap.size ≤ W4.heap.size ∧
            W4.heap[w.heap.size + 1]? = some (.loop (rec (if jump.isNone then .ready else .done) jump)) ∧ W4.heap[w.heap.size]? = some (.deferred (some [])) := fun jump S' W3 hu => by
        have hl3 := (inner (w.heap.size + 1) _ _ _ _ (by omega) (by omega) (by omega) n2 hu)
        have hk3 := (inner w.heap.size _ _ _ _ (by omega) (by omega) (by omega) n1 hu)
        have hl4 := hl3.1.trans hl2
        have hs3 := hu.size
        have hr := run_endRound (P := P) jump hl4
        have e : ({ rec .ready none with state := if jump.isNone then LoopState.ready else LoopState.done, pending := jump } : Loop) = rec (if jump.isNone then .ready else .done) jump := by rw [hrec]
        simp only at hr
        rw [e] at hr
        have hq4 : Quiet w.heap.size S' W3 (W3.putObj (w.heap.size + 1) (.loop (rec (if jump.isNone then .ready else .done) jump))) := putObj_quiet _ _ _ (by omega) hl3.2
        refine ⟨_, hr, ⟨by simp; omega, fun b hB hlt' hs' => ?_⟩, hq4, hk3.2, hl3.2, by simp; omega, World.putObj_heap_same (by omega), (World.putObj_heap_other (by omega)).trans (hk3.1.trans hk2)⟩
        · obtain ⟨g1, g2⟩ := hua.block b (by omega) hlt' hs'
          obtain ⟨g3, g4⟩ := hu.block b (by omega) (by omega) g2
          refine ⟨(World.putObj_heap_other (by omega)).trans (g3.trans ?_), g4⟩
          rw [← hW2, World.putObj_heap_other (by omega)]
          exact g1
      rintro e a3 W3 hp
      cases e with
      | normal =>
        obtain ⟨S', hu, hi3⟩ := hp
        obtain ⟨W4, hr, hu4, hq4, m1, m2, m3, hl4, hk4⟩ := fin none S' W3 hu
        exact ⟨_, _, hr, S', hu4, .inl ⟨rfl, hI _ _ _ _ hi3 hq4, m1, m2, m3, hl4, hk4⟩⟩
      | ret =>
        obtain ⟨S', hu, hi3⟩ := hp
        obtain ⟨W4, hr, hu4, hq4, m1, m2, m3, hl4, hk4⟩ := fin (some .ret) S' W3 hu
        exact ⟨_, _, hr, S', hu4, .inr ⟨rfl, .ret, hIx _ _ _ _ hi3 hq4, m1, m2, m3, hl4, hk4⟩⟩
      | exit id =>
        obtain ⟨S', hu, hi3⟩ := hp
        obtain ⟨W4, hr, hu4, hq4, m1, m2, m3, hl4, hk4⟩ := fin (some (.exit id)) S' W3 hu
        exact ⟨_, _, hr, S', hu4, .inr ⟨rfl, .exit id, hIx _ _ _ _ hi3 hq4, m1, m2, m3, hl4, hk4⟩⟩
      | goto t =>
        obtain ⟨S', hu, hi3⟩ := hp
        obtain ⟨W4, hr, hu4, hq4, m1, m2, m3, hl4, hk4⟩ := fin (some (.goto t)) S' W3 hu
        exact ⟨_, _, hr, S', hu4, .inr ⟨rfl, .goto t, hIx _ _ _ _ hi3 hq4, m1, m2, m3, hl4, hk4⟩⟩
      | panic ch => exact hp.elim
      | outgrown => exact hp.elim
    · rintro e W2 ⟨⟨v, rfl⟩, S, (⟨hi, n1, n2, hsz, hl, hk⟩ | ⟨c, hi, n1, n2, hsz, hl, hk⟩)⟩
      · refine ⟨none, _, by have h := run_endLoop (P := P) hl (by rw [hrec]; simp); rw [hrec] at h; exact h, ?_⟩
        exact hdone _ S _ (Nat.le_refl _) (hI _ _ _ _ hi (putObj_quiet _ _ _ (by omega) n2)) ((World.putObj_heap_other (by omega)).trans hk)
      · refine ⟨some c, _, by have h := run_endLoop (P := P) hl (by rw [hrec]; simp); rw [hrec] at h; exact h, ?_⟩
        exact hstop _ c S _ (Nat.le_refl _) (hIx _ _ _ _ hi (putObj_quiet _ _ _ (by omega) n2)) ((World.putObj_heap_other (by omega)).trans hk)

end Go.KP
namespace Go.Proofs.YtgddookioipjiaaGreatDoor
open Go.RowKit Go.KP Go.KI Go.Shelf
attribute [local go_sem] Oper.semAt_some

theorem backward_any (a : Option Addr) (n c : Nat) (w : World) :
    Calls Tryz.prog 173 #[.slice a n c] w fun e w' => e = .returned (.func (.func 208) #[] #[.pointer (some ⟨w.heap.size, 0, none⟩)]) ∧ w.alloc (.cells #[.slice a n c] 40) = w' := by
  go_enter Tryz.func173, Tryz.ntmps173
  go_wp2_with fail
  go_ret
  exact ⟨rfl, rfl⟩
theorem digits_any (s : ByteArray) (w : World) :
    Calls Tryz.prog 170 #[.string s] w fun e w' => e = .returned (.func (.func 207) #[] #[.pointer (some ⟨w.heap.size, 0, none⟩)]) ∧ w.alloc (.cells #[.string s] 9) = w' := by
  go_enter Tryz.func170, Tryz.ntmps170
  go_wp2_with fail
  go_ret
  exact ⟨rfl, rfl⟩
/-- What the iterator backward reads. -/
def BackAt (bx : Nat) (a : Option Addr) (n c : Nat) (f : Nat → Int) (k : Nat) (W : World) : Prop :=
  W.heap[bx]? = some (.cells #[.slice a n c] 40 (0, 0)) ∧ (k < n → ∃ g o, a = some ⟨g, o, none⟩ ∧ W.cell? ⟨g, o + (n - 1 - k), none⟩ = some (.int .i64 (f k)))
set_option maxRecDepth 100000 in
set_option maxHeartbeats 1000000 in
theorem backSeq_any (bx n c : Nat) (a : Option Addr) (f : Nat → Int) (hn : n ≤ 1000000) :
    IterOn Tryz.prog 208 #[.pointer (some ⟨bx, 0, none⟩)] (fun k => #[.int .i64 ((n : Int) - 1 - k), .int .i64 (f k)]) n (BackAt bx a n c f) := by
  intro l J Jx W hJ hJx hJS hKe hY h0
  refine callsIn_of_wp Tryz.func208 rfl trivial ?_ rfl
  simp only [Tryz.ntmps208, List.size_toArray, List.length_cons, List.length_nil, Nat.reduceAdd, Nat.reduceSub, Array.replicate_succ, Array.replicate_zero, List.push_toArray, List.append_toArray, List.nil_append, List.cons_append]
  have c0 := cell_blk (hKe 0 _ _ (Nat.zero_le _) h0).1 0
  have HJ := hide hJ; have HJx := hide hJx; have HJS := hide hJS; have HY := hide hY; have H0 := hide h0; have HK := hide hKe
  clear hJ hJx hJS hY h0 hKe
  gi_wp2
  clear c0
  gi_loopw [3] (fun i wr => ∃ (k : Nat) (S : Nat → Prop), k ≤ n ∧ i = .int .i64 ((n : Int) - 1 - k) ∧ Hid (J k S wr ∧ W.heap.size ≤ wr.heap.size)) (fun i _ => (intOf i + 1).toNat)
  case atStart => exact ⟨0, _, Nat.zero_le _, by simp, H0.out, Nat.le_refl _⟩
  case round =>
    obtain ⟨k, S, hk, rfl, hin⟩ := hrel
    obtain ⟨hbox, hcl⟩ := HK.out k S wr hk hin.out.1
    have c0 := cell_blk hbox 0
    by_cases hlt : k < n
    · obtain ⟨g, o, rfl, hcell⟩ := hcl hlt
      obtain ⟨m, hm⟩ : ∃ m : Nat, (n : Int) - 1 - (k : Int) = m := ⟨n - 1 - k, by omega⟩
      have hm2 : n - 1 - k = m := by omega
      rw [hm2] at hcell
      have hyy := HY.out k S wr hlt hin.out.1 hin.out.2
      rw [hm] at hyy ⊢
      obtain ⟨fn, tmps, assign, body, hy, hR⟩ := hyy
      have HR := hide hR
      have hm0 : (0 : Int) ≤ (m : Int) := by omega
      have hml : (m : Int) < (n : Int) := by omega
      have HM := hide hm; have HSZ := hide hin.out.2
      clear hR hm hm2 hin hcl hbox
      gi_wp2
      refine ⟨rfl, HR.out.mono ?_⟩
      rintro e W3 ⟨S3, hu3, (⟨rfl, hJ3⟩ | ⟨rfl, hJx3⟩)⟩
      · have HJ3 := hide (And.intro hJ3 (Nat.le_trans HSZ.out hu3.size))
        clear hu3 hJ3 hy HR
        gi_wp2
        go_roundw
        case rel => exact ⟨k + 1, S3, by omega, by have := HM.out; congr 1; omega, HJ3.out⟩
        case measure => simp [intOf]
      · clear hu3 hy HR
        gi_wp2
        refine bodyPost_ret (results_none rfl _ _ _) rfl ?_
        exact ⟨⟨_, rfl⟩, S3, .inr hJx3⟩
    · obtain rfl : k = n := by omega
      have hm : (k : Int) - 1 - (k : Int) = -1 := by omega
      rw [hm]
      clear hm hcl c0 hbox
      gi_wp2
      refine bodyPost_end (results_none rfl _ _ _) rfl ?_
      exact ⟨⟨_, rfl⟩, S, .inl hin.out.1⟩
/-- A digit, from the last one on. -/
def digAt (l : List UInt8) (k : Nat) : Nat := (l[l.length - 1 - k]?.getD 48).toNat - 48
set_option maxRecDepth 100000 in
set_option maxHeartbeats 1000000 in
theorem digitSeq_any (bx : Nat) (s : ByteArray) (hs : s.size ≤ 1000000) (hd : ∀ c ∈ s.data.toList, isDg c = true) :
    IterOn Tryz.prog 207 #[.pointer (some ⟨bx, 0, none⟩)] (fun k => #[.int .i64 k, .int .i64 (digAt s.data.toList k)]) s.size (fun _ W => W.heap[bx]? = some (.cells #[.string s] 9 (0, 0))) := by
  intro l J Jx W hJ hJx hJS hKe hY h0
  refine callsIn_of_wp Tryz.func207 rfl trivial ?_ rfl
  simp only [Tryz.ntmps207, List.size_toArray, List.length_cons, List.length_nil, Nat.reduceAdd, Nat.reduceSub, Array.replicate_succ, Array.replicate_zero, List.push_toArray, List.append_toArray, List.nil_append, List.cons_append]
  have c0 := cell_blk (hKe 0 _ _ (Nat.zero_le _) h0) 0
  have HJ := hide hJ; have HJx := hide hJx; have HJS := hide hJS; have HY := hide hY; have H0 := hide h0; have HK := hide hKe; have HD := hide hd
  clear hJ hJx hJS hY h0 hKe hd
  gi_wp2
  clear c0
  gi_loopw [6] (fun i wr => ∃ (k : Nat) (S : Nat → Prop), k ≤ s.size ∧ i = .int .i64 k ∧ Hid (J k S wr ∧ W.heap.size ≤ wr.heap.size)) (fun i _ => s.size - (intOf i).toNat)
  case atStart => exact ⟨0, _, Nat.zero_le _, rfl, H0.out, Nat.le_refl _⟩
  case round =>
    obtain ⟨k, S, hk, rfl, hin⟩ := hrel
    have c0 := cell_blk (HK.out k S wr hk hin.out.1) 0
    by_cases hlt : k < s.size
    · have e3 : (k : Int) < (s.size : Int) := by omega
      obtain ⟨m, hm⟩ : ∃ m : Nat, (s.size : Int) - 1 - (k : Int) = m := ⟨s.size - 1 - k, by omega⟩
      have hml : m < s.size := by omega
      have hmi : (m : Int) < (s.size : Int) := by omega
      have hat : s.data.toList[m]? = some (s[m]'hml) := by
        have h1 : s.data.toList[m]? = some s.data[m] := by simp
        exact h1
      have hdg := isDg_iff.1 (HD.out _ (List.mem_of_getElem? hat))
      have hda : digAt s.data.toList k = (s[m]'hml).toNat - 48 := by
        unfold digAt
        rw [bytes_len, show s.size - 1 - k = m by omega, hat]
        rfl
      have hyy := HY.out k S wr hlt hin.out.1 hin.out.2
      rw [hda] at hyy
      obtain ⟨y, hyv⟩ : ∃ y : Nat, y = (s[m]'hml).toNat := ⟨_, rfl⟩
      rw [← hyv] at hyy hdg
      have hy2 : ((y - 48 : Nat) : Int) = (y : Int) - 48 := by omega
      rw [hy2] at hyy
      obtain ⟨fn, tmps, assign, body, hy, hR⟩ := hyy
      have HR := hide hR
      have hm0 : (0 : Int) ≤ (m : Int) := by omega
      have y0 : (48 : Int) ≤ (y : Int) := by omega
      have y1 : (y : Int) ≤ 57 := by omega
      have HSZ := hide hin.out.2
      have hyv2 : (s[m]'hml).toNat = y := hyv.symm
      clear hR hin hat hda hy2 hyv hdg
      gi_wp2
      refine ⟨rfl, HR.out.mono ?_⟩
      rintro e W3 ⟨S3, hu3, (⟨rfl, hJ3⟩ | ⟨rfl, hJx3⟩)⟩
      · have HJ3 := hide (And.intro hJ3 (Nat.le_trans HSZ.out hu3.size))
        clear hu3 hJ3 hy HR
        gi_wp2
        go_roundw
        case rel => exact ⟨k + 1, S3, by omega, by go_num, HJ3.out⟩
        case measure => simp [intOf]; omega
      · clear hu3 hy HR
        gi_wp2
        refine bodyPost_ret (results_none rfl _ _ _) rfl ?_
        exact ⟨⟨_, rfl⟩, S3, .inr hJx3⟩
    · obtain rfl : k = s.size := by omega
      have e3 : ¬ (s.size : Int) < (s.size : Int) := by omega
      gi_wp2
      refine bodyPost_end (results_none rfl _ _ _) rfl ?_
      exact ⟨⟨_, rfl⟩, S, .inl hin.out.1⟩
end Go.Proofs.YtgddookioipjiaaGreatDoor
namespace Go.Proofs.YtgddookioipjiaaGreatDoor
open Go.RowKit Go.KP Go.KI Go.Shelf
attribute [local go_sem] Oper.semAt_some

theorem upper_cmp {x y : List Nat} (hx : Lt 1000000000 x) (hy : Lt 1000000000 y) (hl : x.length = y.length) {k : Nat} (hk : k < x.length) (hs : ∀ j, j < k → lat x (x.length - 1 - j) = lat y (x.length - 1 - j)) (hne : lat x (x.length - 1 - k) ≠ lat y (x.length - 1 - k)) :
    CmpRes ((lat x (x.length - 1 - k) : Int) - lat y (x.length - 1 - k)) (lv 1000000000 x) (lv 1000000000 y) := by
  have hd : x.drop (x.length - 1 - k + 1) = y.drop (x.length - 1 - k + 1) := by
    apply List.ext_getElem?
    intro i
    rw [List.getElem?_drop, List.getElem?_drop]
    by_cases hi : x.length - 1 - k + 1 + i < x.length
    · have h1 := hs (k - 1 - i) (by omega)
      rw [show x.length - 1 - (k - 1 - i) = x.length - 1 - k + 1 + i by omega] at h1
      rw [lat_some hi, lat_some (l := y) (by omega), h1]
    · rw [List.getElem?_eq_none (by omega), List.getElem?_eq_none (by omega)]
  rcases Nat.lt_or_gt_of_ne hne with h | h
  · have h1 := lv_top_lt (b := 1000000000) (by omega) hx hl (i := x.length - 1 - k) (by omega) hd h
    exact ⟨by omega, by omega⟩
  · have h1 := lv_top_lt (b := 1000000000) (by omega) hy hl.symm (i := x.length - 1 - k) (by omega) hd.symm h
    exact ⟨by omega, by omega⟩
theorem all_cmp {x y : List Nat} (hl : x.length = y.length) (hs : ∀ j, j < x.length → lat x (x.length - 1 - j) = lat y (x.length - 1 - j)) : x = y := by
  apply List.ext_getElem?
  intro i
  by_cases hi : i < x.length
  · have h1 := hs (x.length - 1 - i) (by omega)
    rw [show x.length - 1 - (x.length - 1 - i) = i by omega] at h1
    rw [lat_some hi, lat_some (l := y) (by omega), h1]
  · rw [List.getElem?_eq_none (by omega), List.getElem?_eq_none (by omega)]
/-- What compare returns. -/
def CompRes (x y : List Nat) (w : World) (e : Ending) (w2 : World) : Prop := ∃ r : Int, e = .returned (.int .i64 r) ∧ CmpRes r (lv 1000000000 x) (lv 1000000000 y) ∧ Below w.heap.size w w2
set_option maxRecDepth 100000 in
set_option maxHeartbeats 2000000 in
theorem compare_any (va vb : Value) (x y : List Nat) (B : Nat) (w : World) (ha : LimbAt B w va x) (hb : LimbAt B w vb y) (hB : B ≤ w.heap.size) (hx : Norm 1000000000 x) (hy : Norm 1000000000 y) (lx : x.length ≤ 100000) (ly : y.length ≤ 100000) :
    Calls Tryz.prog 137 #[va, vb] w (CompRes x y w) := by
  obtain ⟨a0, c0, hva⟩ := ha.form
  obtain ⟨a1, c1, hvb⟩ := hb.form
  subst hva; subst hvb
  have HA := hide ha; have HB := hide hb; have HX := hide hx; have HY := hide hy
  clear ha hb hx hy
  obtain ⟨b0, b1, hs0, hB0⟩ := heap2 w (.cells #[.slice a1 y.length c1] 40) (.cells #[.int .i64 0] 3)
  obtain ⟨w0, hw0⟩ : ∃ w0, (w.alloc (.cells #[.slice a1 y.length c1] 40)).alloc (.cells #[.int .i64 0] 3) = w0 := ⟨_, rfl⟩
  rw [hw0] at b0 b1 hs0 hB0
  have c0' := cell_blk b0 0
  have c1' := cell_blk b1 0
  have f1' := froz_blk b1 0
  have HB0 := hide hB0; have H0 := hide b0; have H1 := hide b1
  have hs0' : w.heap.size + 2 ≤ w0.heap.size := by omega
  clear b0 b1 hs0 hB0
  refine (callsIn_wide (n := 0)).1 ?_
  refine callsIn_of_wp_marks Tryz.func137 rfl trivial ?_ rfl
  simp only [Tryz.ntmps137, List.size_toArray, List.length_cons, List.length_nil, Nat.reduceAdd, Nat.reduceSub, Array.replicate_succ, Array.replicate_zero, List.push_toArray, List.append_toArray, List.nil_append, List.cons_append]
  by_cases hlen : x.length = y.length
  · have hq : ((x.length : Int) != (y.length : Int)) = false := by rw [hlen]; simp
    have HL := hide hlen
    clear hlen
    gi_wp2_with fail
    refine ⟨trivial, rfl, (callsIn_wide.2 (backward_any a0 x.length c0 w0)).mono ?_⟩
    rintro e w1 ⟨rfl, hw1⟩
    obtain ⟨g1, gs1, gb1⟩ := heap1 w0 (.cells #[.slice a0 x.length c0] 40)
    rw [hw1] at g1 gs1 gb1
    have d0 := below_blk gb1 H0.out (by omega)
    have d1 := below_blk gb1 H1.out (by omega)
    have HB1 := hide (HB0.out.trans (gb1.mono (by omega))); have G1 := hide g1; have D0 := hide d0; have D1 := hide d1
    have hs1 : w0.heap.size + 1 = w1.heap.size := by omega
    clear hw1 g1 gs1 gb1 d0 d1 c0' c1' f1' HB0 H0 H1 hq hw0
    gi_wp2_with fail
    refine wp_iter_on (gf := 208) (lb := #[.pointer (some ⟨w0.heap.size, 0, none⟩)]) rfl (enters_of Tryz.func208 (by kernel_rfl) rfl) (backSeq_any w0.heap.size x.length c0 a0 (fun k => ((lat x (x.length - 1 - k) : Nat) : Int)) (by omega)) (fun _ => rfl)
      (fun k S W => S = (fun _ => False) ∧ W.heap[w.heap.size]? = some (.cells #[.slice a1 y.length c1] 40 (0, 0)) ∧ W.heap[w.heap.size + 1]? = some (.cells #[.int .i64 0] 3 (0, 0)) ∧ W.heap[w0.heap.size]? = some (.cells #[.slice a0 x.length c0] 40 (0, 0)) ∧ Below w.heap.size w W ∧ ∀ j, j < k → lat x (x.length - 1 - j) = lat y (x.length - 1 - j))
      (fun c S W => c = .ret ∧ S = (fun _ => False) ∧ Below w.heap.size w W ∧ ∃ r : Int, W.heap[w.heap.size + 1]? = some (.cells #[.int .i64 r] 3 (0, 0)) ∧ CmpRes r (lv 1000000000 x) (lv 1000000000 y)) ?hI ?hIx ?h0 ?hke
      (fun k S a1' W => a1' = { tmps := #[.slice a0 x.length c0, .slice a1 y.length c1, undef, .pointer (some ⟨w.heap.size, 0, none⟩), .pointer (some ⟨w.heap.size + 1, 0, none⟩), .int .i64 ((x.length : Int) - 1 - k), .int .i64 ((lat x (x.length - 1 - k) : Nat) : Int), .slice a0 x.length c0, .int .i64 x.length, .slice a1 y.length c1, .int .i64 y.length, .bool false, undef, undef, undef, undef, undef, .slice a0 x.length c0, .func (.func 208) #[] #[.pointer (some ⟨w0.heap.size, 0, none⟩)], .int .i64 ((x.length : Int) - 1 - k), .int .i64 ((lat x (x.length - 1 - k) : Nat) : Int), undef, undef, undef, undef, undef, undef, undef, undef, undef, undef, undef, undef], defers := [] })
      ?hAx ?hassign ?hS ?hbody ?hdone ?hstop
    case hI =>
      rintro k S W W2 ⟨rfl, e1, e2, e3, hb, hp⟩ hq
      exact ⟨rfl, hq.at_ e1 (.inl (by omega)), hq.at_ e2 (.inl (by omega)), hq.at_ e3 (.inl (by omega)), Quiet.below hb hq (by omega) hb.size, hp⟩
    case hIx =>
      rintro c S W W2 ⟨rfl, rfl, hb, r, e1, hr⟩ hq
      exact ⟨rfl, rfl, Quiet.below hb hq (by omega) hb.size, r, hq.at_ e1 (.inl (by omega)), hr⟩
    case h0 => exact ⟨rfl, D0.out, D1.out, G1.out, HB1.out, fun j hj => by omega⟩
    case hke =>
      rintro k S W hk ⟨rfl, e1, e2, e3, hb, hp⟩
      refine ⟨e3, fun hlt => ?_⟩
      rcases (HA.out.below hb hB).cases with ⟨_, _, _, hnil⟩ | ⟨g, o, cap, hv, hg, hc⟩
      · rw [hnil] at hlt
        simp at hlt
      · injection hv with hv1 hv2 hv3
        exact ⟨g, o, hv1, hc _ (by omega)⟩
    case hAx =>
      rintro k S a1' W l r r2 h _
      exact h
    case hassign =>
      intro l k S W K hsz hSlt hK
      gi_wp2
      exact hK _ _ (Quiet.refl _ _ _) (Upd.refl _ _ _) rfl
    case hS =>
      rintro k S W ⟨rfl, _⟩ b hb
      exact hb.elim
    case hbody =>
      rintro l k S a1' W hk ⟨rfl, e1, e2, e3, hb, hp⟩ rfl hsz
      have q1 := cell_blk e1 0
      have q2 := cell_blk e2 0
      have q3 := froz_blk e2 0
      obtain ⟨m, hm⟩ : ∃ m : Nat, (x.length : Int) - 1 - (k : Int) = m := ⟨x.length - 1 - k, by omega⟩
      have hm2 : x.length - 1 - k = m := by omega
      have hml : m < y.length := by have := HL.out; omega
      have hyc : ∃ g o, a1 = some ⟨g, o, none⟩ ∧ W.cell? ⟨g, o + m, none⟩ = some (.int .i64 (lat y m)) := by
        rcases (HB.out.below hb hB).cases with ⟨_, _, _, hnil⟩ | ⟨g, o, cap, hv, hg, hc⟩
        · rw [hnil] at hml
          simp at hml
        · injection hv with hv1 hv2 hv3
          exact ⟨g, o, hv1, hc _ hml⟩
      obtain ⟨g, o, rfl, q4⟩ := hyc
      have hm0 : (0 : Int) ≤ (m : Int) := by omega
      have hmi : (m : Int) < (y.length : Int) := by omega
      rw [hm, hm2]
      have HP := hide hp; have HBW := hide hb; have E1 := hide e1; have E2 := hide e2; have E3 := hide e3; have HM := hide hm2
      by_cases hne : lat x m = lat y m
      · have hq : ((lat x m : Int) != (lat y m : Int)) = false := by rw [hne]; simp
        have HNE := hide hne
        clear hm hm2 hp hb e1 e2 e3 hne
        gi_wp2
        refine ⟨fun _ => False, Upd.refl _ _ _, rfl, E1.out, E2.out, E3.out, HBW.out, fun j hj => ?_⟩
        rcases Nat.lt_or_ge j k with h | h
        · exact HP.out j h
        · obtain rfl : j = k := by omega
          rw [HM.out]
          exact HNE.out
      · have hq : ((lat x m : Int) != (lat y m : Int)) = true := by
          have : (lat x m : Int) ≠ (lat y m : Int) := by omega
          simpa using this
        have HC := hide (upper_cmp HX.out.lt HY.out.lt HL.out hk hp (by rw [hm2]; exact hne))
        rw [hm2] at HC
        have lx1 := lat_lt (by omega) HX.out.lt m
        have ly1 := lat_lt (by omega) HY.out.lt m
        clear hm hm2 hp hb e1 e2 e3 hne
        gi_wp2
        refine ⟨fun _ => False, (Upd.refl _ _ _).setBox (by simp; omega) _, rfl, rfl, HBW.out.setCell (p := ⟨w.heap.size + 1, 0, none⟩) (by simp) _, _, Boxed.set _ E2.out, HC.out⟩
    case hdone =>
      rintro D S W hD ⟨rfl, e1, e2, e3, hb, hp⟩ hK
      have q2 := cell_blk e2 0
      have q3 := froz_blk e2 0
      have HBW := hide hb; have HK := hide hK; have E2 := hide e2
      have HXY := hide (all_cmp HL.out hp)
      clear hb hK e1 e2 e3 hp
      gi_wp2
      refine ⟨by simp, .inl ⟨_, _, rfl, run_takeDeferred (b := D) ((Below.heap_setCell _ _ _ _ (by simp; omega)).trans HK.out), ?_⟩⟩
      have hK2 : (W.setCell ⟨w.heap.size + 1, 0, none⟩ (.int .i64 0)).heap[D]? = some (.deferred (some [])) := (Below.heap_setCell _ _ _ _ (by simp; omega)).trans HK.out
      have hE : ((W.setCell ⟨w.heap.size + 1, 0, none⟩ (.int .i64 0)).putObj D (.deferred none)).heap[w.heap.size + 1]? = some (.cells #[.int .i64 0] 3 (0, 0)) := (World.putObj_heap_other (by omega)).trans (Boxed.set _ E2.out)
      have hc := cell_blk hE 0
      refine ⟨.int .i64 0, by simp [results, go_sem, hc], 0, rfl, ⟨by rw [HXY.out]; omega, by rw [HXY.out]; simp⟩, (HBW.out.setCell (p := ⟨w.heap.size + 1, 0, none⟩) (by simp) _).trans (belowK_b (w := w) (Nat.le_refl _) _ D _ _ (by omega) hK2 rfl rfl)⟩
    case hstop =>
      rintro D c S W hD ⟨rfl, rfl, hb, r, e1, hr⟩ hK
      have q2 := cell_blk e1 0
      have HBW := hide hb; have HK := hide hK; have E1 := hide e1; have HR := hide hr
      clear hb hK e1 hr
      gi_wp2
      refine ⟨by simp, .inl ⟨_, _, rfl, run_takeDeferred HK.out, ?_⟩⟩
      have hE : (W.putObj D (.deferred none)).heap[w.heap.size + 1]? = some (.cells #[.int .i64 r] 3 (0, 0)) := (World.putObj_heap_other (by omega)).trans E1.out
      have hc := cell_blk hE 0
      refine ⟨.int .i64 r, by simp [results, go_sem, hc], r, rfl, HR.out, HBW.out.trans (belowK_b (w := w) (Nat.le_refl _) _ D _ _ (by omega) HK.out rfl rfl)⟩
  · have hq : ((x.length : Int) != (y.length : Int)) = true := by
      have : (x.length : Int) ≠ (y.length : Int) := by omega
      simpa using this
    have HC := hide (show CmpRes ((x.length : Int) - y.length) (lv 1000000000 x) (lv 1000000000 y) by
      rcases Nat.lt_or_gt_of_ne hlen with h | h
      · have := norm_len_lt (b := 1000000000) (by omega) HX.out.lt HY.out h
        exact ⟨by omega, by omega⟩
      · have := norm_len_lt (b := 1000000000) (by omega) HY.out.lt HX.out h
        exact ⟨by omega, by omega⟩)
    clear hlen
    gi_wp2_with fail
    have hc := cell_blk (Boxed.set (.int .i64 ((x.length : Int) - y.length)) H1.out) 0
    refine ⟨.int .i64 ((x.length : Int) - y.length), by simp [results, go_sem, hc], ⟨_, rfl, HC.out, HB0.out.setCell (p := ⟨w.heap.size + 1, 0, none⟩) (by simp) _⟩⟩
end Go.Proofs.YtgddookioipjiaaGreatDoor
namespace Go.Proofs.YtgddookioipjiaaGreatDoor
open Go.RowKit Go.KP Go.KI Go.Shelf

/-- A number as a value. -/
abbrev numV (m : Bool) (v : Value) : Value := .agg #[.bool m, v]
theorem plus_lv {x y : List Nat} (hx : Lt 1000000000 x) (hy : Lt 1000000000 y) : Norm 1000000000 (trimL (combL plusP x y)) ∧ lv 1000000000 (trimL (combL plusP x y)) = lv 1000000000 x + lv 1000000000 y ∧ (trimL (combL plusP x y)).length ≤ max x.length y.length + 1 := by
  have hf := combTo_facts plusFn.small hx hy
  have key : ∀ i, lv 1000000000 (combTo plusP x y i).1 + 1000000000 ^ i * (combTo plusP x y i).2 = lvT 1000000000 x i + lvT 1000000000 y i := by
    intro i
    induction i with
    | zero => simp [combTo, lv, lvT]
    | succ i ih =>
      have h := plus_step (b := 1000000000) (n := (plusP (lat x i) (lat y i) (combTo plusP x y i).2).1) (c2 := (plusP (lat x i) (lat y i) (combTo plusP x y i).2).2) (x := lat x i) (y := lat y i) ih (by unfold plusP; simp only; omega)
      rw [lvT_succ, lvT_succ, ← h]
      simp only [combTo]
      rw [lv_snoc, (hf i).1]
  obtain ⟨n, hn⟩ : ∃ n, n = max x.length y.length + 1 := ⟨_, rfl⟩
  have h1 := key n
  rw [lvT_all (l := x) (by omega), lvT_all (l := y) (by omega)] at h1
  have hc : (combTo plusP x y n).2 = 0 := by
    rcases Nat.eq_zero_or_pos (combTo plusP x y n).2 with h | h
    · exact h
    · exfalso
      have hx1 := lv_lt hx
      have hy1 := lv_lt hy
      have e1 : 1000000000 ^ x.length ≤ 1000000000 ^ (n - 1) := Nat.pow_le_pow_right (by omega) (by omega)
      have e2 : 1000000000 ^ y.length ≤ 1000000000 ^ (n - 1) := Nat.pow_le_pow_right (by omega) (by omega)
      have e3 : 1000000000 ^ n = 1000000000 ^ (n - 1) * 1000000000 := by rw [← Nat.pow_succ]; congr 1; omega
      have e4 : 1000000000 ^ n * 1 ≤ 1000000000 ^ n * (combTo plusP x y n).2 := Nat.mul_le_mul_left _ h
      omega
  rw [hc] at h1
  unfold combL
  rw [← hn]
  refine ⟨trimL_norm (hf n).2.1, by rw [trimL_lv]; omega, ?_⟩
  rw [trimL_len]
  have := trimTo_le (combTo plusP x y n).1 (combTo plusP x y n).1.length
  have := (hf n).1
  omega
theorem minusP_eq {x y c : Nat} (hx : x < 1000000000) (hy : y < 1000000000) (hc : c ≤ 1) : (minusP x y c).1 + y + c = x + 1000000000 * (minusP x y c).2 := by
  unfold minusP
  split <;> simp only <;> omega
theorem minus_lv {x y : List Nat} (hx : Lt 1000000000 x) (hy : Lt 1000000000 y) (hle : lv 1000000000 y ≤ lv 1000000000 x) : Norm 1000000000 (trimL (combL minusP x y)) ∧ lv 1000000000 (trimL (combL minusP x y)) = lv 1000000000 x - lv 1000000000 y ∧ (trimL (combL minusP x y)).length ≤ max x.length y.length + 1 := by
  have hf := combTo_facts minusFn.small hx hy
  have key : ∀ i, lv 1000000000 (combTo minusP x y i).1 + lvT 1000000000 y i = lvT 1000000000 x i + 1000000000 ^ i * (combTo minusP x y i).2 := by
    intro i
    induction i with
    | zero => simp [combTo, lv, lvT]
    | succ i ih =>
      have hb := lat_lt (by omega) hx i
      have hb2 := lat_lt (by omega) hy i
      have hb3 := (hf i).2.2
      have h := minus_step (b := 1000000000) (n := (minusP (lat x i) (lat y i) (combTo minusP x y i).2).1) (c2 := (minusP (lat x i) (lat y i) (combTo minusP x y i).2).2) (x := lat x i) (y := lat y i) ih (minusP_eq hb hb2 hb3)
      rw [lvT_succ, lvT_succ]
      simp only [combTo]
      rw [lv_snoc, (hf i).1]
      exact h
  obtain ⟨n, hn⟩ : ∃ n, n = max x.length y.length + 1 := ⟨_, rfl⟩
  have h1 := key n
  rw [lvT_all (l := x) (by omega), lvT_all (l := y) (by omega)] at h1
  have hl := lv_lt (hf n).2.1
  rw [(hf n).1] at hl
  have hc : (combTo minusP x y n).2 = 0 := by
    rcases Nat.eq_zero_or_pos (combTo minusP x y n).2 with h | h
    · exact h
    · exfalso
      have e4 : 1000000000 ^ n * 1 ≤ 1000000000 ^ n * (combTo minusP x y n).2 := Nat.mul_le_mul_left _ h
      omega
  rw [hc] at h1
  unfold combL
  rw [← hn]
  refine ⟨trimL_norm (hf n).2.1, by rw [trimL_lv]; omega, ?_⟩
  rw [trimL_len]
  have := trimTo_le (combTo minusP x y n).1 (combTo minusP x y n).1.length
  have := (hf n).1
  omega
/-- A number of this value. -/
def NumOf (z : Int) (r : Value) (w2 : World) : Prop := ∃ (m : Bool) (v : Value) (l : List Nat), r = numV m v ∧ OwnL 0 w2 v l ∧ Norm 1000000000 l ∧ valS m (lv 1000000000 l) = z ∧ l.length ≤ 90000
theorem exit_add {R : Ending → World → Prop} {a : Act} {W : World} {b : Nat} {m : Bool} {v : Value} (hb : W.heap[b]? = some (.cells #[.bool m, v] 128 (0, 0)))
    (h2 : a.tmps[4]? = some (.pointer (some ⟨b, 0, none⟩))) (hd : a.defers = []) (hR : R (.returned (numV m v)) W) : bodyPost Tryz.prog Tryz.f125 R .ret a W := by
  have hcell := fun o => cell_blk hb o
  refine bodyPost_ret ?_ hd hR
  simp [results, go_sem, hcell, h2]
theorem set2 {w : World} {b : Nat} {u0 u1 : Value} {t : TypeId} (h : w.heap[b]? = some (.cells #[u0, u1] t (0, 0))) (v0 v1 : Value) :
    ((w.setCell ⟨b, 0, none⟩ v0).setCell ⟨b, 1, none⟩ v1).heap[b]? = some (.cells #[v0, v1] t (0, 0)) ∧ Below b w ((w.setCell ⟨b, 0, none⟩ v0).setCell ⟨b, 1, none⟩ v1) := by
  refine ⟨?_, ((Below.refl b w).setCell (p := ⟨b, 0, none⟩) (Nat.le_refl _) _).setCell (p := ⟨b, 1, none⟩) (Nat.le_refl _) _⟩
  simp only [World.setCell, Array.getElem?_modify, h]
  simp
theorem valS_add (m : Bool) (a b : Nat) : valS m a + valS m b = valS m (a + b) := by
  cases m <;> simp [valS] <;> omega
theorem valS_sub (m : Bool) {a b : Nat} (h : b ≤ a) : valS m a + valS (!m) b = valS m (a - b) := by
  cases m <;> simp [valS] <;> omega
theorem valS_sub2 (m : Bool) {a b : Nat} (h : a ≤ b) : valS m a + valS (!m) b = valS (!m) (b - a) := by
  cases m <;> simp [valS] <;> omega
/-- The blocks of add: both numbers, the result. -/
structure AddSt (w : World) (m1 m2 : Bool) (v1 v2 : Value) (W : World) : Prop where
  one : W.heap[w.heap.size]? = some (.cells #[.bool m1, v1] 128 (0, 0))
  two : W.heap[w.heap.size + 1]? = some (.cells #[.bool m2, v2] 128 (0, 0))
  res : W.heap[w.heap.size + 2]? = some (.cells #[.bool false, .slice none 0 0] 128 (0, 0))
  below : Below w.heap.size w W
theorem AddSt.on {w : World} {m1 m2 : Bool} {v1 v2 : Value} {W W2 : World} (h : AddSt w m1 m2 v1 v2 W) (hb : Below W.heap.size W W2) : AddSt w m1 m2 v1 v2 W2 :=
  ⟨below_blk hb h.one (lt_blk h.one), below_blk hb h.two (lt_blk h.two), below_blk hb h.res (lt_blk h.res), h.below.trans (hb.mono h.below.size)⟩
theorem AddSt.cells {w : World} {m1 m2 : Bool} {v1 v2 : Value} {W : World} (h : AddSt w m1 m2 v1 v2 W) :
    (W.cell? ⟨w.heap.size, 0, none⟩ = some (.bool m1) ∧ W.cell? ⟨w.heap.size, 1, none⟩ = some v1) ∧ (W.cell? ⟨w.heap.size + 1, 0, none⟩ = some (.bool m2) ∧ W.cell? ⟨w.heap.size + 1, 1, none⟩ = some v2) ∧
    (W.cell? ⟨w.heap.size + 2, 0, none⟩ = some (.bool false) ∧ W.cell? ⟨w.heap.size + 2, 1, none⟩ = some (.slice none 0 0)) ∧ W.frozen? ⟨w.heap.size + 2, 0, none⟩ = false ∧ W.frozen? ⟨w.heap.size + 2, 1, none⟩ = false ∧ w.heap.size + 2 < W.heap.size :=
  ⟨⟨cell_blk h.one 0, cell_blk h.one 1⟩, ⟨cell_blk h.two 0, cell_blk h.two 1⟩, ⟨cell_blk h.res 0, cell_blk h.res 1⟩, froz_blk h.res 0, froz_blk h.res 1, lt_blk h.res⟩
set_option maxRecDepth 100000 in
set_option maxHeartbeats 2000000 in
theorem add_any (m1 m2 : Bool) (va vb : Value) (x y : List Nat) (B : Nat) (w : World) (ha : LimbAt B w va x) (hb : LimbAt B w vb y) (hB : B ≤ w.heap.size) (hx : Norm 1000000000 x) (hy : Norm 1000000000 y) (lx : x.length ≤ 80000) (ly : y.length ≤ 80000) :
    Calls Tryz.prog 125 #[numV m1 va, numV m2 vb] w (RetEx w (NumOf (valS m1 (lv 1000000000 x) + valS m2 (lv 1000000000 y)))) := by
  obtain ⟨a0, c0, hva⟩ := ha.form
  obtain ⟨a1, c1, hvb⟩ := hb.form
  subst hva; subst hvb
  have HA := hide ha; have HB := hide hb; have HX := hide hx; have HY := hide hy
  clear ha hb hx hy
  obtain ⟨b0, b1, b2, hs0, hB0⟩ := heap3 w (.cells #[.bool m1, .slice a0 x.length c0] 128) (.cells #[.bool m2, .slice a1 y.length c1] 128) (.cells #[.bool false, .slice none 0 0] 128)
  obtain ⟨w0, hw0⟩ : ∃ w0, ((w.alloc (.cells #[.bool m1, .slice a0 x.length c0] 128)).alloc (.cells #[.bool m2, .slice a1 y.length c1] 128)).alloc (.cells #[.bool false, .slice none 0 0] 128) = w0 := ⟨_, rfl⟩
  rw [hw0] at b0 b1 b2 hs0 hB0
  have HS := hide (AddSt.mk b0 b1 b2 hB0)
  have HW0 := hide hw0
  clear b0 b1 b2 hs0 hB0 hw0
  by_cases hm : m1 = m2
  · subst hm
    go_enter Tryz.func125, Tryz.ntmps125
    go_wp2_with fail
    rw [HW0.out]
    obtain ⟨⟨c1', c2'⟩, ⟨c3', c4'⟩, ⟨c5', c6'⟩, f1', f2', l0⟩ := HS.out.cells
    have n1 : (w.heap.size + 1 + 1 = w.heap.size) = False := eq_false (by omega)
    have n2 : (w.heap.size = w.heap.size + 1 + 1) = False := eq_false (by omega)
    go_region_held3 (fun w' => w'.cell? ⟨w.heap.size, 0, none⟩ = some (.bool m1) ∧ w'.cell? ⟨w.heap.size, 1, none⟩ = some (.slice a0 x.length c0) ∧ w'.cell? ⟨w.heap.size + 1, 1, none⟩ = some (.slice a1 y.length c1)) (first | go_keep)
      (first
        | (go_at_call 117
           refine (combine_any 118 plusP plusFn _ _ x y B _ (HA.out.below (HS.out.below.drew) hB) (HB.out.below (HS.out.below.drew) hB) (by have := HS.out.below.size; simp; omega) HX.out.lt HY.out.lt (by omega) (by omega)).mono ?_
           rintro e w1 ⟨v, rfl, hb1, ho1⟩
           obtain ⟨av, cv, hvf, _, _⟩ := ho1.form
           subst hvf
           have HS1 := hide (HS.out.on (below_ahead hb1))
           have HO1 := hide ho1
           obtain ⟨⟨d1, d2⟩, ⟨d3, d4⟩, ⟨d5, d6⟩, g1, g2, l1⟩ := HS1.out.cells
           clear hb1 ho1)
        | fail)
    clear n1 n2
    go_wp2_with fail
    obtain ⟨s1, s2⟩ := set2 HS1.out.res (.bool m1) (.slice av (trimL (combL plusP x y)).length cv)
    obtain ⟨p1, p2, p3⟩ := plus_lv HX.out.lt HY.out.lt
    refine exit_add s1 rfl rfl ⟨_, rfl, HS1.out.below.trans (s2.mono (by omega)), m1, _, _, rfl, ?_, p1, by rw [p2, valS_add], by omega⟩
    exact owns_stay (HO1.out.mono (Nat.zero_le _)) (fun r hr => (by
      have := (HO1.out.lt r hr).1
      have h2 := HS.out.cells
      rw [setCell_other (by simp at this; omega), setCell_other (by simp at this; omega)]))
  · obtain rfl : m2 = !m1 := by cases m1 <;> cases m2 <;> simp_all
    have hq : (m1 == !m1) = false := by cases m1 <;> rfl
    have HCMP := hide (compare_any (.slice a0 x.length c0) (.slice a1 y.length c1) x y B w0 (HA.out.below HS.out.below hB) (HB.out.below HS.out.below hB) (by have := HS.out.below.size; omega) HX.out HY.out (by omega) (by omega))
    go_enter Tryz.func125, Tryz.ntmps125
    go_wp2_with fail
    rw [HW0.out]
    refine HCMP.out.mono ?_
    rintro e w1 ⟨r, rfl, hr, hb1⟩
    have HS0 := hide (HS.out.on hb1)
    clear hb1 HCMP
    obtain ⟨⟨c1', c2'⟩, ⟨c3', c4'⟩, ⟨c5', c6'⟩, f1', f2', l0⟩ := HS0.out.cells
    have n1 : (w.heap.size + 1 + 1 = w.heap.size) = False := eq_false (by omega)
    have n2 : (w.heap.size = w.heap.size + 1 + 1) = False := eq_false (by omega)
    by_cases h0 : 0 ≤ r
    · have hle : lv 1000000000 y ≤ lv 1000000000 x := by
        have h1 := hr.1
        have h2 : ¬ lv 1000000000 x < lv 1000000000 y := fun h => by have := h1.2 h; omega
        omega
      have HLE := hide hle
      clear hr hle hm hq
      go_wp2_with fail
      go_region_held3 (fun w' => w'.cell? ⟨w.heap.size, 0, none⟩ = some (.bool m1) ∧ w'.cell? ⟨w.heap.size, 1, none⟩ = some (.slice a0 x.length c0) ∧ w'.cell? ⟨w.heap.size + 1, 1, none⟩ = some (.slice a1 y.length c1)) (first | go_keep)
        (first
          | (go_at_call 117
             refine (combine_any 119 minusP minusFn _ _ x y B _ (HA.out.below (HS0.out.below.drew) hB) (HB.out.below (HS0.out.below.drew) hB) (by have := HS0.out.below.size; simp; omega) HX.out.lt HY.out.lt (by omega) (by omega)).mono ?_
             rintro e w2 ⟨v, rfl, hb2, ho1⟩
             obtain ⟨av, cv, hvf, _, _⟩ := ho1.form
             subst hvf
             have HS1 := hide (HS0.out.on (below_ahead hb2))
             have HO1 := hide ho1
             obtain ⟨⟨d1, d2⟩, ⟨d3, d4⟩, ⟨d5, d6⟩, g1, g2, l1⟩ := HS1.out.cells
             clear hb2 ho1)
          | fail)
      clear n1 n2
      go_wp2_with fail
      obtain ⟨s1, s2⟩ := set2 HS1.out.res (.bool m1) (.slice av (trimL (combL minusP x y)).length cv)
      obtain ⟨p1, p2, p3⟩ := minus_lv HX.out.lt HY.out.lt HLE.out
      refine exit_add s1 rfl rfl ⟨_, rfl, HS1.out.below.trans (s2.mono (by omega)), m1, _, _, rfl, ?_, p1, by rw [p2, valS_sub m1 HLE.out], by omega⟩
      exact owns_stay (HO1.out.mono (Nat.zero_le _)) (fun r hr => (by
        have := (HO1.out.lt r hr).1
        rw [setCell_other (by simp at this; omega), setCell_other (by simp at this; omega)]))
    · have hle : lv 1000000000 x ≤ lv 1000000000 y := by
        have h1 := hr.1.1 (by omega)
        omega
      have HLE := hide hle
      have h0' : ¬ (0 : Int) ≤ r := h0
      clear hr hle hm hq
      go_wp2_with fail
      go_region_held3 (fun w' => w'.cell? ⟨w.heap.size + 1, 0, none⟩ = some (.bool !m1) ∧ w'.cell? ⟨w.heap.size, 1, none⟩ = some (.slice a0 x.length c0) ∧ w'.cell? ⟨w.heap.size + 1, 1, none⟩ = some (.slice a1 y.length c1)) (first | go_keep)
        (first
          | (go_at_call 117
             refine (combine_any 119 minusP minusFn _ _ y x B _ (HB.out.below (HS0.out.below.drew) hB) (HA.out.below (HS0.out.below.drew) hB) (by have := HS0.out.below.size; simp; omega) HY.out.lt HX.out.lt (by omega) (by omega)).mono ?_
             rintro e w2 ⟨v, rfl, hb2, ho1⟩
             obtain ⟨av, cv, hvf, _, _⟩ := ho1.form
             subst hvf
             have HS1 := hide (HS0.out.on (below_ahead hb2))
             have HO1 := hide ho1
             obtain ⟨⟨d1, d2⟩, ⟨d3, d4⟩, ⟨d5, d6⟩, g1, g2, l1⟩ := HS1.out.cells
             clear hb2 ho1)
          | fail)
      clear n1 n2
      go_wp2_with fail
      obtain ⟨s1, s2⟩ := set2 HS1.out.res (.bool !m1) (.slice av (trimL (combL minusP y x)).length cv)
      obtain ⟨p1, p2, p3⟩ := minus_lv HY.out.lt HX.out.lt HLE.out
      refine exit_add s1 rfl rfl ⟨_, rfl, HS1.out.below.trans (s2.mono (by omega)), !m1, _, _, rfl, ?_, p1, by rw [p2, valS_sub2 m1 HLE.out], by omega⟩
      exact owns_stay (HO1.out.mono (Nat.zero_le _)) (fun r hr => (by
        have := (HO1.out.lt r hr).1
        rw [setCell_other (by simp at this; omega), setCell_other (by simp at this; omega)]))
end Go.Proofs.YtgddookioipjiaaGreatDoor
namespace Go.KP
open Go

/-- A world of a class. -/
structure Of (C : World → Prop) where
  w : World
  h : C w
abbrev Cls (C : World → Prop) (w : World) : Prop := ∃ x : Of C, w = x.w
theorem Cls.mk {C : World → Prop} {w : World} (h : C w) : Cls C w := ⟨⟨w, h⟩, rfl⟩
theorem Cls.out {C : World → Prop} {w : World} (h : Cls C w) : C w := by
  obtain ⟨x, rfl⟩ := h
  exact x.h

section
variable {P : Program} {md : Region.Mode} {C : World → Prop}

/-- Operation i waits for operation j. -/
def waits (md : Region.Mode) (ops : Array Oper) (i j : Nat) : Prop := ∃ o, ops[i]? = some o ∧ ∃ e ∈ o.after, Region.binds md e = true ∧ e.on = j
theorem ready_iff {ops : Array Oper} {listed : Array Bool} {i : Nat} : i ∈ Region.ready md ops listed ↔ i < ops.size ∧ listed.getD i true = false ∧ ∀ j, waits md ops i j → listed.getD j false = true := by
  unfold Region.ready
  rw [List.mem_filter, List.mem_range]
  constructor
  · rintro ⟨h1, h2⟩
    simp only [Bool.and_eq_true, Bool.not_eq_true'] at h2
    refine ⟨h1, h2.1, ?_⟩
    rintro j ⟨o, ho, e, he, hb, rfl⟩
    have h3 := h2.2
    rw [ho] at h3
    simp only [Option.map_some, Option.getD_some, Array.all_eq_true_iff_forall_mem] at h3
    have h4 := h3 e he
    rw [hb] at h4
    simpa using h4
  · rintro ⟨h1, h2, h3⟩
    refine ⟨h1, ?_⟩
    simp only [Bool.and_eq_true, Bool.not_eq_true']
    refine ⟨h2, ?_⟩
    rw [Array.getElem?_eq_getElem h1]
    simp only [Option.map_some, Option.getD_some, Array.all_eq_true_iff_forall_mem]
    intro e he
    by_cases hb : Region.binds md e = true
    · rw [h3 e.on ⟨_, Array.getElem?_eq_getElem h1, e, he, hb, rfl⟩]
      simp
    · simp [hb]

def waitsB (md : Region.Mode) (l : List Oper) (i j : Nat) : Bool := match l[i]? with
  | some o => o.after.any fun e => Region.binds md e && e.on == j
  | none => false
theorem waitsB_iff {l : List Oper} {i j : Nat} : waitsB md l i j = true ↔ waits md l.toArray i j := by
  unfold waitsB waits
  rw [List.getElem?_toArray]
  cases l[i]? with
  | none => simp
  | some o =>
    simp only [Option.some.injEq, exists_eq_left']
    rw [Array.any_eq_true]
    simp only [Bool.and_eq_true, beq_iff_eq]
    constructor
    · rintro ⟨i, h, h1, h2⟩
      exact ⟨_, Array.getElem_mem h, h1, h2⟩
    · rintro ⟨e, he, h1, h2⟩
      obtain ⟨i, h, rfl⟩ := Array.mem_iff_getElem.1 he
      exact ⟨i, h, h1, h2⟩

/-- What is looked at. -/
def gateB (md : Region.Mode) (l : List Oper) (k n : Nat) : Bool :=
  ((List.range n).all fun i => match l[i]? with
    | some o => o.guard.isNone && o.after.all fun e => !Region.binds md e || decide (e.on < i)
    | none => false) &&
  ((List.range l.length).all fun r => decide (r < n) || (List.range l.length).any (fun j => decide (n ≤ j) && waitsB md l r j) ||
    (List.range n).all fun j => decide (j < k) || waitsB md l r j || (List.range n).any fun m => decide (j < m) && waitsB md l m j)
theorem gate_before {l : List Oper} {k n : Nat} (h : gateB md l k n = true) (i : Nat) (hi : i < n) : i < l.length ∧ (∀ o, l[i]? = some o → o.guard = none) ∧ ∀ j, waits md l.toArray i j → j < i := by
  unfold gateB at h
  rw [Bool.and_eq_true] at h
  have h1 := (List.all_eq_true.1 h.1) i (List.mem_range.2 hi)
  cases ho : l[i]? with
  | none => rw [ho] at h1; cases h1
  | some o =>
    rw [ho] at h1
    simp only [Bool.and_eq_true, Option.isNone_iff_eq_none, Array.all_eq_true_iff_forall_mem] at h1
    refine ⟨(List.getElem?_eq_some_iff.1 ho).1, fun o2 h2 => by cases h2; exact h1.1, ?_⟩
    rintro j ⟨o2, ho2, e, he, hb, rfl⟩
    rw [List.getElem?_toArray, ho] at ho2
    cases ho2
    have h4 := h1.2 e he
    rw [hb] at h4
    simpa using h4
theorem gate_behind {l : List Oper} {k n : Nat} (h : gateB md l k n = true) (r : Nat) (hr : r < l.length) (hn : n ≤ r) : (∃ j, n ≤ j ∧ waits md l.toArray r j) ∨ ∀ j, j < n → j < k ∨ waits md l.toArray r j ∨ ∃ m, m < n ∧ j < m ∧ waits md l.toArray m j := by
  unfold gateB at h
  rw [Bool.and_eq_true] at h
  have h1 := (List.all_eq_true.1 h.2) r (List.mem_range.2 hr)
  simp only [Bool.or_eq_true, decide_eq_true_eq, List.any_eq_true, List.all_eq_true, List.mem_range, Bool.and_eq_true] at h1
  rcases h1 with (h1 | ⟨j, _, h2, h3⟩) | h1
  · omega
  · exact .inl ⟨j, h2, waitsB_iff.1 h3⟩
  · refine .inr fun j hj => ?_
    rcases h1 j hj with (h2 | h2) | ⟨m, h2, h3, h4⟩
    · exact .inl h2
    · exact .inr (.inl (waitsB_iff.1 h2))
    · exact .inr (.inr ⟨m, h2, h3, waitsB_iff.1 h4⟩)

/-- The same marks, none for what lies behind. -/
def padded (L : Array Bool) (m : Nat) : Array Bool := L ++ Array.replicate m false
theorem padded_f {L : Array Bool} {m j : Nat} : (padded L m).getD j false = L.getD j false := by
  unfold padded
  simp only [Array.getD_eq_getD_getElem?]
  by_cases h : j < L.size
  · rw [Array.getElem?_append_left h]
  · rw [Array.getElem?_append_right (by omega), Array.getElem?_eq_none (xs := L) (by omega)]
    by_cases h2 : j - L.size < m
    · simp [h2]
    · simp [h2]
theorem padded_t {L : Array Bool} {m j : Nat} (h : j < L.size) : (padded L m).getD j true = L.getD j true := by
  unfold padded
  simp only [Array.getD_eq_getD_getElem?]
  rw [Array.getElem?_append_left h]
theorem padded_set {L : Array Bool} {m j : Nat} (h : j < L.size) : (padded L m).setIfInBounds j true = padded (L.setIfInBounds j true) m := by
  unfold padded
  rw [Array.setIfInBounds_append_left h]
theorem getD_tf {L : Array Bool} {j : Nat} (h : j < L.size) : L.getD j true = L.getD j false := by
  simp [h]
def down (md : Region.Mode) (ops : Array Oper) (L : Array Bool) : Prop := ∀ i j, L.getD i false = true → waits md ops i j → L.getD j false = true
theorem waits_take {l : List Oper} {n i j : Nat} (hi : i < n) : waits md (l.take n).toArray i j ↔ waits md l.toArray i j := by
  unfold waits
  simp only [List.getElem?_toArray, List.getElem?_take, hi, if_true]

theorem some_ready {l : List Oper} {k n : Nat} (hg : gateB md l k n = true) {L : Array Bool} (hL : L.size = n) : ∀ j, j < n → L.getD j false = false → ∃ i, i ∈ Region.ready md (l.take n).toArray L := by
  intro j
  induction j using Nat.strongRecOn with
  | _ j ih =>
    intro hj hf
    by_cases hall : ∀ m, waits md (l.take n).toArray j m → L.getD m false = true
    · refine ⟨j, ready_iff.2 ⟨by simp; have := (gate_before hg j hj).1; omega, ?_, hall⟩⟩
      rw [getD_tf (by omega)]
      exact hf
    · obtain ⟨m, hm⟩ := Classical.not_forall.1 hall
      obtain ⟨h1, h2⟩ := Classical.not_imp.1 hm
      have h3 := (gate_before hg j hj).2.2 m ((waits_take hj).1 h1)
      exact ih m h3 (by omega) (by simpa using h2)

theorem count_set {L : Array Bool} {i : Nat} (hi : i < L.size) (hf : L.getD i false = false) : (L.setIfInBounds i true).toList.count false + 1 = L.toList.count false := by
  have hi' : i < L.toList.length := by simpa using hi
  have h1 : L.toList[i]? = some false := by
    rw [List.getElem?_eq_getElem hi']
    simpa [hi] using hf
  rw [Array.toList_setIfInBounds]
  clear hf hi
  generalize L.toList = l at *
  induction l generalizing i with
  | nil => simp at hi'
  | cons b r ih =>
    cases i with
    | zero =>
      simp at h1
      subst h1
      simp
    | succ i =>
      simp only [List.set_cons_succ, List.count_cons]
      have := ih (i := i) (by simpa using hi') (by simpa using h1)
      omega

theorem any_prefix {l : List Oper} {Q : Exit → Act → World → Prop} {k n f : Nat} {Qf : Act → Prop} (hg : gateB md l k n = true) (hn : n ≤ l.length)
    (hQf : ∀ a w, C w → Qf a → wpAny P md l.toArray Q f (padded (Array.replicate n true) (l.length - n)) a w) : ∀ (fuel : Nat) (L : Array Bool) (a : Act), L.size = n → down md l.toArray L → (∀ j, j < k → j < n → L.getD j false = true) → L.toList.count false = fuel →
    wpAnyQ P md (l.take n).toArray C Qf fuel L a → ∀ w, C w → wpAny P md l.toArray Q (fuel + f) (padded L (l.length - n)) a w := by
  intro fuel
  induction fuel with
  | zero =>
    intro L a hL hd hk hc h w hw
    have : L = Array.replicate n true := by
      have hne := List.count_eq_zero.1 hc
      apply Array.ext
      · simp [hL]
      · intro i h1 h2
        rw [Array.getElem_replicate]
        cases hx : L[i] with
        | true => rfl
        | false => exact absurd (by rw [← hx]; simp) hne
    subst this
    rw [Nat.zero_add]
    exact hQf a w hw h.2
  | succ fuel ih =>
    intro L a hL hd hk hc h w hw
    obtain ⟨j0, hj0, hjf⟩ : ∃ j, j < n ∧ L.getD j false = false := by
      have hmem : false ∈ L.toList := List.count_pos_iff.1 (by omega)
      obtain ⟨j, hj, hx⟩ := List.mem_iff_getElem.1 hmem
      refine ⟨j, by simpa [hL] using hj, ?_⟩
      have : j < L.size := by simpa using hj
      simpa [this] using hx
    have hpre : ∀ i, i ∈ Region.ready md l.toArray (padded L (l.length - n)) → i < n ∧ i ∈ Region.ready md (l.take n).toArray L := by
      intro i hi
      obtain ⟨h1, h2, h3⟩ := ready_iff.1 hi
      have hin : i < n := by
        rcases Nat.lt_or_ge i n with h | h
        · exact h
        · exfalso
          have hil : i < l.length := by simpa using h1
          rcases gate_behind hg i hil h with ⟨j, hj, hw⟩ | hall
          · have := h3 j hw
            rw [padded_f, Array.getD_eq_getD_getElem?, Array.getElem?_eq_none (by omega)] at this
            simp at this
          · have key : ∀ d j, n - j = d → j < n → L.getD j false = true := by
              intro d
              induction d using Nat.strongRecOn with
              | _ d ihd =>
                intro j hdj hj
                rcases hall j hj with h4 | h4 | ⟨m, h4, h5, h6⟩
                · exact hk j h4 hj
                · have := h3 j h4
                  rwa [padded_f] at this
                · exact hd m j (ihd (n - m) (by omega) m rfl h4) h6
            have := key _ j0 rfl hj0
            rw [hjf] at this
            cases this
      refine ⟨hin, ready_iff.2 ⟨by simp; omega, ?_, fun j hj => ?_⟩⟩
      · rwa [padded_t (by omega)] at h2
      · have := h3 j ((waits_take hin).1 hj)
        rwa [padded_f] at this
    have hback : ∀ i, i ∈ Region.ready md (l.take n).toArray L → i ∈ Region.ready md l.toArray (padded L (l.length - n)) := by
      intro i hi
      obtain ⟨h1, h2, h3⟩ := ready_iff.1 hi
      have hin : i < n := by simp at h1; omega
      refine ready_iff.2 ⟨by simp; omega, ?_, fun j hj => ?_⟩
      · rwa [padded_t (by omega)]
      · rw [padded_f]
        exact h3 j ((waits_take hin).2 hj)
    rw [Nat.add_right_comm]
    refine ⟨fun h0 => ?_, fun i hi => ?_⟩
    · obtain ⟨i, hi⟩ := some_ready hg hL j0 hj0 hjf
      have := hback i hi
      rw [h0] at this
      cases this
    · obtain ⟨hin, hr⟩ := hpre i hi
      have hq := h.2 i hr
      obtain ⟨r1, r2, r3⟩ := ready_iff.1 hr
      have hiL : i < L.size := by omega
      have hfi : L.getD i false = false := by rw [← getD_tf hiL]; exact r2
      obtain ⟨b1, b2, b3⟩ := gate_before hg i hin
      have hd' : down md l.toArray (L.setIfInBounds i true) := by
        intro x y hx hxy
        have hmono : ∀ y, L.getD y false = true → (L.setIfInBounds i true).getD y false = true := by
          intro y hy
          by_cases hyi : y = i
          · subst hyi; rw [hfi] at hy; cases hy
          · simpa [Array.getD_eq_getD_getElem?, Array.getElem?_setIfInBounds_ne (Ne.symm hyi)] using hy
        by_cases hxi : x = i
        · subst hxi
          exact hmono y (r3 y ((waits_take hin).2 hxy))
        · have hx' : L.getD x false = true := by simpa [Array.getD_eq_getD_getElem?, Array.getElem?_setIfInBounds_ne (Ne.symm hxi)] using hx
          exact hmono y (hd x y hx' hxy)
      have hk' : ∀ j, j < k → j < n → (L.setIfInBounds i true).getD j false = true := by
        intro j h1 h2
        have hj := hk j h1 h2
        by_cases hji : j = i
        · subst hji; rw [hfi] at hj; cases hj
        · simpa [Array.getD_eq_getD_getElem?, Array.getElem?_setIfInBounds_ne (Ne.symm hji)] using hj
      have hnext : ∀ a' w', C w' → wpAnyQ P md (l.take n).toArray C Qf fuel (L.setIfInBounds i true) a' → wpAny P md l.toArray Q (fuel + f) ((padded L (l.length - n)).setIfInBounds i true) a' w' := by
        intro a' w' hw' h'
        rw [padded_set hiL]
        exact ih _ a' (by simpa using hL) hd' hk' (by have := count_set hiL hfi; omega) h' w' hw'
      unfold qOp at hq
      unfold wpOp
      have e1 : (l.take n).toArray[i]? = some l[i] := by simp [hin, b1]
      have e2 : l.toArray[i]? = some l[i] := by simp [b1]
      rw [e1] at hq
      rw [e2]
      have hgd : l[i].guard = none := b2 _ (List.getElem?_eq_getElem b1)
      have hw1 : ∀ ys, Region.wanted l[i] ys = true := fun ys => by simp [Region.wanted, hgd]
      simp only [hw1, if_true] at hq ⊢
      exact .inl (Oper.wp_of_quiet hw hnext hq)

/-- Behind the first n each operation waits for the one before it. -/
def seqB (md : Region.Mode) (l : List Oper) (n : Nat) : Bool := (List.range l.length).all fun r => decide (r < n) || ((decide (r ≤ n) || waitsB md l r (r - 1)) && (List.range l.length).all fun j => !waitsB md l r j || decide (j < r)) && match l[r]? with
  | some o => o.after.all fun e => !Region.binds md e || decide (e.on < r)
  | none => true
theorem seq_waits {l : List Oper} {n : Nat} (h : seqB md l n = true) (r : Nat) (hr : r < l.length) (hn : n ≤ r) : (n < r → waits md l.toArray r (r - 1)) ∧ ∀ j, waits md l.toArray r j → j < r := by
  unfold seqB at h
  have h1 := (List.all_eq_true.1 h) r (List.mem_range.2 hr)
  simp only [Bool.or_eq_true, Bool.and_eq_true, decide_eq_true_eq] at h1
  rcases h1 with h1 | ⟨⟨h1, _⟩, h3⟩
  · omega
  · refine ⟨fun h2 => ?_, ?_⟩
    · rcases h1 with h1 | h1
      · omega
      · exact waitsB_iff.1 h1
    · rintro j ⟨o, ho, e, he, hb, rfl⟩
      rw [List.getElem?_toArray] at ho
      rw [ho] at h3
      simp only [Array.all_eq_true_iff_forall_mem] at h3
      have h4 := h3 e he
      rw [hb] at h4
      simpa using h4

theorem any_seq {l : List Oper} {Q : Exit → Act → World → Prop} {n : Nat} (hs : seqB md l n = true) : ∀ (rest : List Oper) (s : Nat) (a : Act) (w : World), (∀ j, rest[j]? = l[s + j]?) → n ≤ s → rest.length + s = l.length →
    wpList P l.toArray Q rest a w → wpAny P md l.toArray Q rest.length (padded (Array.replicate s true) (l.length - s)) a w := by
  intro rest
  induction rest with
  | nil =>
    intro s a w _ hns hlen h
    refine ⟨List.eq_nil_iff_forall_not_mem.2 fun i hi => ?_, h⟩
    obtain ⟨h1, h2, _⟩ := ready_iff.1 hi
    have h3 : i < l.length := by simpa using h1
    simp at hlen
    rw [padded_t (by simp; omega)] at h2
    simp [show i < s by omega] at h2
  | cons o rest ih =>
    intro s a w hl hns hlen h
    have hsl : s < l.length := by simp at hlen; omega
    have ho : l[s]? = some o := by simpa using (hl 0).symm
    have hrs : s ∈ Region.ready md l.toArray (padded (Array.replicate s true) (l.length - s)) := by
      refine ready_iff.2 ⟨by simpa using hsl, ?_, fun j hj => ?_⟩
      · unfold padded
        rw [Array.getD_eq_getD_getElem?, Array.getElem?_append_right (by simp)]
        simp [show 0 < l.length - s by omega]
      · have := (seq_waits hs s hsl hns).2 j hj
        rw [padded_f]
        simp [this]
    have honly : ∀ i, i ∈ Region.ready md l.toArray (padded (Array.replicate s true) (l.length - s)) → i = s := by
      intro i hi
      obtain ⟨h1, h2, h3⟩ := ready_iff.1 hi
      have h1' : i < l.length := by simpa using h1
      rcases Nat.lt_trichotomy i s with h4 | h4 | h4
      · rw [padded_t (by simpa using h4)] at h2
        simp [h4] at h2
      · exact h4
      · have := h3 (i - 1) ((seq_waits hs i h1' (by omega)).1 (by omega))
        rw [padded_f] at this
        simp [show ¬ i - 1 < s by omega] at this
    refine ⟨fun h0 => (by rw [h0] at hrs; cases hrs), fun i hi => ?_⟩
    obtain rfl := honly i hi
    have hset : (padded (Array.replicate i true) (l.length - i)).setIfInBounds i true = padded (Array.replicate (i + 1) true) (l.length - (i + 1)) := by
      unfold padded
      apply Array.ext
      · simp; omega
      · intro j h1 h2
        simp at h1 h2
        rw [Array.getElem_setIfInBounds (by simp; omega)]
        by_cases hj : i = j
        · simp [hj]
        · rw [if_neg hj]
          rcases Nat.lt_or_ge j i with h3 | h3
          · rw [Array.getElem_append_left (by simpa using h3), Array.getElem_append_left (by simp; omega)]
            simp
          · rw [Array.getElem_append_right (by simpa using h3), Array.getElem_append_right (by simp; omega)]
            simp
    have hnext : ∀ a' w', wpList P l.toArray Q rest a' w' → wpAny P md l.toArray Q rest.length ((padded (Array.replicate i true) (l.length - i)).setIfInBounds i true) a' w' := by
      intro a' w' h'
      rw [hset]
      exact ih (i + 1) a' w' (fun j => by have := hl (j + 1); simpa [Nat.add_assoc, Nat.add_comm 1 j] using this) (by omega) (by simp at hlen; omega) h'
    unfold wpOp
    rw [List.getElem?_toArray, ho]
    unfold wpList at h
    by_cases hw : Region.wanted o (yielded l.toArray a.tmps) = true
    · simp only [hw, if_true] at h ⊢
      exact h.imp (fun h => Oper.wp_mono hnext h) id
    · simp only [hw] at h ⊢
      exact hnext _ _ h

/-- **A region that draws its order: its first n operations quiet in the class C, the rest in order.** -/
theorem region_prefix {id : Nat} {Q : Exit → Act → World → Prop} {a : Act} {w : World} {l : List Oper} (n : Nat) (hm : P.follows .mixedOrders = true) (hn : n ≤ l.length) (hno : Region.noSelect (l.take n).toArray = true)
    (hlex : Region.lexFrom .any (l.take n).toArray n 0 (Array.replicate n false) = true) (hg : gateB .any l 0 n = true) (hs : seqB .any l n = true) (hC : C { w with drawn := w.drawn + 1 })
    (h : wpQuiet P (l.take n).toArray C (fun a' => ∀ w', C w' → wpList P l.toArray Q (l.drop n) a' w') (l.take n) a) : (Code.region id l.toArray true).wp P Q a w := by
  refine wp_region_any hm ?_
  have hlt : (l.take n).length = n := by simp; omega
  have h1 := wpAnyQ_lex (P := P) (C := C) (md := .any) hno (l.take n) 0 (Array.replicate n false) a (by simp) (by rw [hlt]; exact hlex) h
  rw [hlt] at h1
  have h2 := any_prefix (P := P) (C := C) (Q := Q) (f := (l.drop n).length) (Qf := fun a' => ∀ w', C w' → wpList P l.toArray Q (l.drop n) a' w') hg hn (fun a2 w2 hw2 h3 => any_seq hs (l.drop n) n a2 w2 (fun j => by simp) (Nat.le_refl _) (by simp; omega) (h3 w2 hw2))
    n (Array.replicate n false) a (by simp) (fun i j hi => by simp [Array.getD_eq_getD_getElem?, Array.getElem?_replicate] at hi; split at hi <;> simp at hi) (fun j hj => by omega) (by simp) h1 _ hC
  have e : padded (Array.replicate n false) (l.length - n) = Array.replicate l.toArray.size false := by
    unfold padded
    rw [Array.replicate_append_replicate]
    congr 1
    simp
    omega
  rw [e] at h2
  have e2 : n + (l.drop n).length = l.toArray.size := by simp; omega
  rwa [e2] at h2

/-- The same where the first operation of all only yields (it may come up whenever). -/
theorem region_prefix1 {id : Nat} {Q : Exit → Act → World → Prop} {a : Act} {w : World} {l : List Oper} (n : Nat) (o0 : Oper) (v : Value) (hm : P.follows .mixedOrders = true) (hn : n ≤ l.length) (h0n : 0 < n) (hno : Region.noSelect l.toArray = true)
    (ho : l[0]? = some o0) (hy : Yields P l.toArray o0 v a) (hr : (Region.ready .any l.toArray (Array.replicate l.toArray.size false)).contains 0 = true) (hf : Region.free .any l.toArray (Array.replicate l.toArray.size false) 0 = true)
    (hlex : Region.lexFrom .any (l.take n).toArray (n - 1) 1 ((Array.replicate n false).setIfInBounds 0 true) = true) (hg : gateB .any l 1 n = true) (hs : seqB .any l n = true) (hC : C { w with drawn := w.drawn + 1 })
    (h : wpQuiet P (l.take n).toArray C (fun a' => ∀ w', C w' → wpList P l.toArray (fun e a w => e = .normal ∧ Q .normal a w) (l.drop n) a' w') ((l.take n).drop 1) (a.put o0.dst v)) : (Code.region id l.toArray true).wp P Q a w := by
  refine Code.wp_mono (Q := fun e a w => e = .normal ∧ Q .normal a w) (fun e a w ⟨he, hq⟩ => by rw [he]; exact hq) (wp_region_any hm ?_)
  have hlt : ((l.take n).drop 1).length = n - 1 := by simp; omega
  have hno1 : Region.noSelect (l.take n).toArray = true := by
    unfold Region.noSelect at hno ⊢
    rw [Array.all_eq_true_iff_forall_mem] at hno ⊢
    intro x hx
    exact hno x (by simpa using List.mem_of_mem_take (by simpa using hx))
  have h1 := wpAnyQ_lex (P := P) (C := C) (md := .any) hno1 ((l.take n).drop 1) 1 ((Array.replicate n false).setIfInBounds 0 true) (a.put o0.dst v) (fun j => by rw [Nat.add_comm 1 j]; simp) (by rw [hlt]; exact hlex) h
  rw [hlt] at h1
  have hcnt := count_set (L := Array.replicate n false) (i := 0) (by simpa using h0n) (by simp [h0n])
  have hfst : ∀ i, ((Array.replicate n false).setIfInBounds 0 true).getD i false = true → i = 0 := by
    intro i hi
    rcases Nat.eq_zero_or_pos i with h | h
    · exact h
    · rw [Array.getD_eq_getD_getElem?, Array.getElem?_setIfInBounds_ne (by omega)] at hi
      simp [Array.getElem?_replicate] at hi
      split at hi <;> simp at hi
  have h2 := any_prefix (P := P) (C := C) (Q := fun e a w => e = .normal ∧ Q .normal a w) (f := (l.drop n).length) (Qf := fun a' => ∀ w', C w' → wpList P l.toArray (fun e a w => e = .normal ∧ Q .normal a w) (l.drop n) a' w') hg hn (fun a2 w2 hw2 h3 => any_seq hs (l.drop n) n a2 w2 (fun j => by simp) (Nat.le_refl _) (by simp; omega) (h3 w2 hw2))
    (n - 1) ((Array.replicate n false).setIfInBounds 0 true) (a.put o0.dst v) (by simp) (fun i j hi hw => by
      obtain rfl := hfst i hi
      have := (gate_before hg 0 h0n).2.2 j hw
      omega) (fun j hj _ => by
      obtain rfl : j = 0 := by omega
      simp [Array.getD_eq_getD_getElem?, h0n]) (by simp at hcnt ⊢; omega) h1 _ hC
  rw [← padded_set (by simpa using h0n)] at h2
  have e : padded (Array.replicate n false) (l.length - n) = Array.replicate l.toArray.size false := by
    unfold padded
    rw [Array.replicate_append_replicate]
    congr 1
    simp
    omega
  rw [e] at h2
  have e2 : l.toArray.size = (n - 1 + (l.drop n).length) + 1 := by simp; omega
  have e3 : ∀ m, m = l.toArray.size → wpAny P .any l.toArray (fun e a w => e = .normal ∧ Q .normal a w) m (Array.replicate l.toArray.size false) a { w with drawn := w.drawn + 1 } := by
    intro m hm2
    rw [e2] at hm2
    subst hm2
    exact wpAny_first (by simpa using ho) (Region.noSelect_spec hno) (fun c a w hx => by cases hx.1) _ _ _ _ (Region.free_spec (by simpa using ho) hf) (by simpa using hr) hy h2
  exact e3 _ rfl
end

/-- append, in a plain walk: where the new slice lies is told. -/
theorem pl_append {P : Program} {Q : Exit → Act → World → Prop} {a : Act} (w : World) {ops : Array Oper} {rest : List Oper} {o : Oper}
    (hg : o.guard = none) (s x : Operand) (t : TypeId) (hop : o.op = Op.call { callee := Callee.builtin Builtin.append, args := #[s, x], argTypes := #[t, t] })
    (base : Nat) (e : TypeId) (i : TypeInfo) (z : Value) (size bytes : Nat) (h1 : P.underlying t = some (.slice e)) (h2 : P.info? e = some i) (h3 : i.zero = some z) (h4 : i.size = size) (h5 : i.bytes = bytes) (h6 : z.cells.size = size) (h7 : 0 < size)
    (v : Value) (k : Nat) (xs : List Value) (hs : a.eval s = v) (hown : w.ownsRow base e size v k xs) (ad : Addr) (m c : Nat) (news : List Value) (hx : a.eval x = .slice (some ad) m c) (hn : news.length = m * size)
    (hc : ∀ j u, news[j]? = some u → w.cell? (ad.add j) = some u) (h1c : ∀ u ∈ news, u.oneCell' = true) (hm : 0 < m) (b1 : k + m ≤ maxLen) (b2 : (k + m) * bytes ≤ 140737488355328) (b3 : base ≤ w.heap.size)
    (hK : ∀ g cap w', w'.ownsRow base e size (.slice (some ⟨g, 0, none⟩) (k + m) cap) (k + m) (xs ++ news) → w.grownBy w' v.ownBlock → (v.ownBlock = some g ∨ w.heap.size ≤ g) → g < w'.heap.size → wpList P ops Q rest (a.put o.dst (.slice (some ⟨g, 0, none⟩) (k + m) cap)) w') :
    wpList P ops Q (o :: rest) a w := by
  unfold wpList
  have hw : Region.wanted o (yielded ops a.tmps) = true := by simp [Region.wanted, hg]
  rw [if_pos hw]
  exact .inl (wp_append_lies w s x t hop base e i z size bytes h1 h2 h3 h4 h5 h6 h7 v k xs hs hown ad m c news hx hn hc h1c hm b1 b2 b3 w.heap.size rfl
    (fun g cap w' r1 r2 r3 r4 => hK g cap w' r1 r2 (r3.imp id (fun h => by omega)) r4))
end Go.KP
namespace Go.KP
open Go

section
variable {P : Program} {C : World → Prop}
theorem round_prefix {id : Nat} {Q : Exit → Act → World → Prop} {a : Act} {w : World} {l : List Oper} {r : Nat} (n : Nat) (hm : P.follows .mixedOrders = true) (hn : n ≤ l.length) (hno : Region.noSelect (l.take n).toArray = true)
    (hlex : Region.lexFrom .any (l.take n).toArray n 0 (Array.replicate n false) = true) (hg : gateB .any l 0 n = true) (hs : seqB .any l n = true) (hd : noDefer l.toArray = true) (hC : C { w with drawn := w.drawn + 1 })
    (h : wpQuiet P (l.take n).toArray C (fun a' => ∀ w', C w' → wpList P l.toArray (fun e a2 w2 => e = .normal ∧ Q .normal a2 w2) (l.drop n) a' w') (l.take n) a) : (Code.region id l.toArray true).wpIn (Fence.wide.inRound r) 0 P Q a w := by
  refine wpIn_mono (Q := fun e a2 w2 => e = .normal ∧ Q .normal a2 w2) (wpIn_region_draw fun t => ?_) (fun e a2 w2 ⟨he, hq⟩ => by rw [he]; exact hq)
  refine opsIn_of_ops (fun _ _ hx => by cases hx.1) (noDefer_spec hd) _ _ _ ?_
  simp only [Region.schedule, hm, Bool.true_or, if_true]
  refine wpAny_sound l.toArray.size t _ a _ ?_
  have hlt : (l.take n).length = n := by simp; omega
  have h1 := wpAnyQ_lex (P := P) (C := C) (md := .any) hno (l.take n) 0 (Array.replicate n false) a (by simp) (by rw [hlt]; exact hlex) h
  rw [hlt] at h1
  have h2 := any_prefix (P := P) (C := C) (Q := fun e a2 w2 => e = .normal ∧ Q .normal a2 w2) (f := (l.drop n).length) (Qf := fun a' => ∀ w', C w' → wpList P l.toArray (fun e a2 w2 => e = .normal ∧ Q .normal a2 w2) (l.drop n) a' w') hg hn (fun a2 w2 hw2 h3 => any_seq hs (l.drop n) n a2 w2 (fun j => by simp) (Nat.le_refl _) (by simp; omega) (h3 w2 hw2))
    n (Array.replicate n false) a (by simp) (fun i j hi => by simp [Array.getD_eq_getD_getElem?, Array.getElem?_replicate] at hi; split at hi <;> simp at hi) (fun j hj => by omega) (by simp) h1 _ hC
  have e : padded (Array.replicate n false) (l.length - n) = Array.replicate l.toArray.size false := by
    unfold padded
    rw [Array.replicate_append_replicate]
    congr 1
    simp
    omega
  rw [e] at h2
  have e2 : n + (l.drop n).length = l.toArray.size := by simp; omega
  rwa [e2] at h2
end
end Go.KP
