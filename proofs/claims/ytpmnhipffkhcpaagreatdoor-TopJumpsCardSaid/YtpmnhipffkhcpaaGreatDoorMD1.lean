/-
  Texts laid together.
-/
import Derived.Test.YtpmnhipffkhcpaaGreatDoorMB1
import Derived.Test.YtpmnhipffkhcpaaGreatDoorMB2
import Derived.Test.YtpmnhipffkhcpaaGreatDoorMB3
import Derived.Test.YtpmnhipffkhcpaaGreatDoorMB4
import Derived.Test.YtpmnhipffkhcpaaGreatDoorMB5
import Derived.Test.YtpmnhipffkhcpaaGreatDoorMB6
import Derived.Test.YtpmnhipffkhcpaaGreatDoorMB7
import Derived.Test.YtpmnhipffkhcpaaGreatDoorMB8
import Derived.Test.YtpmnhipffkhcpaaGreatDoorMB9
import Derived.Test.YtpmnhipffkhcpaaGreatDoorMB10
import Derived.Test.YtpmnhipffkhcpaaGreatDoorMB11
import Derived.Test.YtpmnhipffkhcpaaGreatDoorMB12
import Derived.Test.YtpmnhipffkhcpaaGreatDoorMB13
import Derived.Test.YtpmnhipffkhcpaaGreatDoorMB14
import Derived.Test.YtpmnhipffkhcpaaGreatDoorMB15
import Derived.Test.YtpmnhipffkhcpaaGreatDoorMB16
import Derived.Test.YtpmnhipffkhcpaaGreatDoorMB17
import Derived.Test.YtpmnhipffkhcpaaGreatDoorMB18
set_option maxRecDepth 100000
set_option maxHeartbeats 64000000
namespace Go.Proofs.YtpmnhipffkhcpaaGreatDoor
open Go.RowKit Go.KP Go.KI Go.Shelf
attribute [local go_sem] Oper.semAt_some

theorem T_inj {p q : Rat} (h : T p = T q) : p = q := ratS_inj (by rw [← T_list, h, T_list])
theorem T_beq (p q : Rat) : ((T p).toList == (T q).toList) = decide (p = q) := by
  rw [ByteArray.toList_eq, ByteArray.toList_eq, T_list, T_list]
  by_cases h : p = q
  · rw [h]
    simp
  · rw [decide_eq_false h]
    exact beq_false_of_ne fun e => h (ratS_inj e)
end Go.Proofs.YtpmnhipffkhcpaaGreatDoor
namespace Go.KI
open Go

def withF (b : Bm) (F : List (Rat × Rat)) : Bm := { b with F := F }
def withS (b : Bm) (S : List (Rat × Rat × Rat)) : Bm := { b with S := S }
theorem fold_parts (b : Bm) (g : Rat → Rat → Rat) (u : Rat) (F : List (Rat × Rat)) : foldB g (withF b F) u = foldB g (withF b []) u + foldB g (withS (withF b F) []) u := by
  unfold foldB withF withS
  simp only [sumL]
  grind
theorem right_parts (b : Bm) (F : List (Rat × Rat)) : rightB (withF b F) = rightB (withF b []) + rightB (withS (withF b F) []) := by
  have e : turnB (withF b F) = turnB (withF b []) + turnB (withS (withF b F) []) := fold_parts b _ _ F
  show turnB (withF b F) / (b.rgt - b.lft) = turnB (withF b []) / (b.rgt - b.lft) + turnB (withS (withF b F) []) / (b.rgt - b.lft)
  rw [e, Rat.div_def, Rat.div_def, Rat.div_def]
  grind
theorem left_parts (b : Bm) (F : List (Rat × Rat)) : leftB (withF b F) = leftB (withF b []) + leftB (withS (withF b F) []) := by
  have e : totalB (withF b F) = totalB (withF b []) + totalB (withS (withF b F) []) := fold_parts b _ _ F
  unfold leftB
  rw [e, right_parts]
  grind
theorem shear_parts (b : Bm) (F : List (Rat × Rat)) (a : Rat) : shearB (withF b F) a = shearB (withF b []) a + shearB (withS (withF b F) []) a := by
  have e := fold_parts b wgt a F
  have e1 := left_parts b F
  have e2 := right_parts b F
  unfold shearB
  rw [e, e1, e2]
  show (if b.lft ≤ a then _ else (0 : Rat)) + (if b.rgt ≤ a then _ else (0 : Rat)) - _ = (if b.lft ≤ a then _ else (0 : Rat)) + (if b.rgt ≤ a then _ else (0 : Rat)) - _ + ((if b.lft ≤ a then _ else (0 : Rat)) + (if b.rgt ≤ a then _ else (0 : Rat)) - _)
  by_cases h1 : b.lft ≤ a
  · rw [if_pos h1, if_pos h1, if_pos h1]
    by_cases h2 : b.rgt ≤ a
    · rw [if_pos h2, if_pos h2, if_pos h2]
      grind
    · rw [if_neg h2, if_neg h2, if_neg h2]
      grind
  · rw [if_neg h1, if_neg h1, if_neg h1]
    by_cases h2 : b.rgt ≤ a
    · rw [if_pos h2, if_pos h2, if_pos h2]
      grind
    · rw [if_neg h2, if_neg h2, if_neg h2]
      grind
theorem shear_one {b : Bm} {p z : Rat} (hF : b.F = [(p, z)]) (hS : b.S = []) (hl : p ≠ b.lft) (hr : p ≠ b.rgt) : shearB b p = 0 - z + (if b.lft < p then leftB b else 0) + (if b.rgt < p then rightB b else 0) := by
  have e : foldB wgt b p = z := by
    unfold foldB forceT wgt
    rw [hF, hS]
    simp only [sumL]
    rw [if_pos Rat.le_refl]
    grind
  have k : ∀ x : Rat, p ≠ x → ((x ≤ p) ↔ (x < p)) := fun x hx => ⟨fun h => by
    refine Rat.not_le.1 fun g => hx (Rat.le_antisymm g h), Rat.le_of_lt⟩
  unfold shearB
  rw [e]
  simp only [k _ hl, k _ hr]
  grind
end Go.KI
namespace Go.KI
open Go

theorem shear_sz {b : Bm} (h : BmS b) {a : Rat} (ha : Gr gp gq a) : sz 140 (shearB b a) := by
  obtain ⟨K, h1, h2, _, _, h3⟩ := shear_gr h ha
  exact run_sz h1 h2 (by decide) h3
theorem noF {b : Bm} (h : BmS b) : BmS (withF b []) where
  pos := h.pos
  l0 := h.l0
  ll := h.ll
  r0 := h.r0
  rl := h.rl
  lr := h.lr
  F := fun f hf => by cases hf
  S := h.S
  sl := h.sl
  sf := h.sf
  sr := h.sr
  sF := fun f hf => by cases hf
  sS := h.sS
  fF := Nat.zero_le _
  fS := h.fS
theorem noS {b : Bm} (h : BmS b) : BmS (withS b []) where
  pos := h.pos
  l0 := h.l0
  ll := h.ll
  r0 := h.r0
  rl := h.rl
  lr := h.lr
  F := h.F
  S := fun f hf => by cases hf
  sl := h.sl
  sf := h.sf
  sr := h.sr
  sF := h.sF
  sS := fun f hf => by cases hf
  fF := h.fF
  fS := Nat.zero_le _
theorem jumpsB {b : Bm} {p z : Rat} (hl : p ≠ b.lft) (hr : p ≠ b.rgt) :
    shearB (withF b [(p, z)]) p = shearB (withF b []) p + shearB (withS (withF b [(p, z)]) []) p ∧
    shearB (withS (withF b [(p, z)]) []) p = 0 - z + (if b.lft < p then leftB (withS (withF b [(p, z)]) []) else 0) + (if b.rgt < p then rightB (withS (withF b [(p, z)]) []) else 0) :=
  ⟨shear_parts b _ p, shear_one (b := withS (withF b [(p, z)]) []) rfl rfl hl hr⟩
end Go.KI
namespace Go.KI
open Go
end Go.KI
namespace Go.Proofs.YtpmnhipffkhcpaaGreatDoor
open Go.RowKit Go.KP Go.KI Go.Shelf
attribute [local go_sem] Oper.semAt_some

theorem ratS_eq (q : Rat) : ratS q = Lib.itoa q.num ++ (if q.den = 1 then [] else 47 :: Lib.decDigits q.den) := by
  unfold ratS
  by_cases h : q.den = 1
  · rw [if_pos h, if_pos h, List.append_nil]
  · rw [if_neg h, if_neg h]
end Go.Proofs.YtpmnhipffkhcpaaGreatDoor
namespace Go.Proofs.YtpmnhipffkhcpaaGreatDoor
open Go.RowKit Go.KP Go.KI Go.Shelf
attribute [local go_sem] Oper.semAt_some

theorem nums1b {w : World} {b : Nat} {p : Rat} (h : w.heap[b]? = some (.cells #[.string (T p)] 22 (0, 0))) : NumsAt w b [p] := by
  refine ⟨lt_blk h, fun i x hx => ?_⟩
  match i with
  | 0 => simp at hx; rw [← hx]; exact cell_blk h 0
  | i + 1 => simp at hx
theorem okT1 {a : Rat} {p : Nat} (ha : sz p a) (h : p ≤ 299) : okT 1 [a] ∧ prodL 1 [a] = a := by
  have e : prodL 1 [a] = a := Rat.one_mul a
  exact ⟨(okT_of [(a, p)] 1 1 sz_one (fun y hy => by simp at hy; rw [hy]; exact ha) (by simp; omega)).1, e⟩
theorem t52add1 {s a : Rat} {p : Nat} (ha : sz p a) (h : p ≤ 299) (ss : sz 140 s) (sp : sz 140 (a)) (bs b : Nat) (B : Nat) (w : World) (hb : w.heap[bs]? = some (sumO s)) (hr : w.heap[b]? = some (.cells #[.string (T a)] 22 (0, 0))) (hB : B ≤ w.heap.size) (hT : PQ B w) :
    Calls Tryz.prog 18 #[.pointer (some ⟨bs, 0, none⟩), .bool false, .slice (some ⟨b, 0, none⟩) 1 1] w (SumRes bs w (s + a)) := by
  obtain ⟨k1, k2⟩ := okT1 ha h
  have := t52add_T [a] (by simp) k1 ss (by rw [k2]; exact sp) bs b B w hb (nums1b hr) hB hT
  rw [k2] at this
  exact this
theorem t52sub1 {s a : Rat} {p : Nat} (ha : sz p a) (h : p ≤ 299) (ss : sz 140 s) (sp : sz 140 (a)) (bs b : Nat) (B : Nat) (w : World) (hb : w.heap[bs]? = some (sumO s)) (hr : w.heap[b]? = some (.cells #[.string (T a)] 22 (0, 0))) (hB : B ≤ w.heap.size) (hT : PQ B w) :
    Calls Tryz.prog 18 #[.pointer (some ⟨bs, 0, none⟩), .bool true, .slice (some ⟨b, 0, none⟩) 1 1] w (SumRes bs w (s - a)) := by
  obtain ⟨k1, k2⟩ := okT1 ha h
  have := t52sub_T [a] (by simp) k1 ss (by rw [k2]; exact sp) bs b B w hb (nums1b hr) hB hT
  rw [k2] at this
  exact this
end Go.Proofs.YtpmnhipffkhcpaaGreatDoor
namespace Go.KI
open Go
theorem of_gr {n : Int} {d : Nat} (hd : 0 < d) (hn : n.natAbs ≤ d) : Gr d d (Rat.divInt n (d : Int)) := by
  refine ⟨n, ?_, hn⟩
  have h0 : (d : Rat) ≠ 0 := by
    rw [Ne, Rat.natCast_eq_zero_iff]
    omega
  rw [Rat.divInt_eq_div, Rat.intCast_natCast, Rat.div_def, Rat.mul_assoc, Rat.inv_mul_cancel _ h0, Rat.mul_one]
theorem jump_gr {x : Rat} {n : Int} (h : smallB x) (hn : n.natAbs ≤ 258) : Gr (27720 * 258) (10 ^ 12 * 27720 * 258) (x * Rat.divInt n 258) :=
  gr_mul (gr_of (small_den x.den x.den_pos h.2) (Nat.le_of_lt h.1)) (of_gr (d := 258) (by decide) hn)
end Go.KI
namespace Go.Proofs.YtpmnhipffkhcpaaGreatDoor
open Go.RowKit Go.KP Go.KI Go.Shelf
attribute [local go_sem] Oper.semAt_some

theorem bounds_i8' {n : Int} (h : (Lit.int .i8 n).wf = true) : -128 ≤ n ∧ n ≤ 127 := by
  simp [Lit.wf, IntKind.min, IntKind.max, IntKind.signed, IntKind.bits] at h
  omega
theorem T_len {q : Rat} {a c : Nat} (h1 : q.num.natAbs < 10 ^ a) (h2 : q.den < 10 ^ c) (ha : 1 ≤ a) (hc : 1 ≤ c) : (T q).size ≤ a + c + 2 := by
  rw [← bytes_len, T_list, ratS_eq, List.length_append]
  have e1 : (Lib.itoa q.num).length ≤ a + 1 := by
    have := (dec_len_le (n := a) ha).2 h1
    rcases itoa_cases q.num with ⟨_, h⟩ | ⟨_, h⟩ <;> rw [h]
    · rw [List.length_cons]
      omega
    · omega
  have e2 := (dec_len_le (n := c) hc).2 h2
  split
  · simp only [List.length_nil]
    omega
  · rw [List.length_cons]
    omega
theorem small_len {q : Rat} (h : smallB q) : (T q).size ≤ 24 := Nat.le_trans (T_len (a := 12) (c := 2) h.1 (Nat.lt_of_le_of_lt h.2 (by decide)) (by omega) (by omega)) (by omega)
theorem TS_inj : ∀ {l m : List (Rat × Rat × Rat)}, TS l = TS m → l = m
  | [], [], _ => rfl
  | [], _ :: _, h => by cases h
  | _ :: _, [], h => by cases h
  | a :: l, b :: m, h => by
    obtain ⟨a1, a2, a3⟩ := a
    obtain ⟨b1, b2, b3⟩ := b
    have h2 := List.cons.inj h
    have h3 := h2.1
    simp only [Prod.mk.injEq] at h3
    rw [T_inj h3.1, T_inj h3.2.1, T_inj h3.2.2, TS_inj h2.2]
theorem isBm_one {b : Bm} {p z : Rat} (h : IsBm (T b.len) (T b.lft) (T b.rgt) [(T p, T z)] (TS b.S)) : BmS (withF b [(p, z)]) := by
  obtain ⟨c, e1, e2, e3, e4, e5, hc⟩ := h
  obtain ⟨len, lft, rgt, F, S⟩ := c
  have e1 := T_inj e1
  have e2 := T_inj e2
  have e3 := T_inj e3
  have e5 := TS_inj e5
  have e6 : F = [(p, z)] := by
    match F, e4 with
    | [(x, y)], e4 =>
      have h2 := (List.cons.inj e4).1
      simp only [Prod.mk.injEq] at h2
      rw [← T_inj h2.1, ← T_inj h2.2]
    | [], e4 => cases e4
    | _ :: _ :: _, e4 => cases (List.cons.inj e4).2
  unfold withF
  rw [e1, e2, e3, e5, ← e6]
  exact hc
def stepJ (p : Rat) (f : Rat × Rat) : Rat := if f.1 < p then f.2 else 0
def jumpX (d : Bm) (p q : Rat) (h : Nat) : Rat := (0 : Rat) - q + sumL (stepJ p) ((supL d).take h)
theorem jumpX_start (d : Bm) (p q : Rat) : jumpX d p q 0 = (0 : Rat) - q := by
  unfold jumpX
  show _ + (0 : Rat) = _
  exact Rat.add_zero _
theorem jumpX_step {d : Bm} {p q : Rat} {h : Nat} (hh : h < (supL d).length) : jumpX d p q h + stepJ p (fAt (supL d) h) = jumpX d p q (h + 1) := by
  unfold jumpX
  rw [fsum_step _ hh, Rat.add_assoc]
theorem supF2 {w : World} {g : Nat} {b : Bm} (h : w.heap[g]? = some (.cells #[.string (T b.lft), .string (T (leftB b)), .string (T b.rgt), .string (T (rightB b))] 39 (0, 0))) {k : Nat} (hk : k < 2) :
    w.cell? ⟨g, k * 2, none⟩ = some (.string (T (fAt (supL b) k).1)) ∧ w.cell? ⟨g, k * 2 + 1, none⟩ = some (.string (T (fAt (supL b) k).2)) := by
  have : k = 0 ∨ k = 1 := by omega
  rcases this with rfl | rfl
  · exact ⟨cell_blk h 0, cell_blk h 1⟩
  · exact ⟨cell_blk h 2, cell_blk h 3⟩
theorem mxe6 (w : World) : (Builtin.max_ #[31, 31, 31, 31, 31, 31] 31 #[.int .i64 0, .int .i64 0, .int .i64 0, .int .i64 0, .int .i64 0, .int .i64 0]).run Tryz.prog w = .ok (.int .i64 0) w := by kernel_rfl
theorem set_beam3 {W : World} {b : Nat} {L l r : ByteArray} {f s : Value} (h : W.heap[b]? = some (.cells #[.string L, .string l, .string r, f, s] 26 (0, 0))) (y : Value) : (W.setCell ⟨b, 3, none⟩ y).heap[b]? = some (.cells #[.string L, .string l, .string r, y, s] 26) := by
  simp only [World.setCell, Array.getElem?_modify, h]
  simp
theorem topJumps_any (L l r : ByteArray) (F : List Fr) (S : List Sp) (fa : Option Addr) (fc : Nat) (sa : Option Addr) (sc : Nat) (m z : Int) (hm : -128 ≤ m ∧ m ≤ 127) (hz : -128 ≤ z ∧ z ≤ 127) (B : Nat) (w : World) (hB : B ≤ w.heap.size) (hT : PQ B w) (hF : FrRow w.heap.size w fa F) (hS : SpRow w.heap.size w sa S) :
    Calls Tryz.prog 7 #[beamV L l r fa F.length fc sa S.length sc, .int .i8 m, .int .i8 z] w (Ret w (.bool true)) := by
  have HT := hide (hT.mono hB)
  clear hT hB B
  have HRS := hide hS
  have X0 := hide (heap1 w (beamO L l r fa F.length fc sa S.length sc))
  have HSU := hide (fun w2 (h : Below w.heap.size w w2) => t52Sure_any L l r F S fa fc sa sc w.heap.size w2 h.size (HT.out.on h (Nat.le_refl _)) (hF.cells fun k o hk => h.cell (p := ⟨k, o, none⟩) hk) (hS.cells fun k o hk => h.cell (p := ⟨k, o, none⟩) hk))
  have HAW := hide (fun w2 (h : Below w.heap.size w w2) => t52awake_any w.heap.size w2 h.size (HT.out.on h (Nat.le_refl _)))
  obtain ⟨n1, hn1⟩ : ∃ n, n = F.length := ⟨_, rfl⟩
  obtain ⟨n2, hn2⟩ : ∃ n, n = S.length := ⟨_, rfl⟩
  rw [← hn1, ← hn2] at X0 HSU ⊢
  have HN2 := hide hn2
  clear hF hS hn1 hn2
  go_enter Tryz.func7, Tryz.ntmps7
  go_wp2_with fail
  refine (HSU.out _ X0.out.2.2).mono ?_
  rintro e w1 ⟨ok, rfl, hb1, hok⟩
  have G1 := hide (below_blk hb1 X0.out.1 (lt_blk X0.out.1))
  have HB1 := hide (X0.out.2.2.trans (hb1.mono X0.out.2.2.size))
  have HOK := hide hok
  clear hb1 hok X0
  cases ok with
  | false =>
    go_wp2_with fail
    refine (HAW.out _ HB1.out).mono ?_
    rintro e w2 ⟨rfl, hb2⟩
    have HB2 := hide (HB1.out.trans (hb2.mono HB1.out.size))
    clear hb2
    go_wp2_with fail
    go_ret
    exact ⟨rfl, HB2.out⟩
  | true =>
    obtain ⟨b, rfl, rfl, rfl, hFF, hSS, hs⟩ := HOK.out rfl
    clear hFF
    subst hSS
    rw [TS_len] at HN2
    obtain ⟨k, hk⟩ : ∃ k, k = Rat.divInt (m + 129) 258 := ⟨_, rfl⟩
    obtain ⟨p, hp⟩ : ∃ p, p = b.len * k := ⟨_, rfl⟩
    have sk : sz 3 k := by rw [hk]; exact divInt_sz (by decide) (by omega) (by decide)
    have H1 := hide (fun w2 (h : Below w.heap.size w w2) => qOf_any (m + 129) 258 (by omega) (by omega) (by omega) (by omega) (by omega) w.heap.size w2 h.size (HT.out.on h (Nat.le_refl _)))
    rw [show pairV (ratS (Rat.divInt (m + 129) 258)) 0 = .tuple #[.string (T (Rat.divInt (m + 129) 258)), .int .i64 0] from rfl, ← hk] at H1
    have H2 := hide (fun w2 (h : Below w.heap.size w w2) => qmul_to (T_list b.len) (T_list k) (smallB_fits hs.sl) (sz_fits sk (by rw [most_eq]; omega)) (mulC_of (smallB_sz hs.sl) sk (by rw [most_eq]; omega)) w.heap.size w2 h.size (HT.out.on h (Nat.le_refl _)))
    rw [show strB (ratS (b.len * k)) = T (b.len * k) from rfl, ← hp] at H2
    have H3 := hide (fun w2 (h : Below w.heap.size w w2) => qOf_any z 1 (by omega) (by omega) (by omega) (by omega) (by omega) w.heap.size w2 h.size (HT.out.on h (Nat.le_refl _)))
    obtain ⟨q, hq⟩ : ∃ q, q = Rat.divInt z 1 := ⟨_, rfl⟩
    rw [show pairV (ratS (Rat.divInt z 1)) 0 = .tuple #[.string (T (Rat.divInt z 1)), .int .i64 0] from rfl, ← hq] at H3
    have sp : (T p).size ≤ 24 := by
      have g := jump_gr (n := m + 129) hs.sl (by omega)
      rw [← hk, ← hp] at g
      obtain ⟨g1, g2⟩ := gr_parts (by decide) g
      have s15 := sz_mul (smallB_sz hs.sl) sk
      rw [← hp] at s15
      exact Nat.le_trans (T_len (a := 15) (c := 7) s15.1 (Nat.lt_of_le_of_lt (Nat.le_of_dvd (by decide) g2) (by decide)) (by omega) (by omega)) (by omega)
    have sq : (T q).size ≤ 24 := by
      rw [hq]
      have h2 : sz 3 (Rat.divInt z 1) := divInt_sz (by decide) (by omega) (by decide)
      exact Nat.le_trans (T_len (a := 3) (c := 3) h2.1 h2.2 (by omega) (by omega)) (by omega)
    have zS : ∀ f ∈ TS b.S, f.1.size ≤ 24 ∧ f.2.1.size ≤ 24 ∧ f.2.2.size ≤ 24 := fun f hf => by
      unfold TS at hf
      obtain ⟨x, hx, rfl⟩ := List.mem_map.1 hf
      obtain ⟨a1, a2, a3⟩ := hs.sS x hx
      exact ⟨small_len a1, small_len a2, small_len a3⟩
    have HCK := hide (fun n0 w2 g (hn : n0 ≤ w2.heap.size) (hT : PQ n0 w2) (hF : FrRow n0 w2 (some ⟨g, 0, none⟩) [(T p, T q)]) (hS : SpRow n0 w2 sa (TS b.S)) => b52Check_any (T b.len) (T b.lft) (T b.rgt) [(T p, T q)] (TS b.S) (some ⟨g, 0, none⟩) 1 sa sc (small_len hs.sl) (small_len hs.sf) (small_len hs.sr) (fun f hf => by simp only [List.mem_cons, List.not_mem_nil, or_false] at hf; rw [hf]; exact ⟨sp, sq⟩) zS (by simp) (by rw [TS_len]; have := hs.fS; omega) n0 w2 hn hT hF hS)
    rw [show ([(T p, T q)] : List Fr).length = 1 from rfl, TS_len, ← HN2.out] at HCK
    have HS0 := hide hs
    have m1 : n2 ≤ 64 := by rw [HN2.out]; exact hs.fS
    clear sk hk hp hq sp sq zS HOK hs
    have hmx := mxe3
    have hmy := mxe6
    have h00 := T0
    obtain ⟨TL, hTL⟩ : ∃ x, x = T b.len := ⟨_, rfl⟩
    obtain ⟨Tl, hTl⟩ : ∃ x, x = T b.lft := ⟨_, rfl⟩
    obtain ⟨Tr, hTr⟩ : ∃ x, x = T b.rgt := ⟨_, rfl⟩
    obtain ⟨TP, hTP⟩ : ∃ x, x = T p := ⟨_, rfl⟩
    obtain ⟨TZ, hTZ⟩ : ∃ x, x = T q := ⟨_, rfl⟩
    have HSL := hide (And.intro hTL (And.intro hTl (And.intro hTr (And.intro hTP hTZ))))
    rw [← hTL, ← hTl, ← hTr] at G1
    rw [← hTL, ← hTP] at H2
    rw [← hTZ] at H3
    generalize T k = TK at *
    clear hTL hTl hTr hTP hTZ
    have f3 := froz_blk G1.out 3
    have q3 := cell_blk G1.out 3
    have ql := lt_blk G1.out
    have hw1 := ql
    go_wp2_with fail
    have G2 := hide (set_beam3 G1.out (.slice none 0 0))
    have HB2 := hide (HB1.out.setCell (p := ⟨w.heap.size, 3, none⟩) (Nat.le_refl _) (.slice none 0 0))
    generalize w1.setCell ⟨w.heap.size, 3, none⟩ (.slice none 0 0) = w2 at *
    clear f3 q3 ql G1 HB1 hw1
    refine (H1.out _ HB2.out).mono ?_
    rintro e w3 ⟨rfl, hb3⟩
    have G3 := hide (below_blk hb3 G2.out (lt_blk G2.out))
    have HB3 := hide (HB2.out.trans (hb3.mono HB2.out.size))
    clear hb3 G2 HB2
    have q0 := cell_blk G3.out 0
    have ql := lt_blk G3.out
    go_wp2_with fail
    refine (H2.out _ HB3.out).mono ?_
    rintro e w4 ⟨rfl, hb4⟩
    have G4 := hide (below_blk hb4 G3.out ql)
    have HB4 := hide (HB3.out.trans (hb4.mono HB3.out.size))
    clear hb4 q0 ql G3 HB3
    go_wp2_with fail
    refine (H3.out _ HB4.out).mono ?_
    rintro e w5 ⟨rfl, hb5⟩
    have G5 := hide (below_blk hb5 G4.out (lt_blk G4.out))
    have HB5 := hide (HB4.out.trans (hb5.mono HB4.out.size))
    clear hb5 G4 HB4
    have q0 := cell_blk G5.out 0
    have q1 := cell_blk G5.out 1
    have q2 := cell_blk G5.out 2
    have q3 := cell_blk G5.out 3
    have q4 := cell_blk G5.out 4
    have ql := lt_blk G5.out
    have X6 := hide (heap2 w5 (beamO TL Tl Tr (some ⟨w5.heap.size + 1, 0, none⟩) 1 1 sa n2 sc) (frcO TP TZ))
    have hw5 : w.heap.size < w5.heap.size := ql
    have HB6 := hide (HB5.out.trans (X6.out.2.2.2.mono HB5.out.size))
    have G6 := hide (below_blk X6.out.2.2.2 G5.out (lt_blk G5.out))
    go_wp2_with fail
    clear q0 q1 q2 q3 q4 ql G5 HB5
    generalize ((w5.alloc (beamO TL Tl Tr (some ⟨w5.heap.size + 1, 0, none⟩) 1 1 sa n2 sc)).alloc (frcO TP TZ)) = W6 at *
    have HT6 := hide ((HT.out.on HB6.out (Nat.le_refl _)).mono HB6.out.size)
    have HFR := hide (show FrRow W6.heap.size W6 (some ⟨w5.heap.size + 1, 0, none⟩) [(T p, T q)] from fun i hi => by
      have : i = 0 := by simpa using hi
      subst this
      refine ⟨_, _, rfl, lt_blk X6.out.2.1, ?_⟩
      rw [show frAt [(T p, T q)] 0 = (TP, TZ) by rw [HSL.out.2.2.2.1, HSL.out.2.2.2.2]; rfl]
      exact ⟨cell_blk X6.out.2.1 0, cell_blk X6.out.2.1 1⟩)
    have HSR := hide (show SpRow W6.heap.size W6 sa (TS b.S) from (HRS.out.cells (w2 := W6) fun k o hk => HB6.out.cell (p := ⟨k, o, none⟩) hk).mono HB6.out.size)
    have EC := hide X6.out.1
    generalize w5.heap.size + 1 = g at *
    generalize w5.heap.size = bc at *
    have HCK2 := hide (HCK.out W6.heap.size W6 g (Nat.le_refl _) HT6.out HFR.out HSR.out)
    clear X6 HCK H1 H2 H3 HRS
    rw [← HSL.out.1, ← HSL.out.2.1, ← HSL.out.2.2.1, ← HSL.out.2.2.2.1, ← HSL.out.2.2.2.2] at HCK2
    refine HCK2.out.mono ?_
    rintro e w7 ⟨y, rfl, hb7, hy⟩
    have G7 := hide (below_blk hb7 G6.out (lt_blk G6.out))
    have EC7 := hide (below_blk hb7 EC.out (lt_blk EC.out))
    have HB7 := hide (HB6.out.trans (hb7.mono HB6.out.size))
    have HC7 := hide hb7
    have HY := hide hy
    clear hb7 hy HCK2 G6 EC
    have r1 := cell_blk G7.out 1
    have r2 := cell_blk G7.out 2
    have rl := lt_blk G7.out
    by_cases hy0 : y = 0
    rotate_left
    · have gz : (y == 0) = false := by simpa using hy0
      have gz2 : (y != 0) = true := by simpa using hy0
      clear hy0
      go_wp2_with fail
      refine (HAW.out _ HB7.out).mono ?_
      rintro e w2 ⟨rfl, hb2⟩
      have HB2 := hide (HB7.out.trans (hb2.mono HB7.out.size))
      clear hb2
      go_wp2_with fail
      go_ret
      exact ⟨rfl, HB2.out⟩
    subst hy0
    by_cases hpl : p = b.lft
    · have he : (TP.toList == Tl.toList) = true := by rw [HSL.out.2.2.2.1, HSL.out.2.1, hpl]; simp
      clear hpl
      go_wp2_with fail
      refine (HAW.out _ HB7.out).mono ?_
      rintro e w2 ⟨rfl, hb2⟩
      have HB2 := hide (HB7.out.trans (hb2.mono HB7.out.size))
      clear hb2
      go_wp2_with fail
      go_ret
      exact ⟨rfl, HB2.out⟩
    have he1 : (TP.toList == Tl.toList) = false := by rw [HSL.out.2.2.2.1, HSL.out.2.1, T_beq, decide_eq_false hpl]
    by_cases hpr : p = b.rgt
    · have he : (TP.toList == Tr.toList) = true := by rw [HSL.out.2.2.2.1, HSL.out.2.2.1, hpr]; simp
      clear hpl hpr
      go_wp2_with fail
      refine (HAW.out _ HB7.out).mono ?_
      rintro e w2 ⟨rfl, hb2⟩
      have HB2 := hide (HB7.out.trans (hb2.mono HB7.out.size))
      clear hb2
      go_wp2_with fail
      go_ret
      exact ⟨rfl, HB2.out⟩
    have he2 : (TP.toList == Tr.toList) = false := by rw [HSL.out.2.2.2.1, HSL.out.2.2.1, T_beq, decide_eq_false hpr]
    have hc : BmS (withF b [(p, q)]) := isBm_one (by
      have := HY.out (by trivial)
      rw [HSL.out.1, HSL.out.2.1, HSL.out.2.2.1, HSL.out.2.2.2.1, HSL.out.2.2.2.2] at this
      exact this)
    have hd : BmS (withS (withF b [(p, q)]) []) := noS hc
    have hb0 : BmS (withF b []) := noF (b := withF b [(p, q)]) hc
    have hmem : (p, q) ∈ (withF b [(p, q)]).F := by show (p, q) ∈ [(p, q)]; simp
    have ga : Gr gp gq p := small_gr (hc.sF _ hmem).1
    have sq := (hc.sF _ hmem).2
    obtain ⟨p0, p1⟩ := hc.F _ hmem
    have p0 : 0 ≤ p := p0
    have p1 : p ≤ b.len := p1
    have hju := jumpsB (b := b) (p := p) (z := q) hpl hpr
    obtain ⟨K, k1, k2, gl, gr, _⟩ := shear_gr hd ga
    have sSd := shear_sz hd ga
    have sSb := shear_sz hb0 ga
    have HRE := hide (fun w2 (h : Below W6.heap.size W6 w2) => bReactions_T hd (some ⟨g, 0, none⟩) 1 none 0 W6.heap.size w2 h.size (HT6.out.on h (Nat.le_refl _)) ⟨HFR.out.cells fun k o hk => h.cell (p := ⟨k, o, none⟩) hk, SpRow.nil _ _ _⟩)
    have HSd := hide (fun w2 (h : Below W6.heap.size W6 w2) => bShear_T hd ga p0 p1 (some ⟨g, 0, none⟩) 1 none 0 W6.heap.size w2 h.size (HT6.out.on h (Nat.le_refl _)) ⟨HFR.out.cells fun k o hk => h.cell (p := ⟨k, o, none⟩) hk, SpRow.nil _ _ _⟩)
    have HSc := hide (fun w2 (h : Below W6.heap.size W6 w2) => bShear_T hc ga p0 p1 (some ⟨g, 0, none⟩) 1 sa sc W6.heap.size w2 h.size (HT6.out.on h (Nat.le_refl _)) ⟨HFR.out.cells fun k o hk => h.cell (p := ⟨k, o, none⟩) hk, HSR.out.cells fun k o hk => h.cell (p := ⟨k, o, none⟩) hk⟩)
    have HSb := hide (fun w2 (h : Below W6.heap.size W6 w2) => bShear_T hb0 ga p0 p1 none 0 sa sc W6.heap.size w2 h.size (HT6.out.on h (Nat.le_refl _)) ⟨FrRow.nil _ _ _, HSR.out.cells fun k o hk => h.cell (p := ⟨k, o, none⟩) hk⟩)
    have HAD := hide (fun w2 (h : Below W6.heap.size W6 w2) => qadd_to (T_list (shearB (withF b []) p)) (T_list (shearB (withS (withF b [(p, q)]) []) p)) (sz_fits sSb (by rw [most_eq]; omega)) (sz_fits sSd (by rw [most_eq]; omega)) (addC_of sSb sSd (by rw [most_eq]; omega)) W6.heap.size w2 h.size (HT6.out.on h (Nat.le_refl _)))
    rw [show strB (ratS (shearB (withF b []) p + shearB (withS (withF b [(p, q)]) []) p)) = T (shearB (withF b [(p, q)]) p) by rw [hju.1]; rfl] at HAD
    have gq1 : Gr (zD K) zB q := weight_into k2 (force_pnt ga (small_gr sq)).wt
    have gn : Gr (zD K) (1 * zB) ((0 : Rat) - q) := by
      rw [Rat.sub_eq_add_neg, Rat.zero_add, Nat.one_mul]
      exact gr_neg gq1
    have HGN := hide gn
    have A1 := hide (fun w2 bs r hb hr (h : Below W6.heap.size W6 w2) => t52sub1 (s := 0) (smallB_sz sq) (by omega) (sz_mono sz_zero1 (by omega)) (sz_mono (smallB_sz sq) (by omega)) bs r W6.heap.size w2 hb hr h.size (HT6.out.on h (Nat.le_refl _)))
    have hsup : ∀ f ∈ supL (withS (withF b [(p, q)]) []), Gr gp gq f.1 ∧ sz 100 f.2 ∧ Gr (zD K) zB f.2 := fun f hf => by
      unfold supL at hf
      simp only [List.mem_cons, List.not_mem_nil, or_false] at hf
      rcases hf with rfl | rfl
      · exact ⟨small_gr hd.sf, left_sz hd, gl⟩
      · exact ⟨small_gr hd.sr, right_sz hd, gr⟩
    obtain ⟨d, hdd⟩ : ∃ d, d = withS (withF b [(p, q)]) [] := ⟨_, rfl⟩
    rw [← hdd] at hsup
    have CC := hide (fun f (hf : f ∈ supL d) w2 (h : Below W6.heap.size W6 w2) => qcmp_T (sz_fits (place_sz (hsup f hf).1) (by rw [most_eq]; omega)) (sz_fits (place_sz ga) (by rw [most_eq]; omega)) (cmpC_of (place_sz (hsup f hf).1) (place_sz ga) (by rw [most_eq]; omega)) W6.heap.size w2 h.size (HT6.out.on h (Nat.le_refl _)))
    have A2 := hide (fun f (hf : f ∈ supL d) x n (hx : Gr (zD K) (n * zB) x) (hn : n ≤ 1000) w2 bs r hb hr (h : Below W6.heap.size W6 w2) => t52add1 (s := x) (hsup f hf).2.1 (by omega) (run_sz k1 k2 hn hx) (run_sz (n := 1) k1 k2 (by omega) (by rw [Nat.one_mul]; exact (hsup f hf).2.2)) bs r W6.heap.size w2 hb hr h.size (HT6.out.on h (Nat.le_refl _)))
    have GU := hide (fun f (hf : f ∈ supL d) => (hsup f hf).2.2)
    have HJ2 := hide (show shearB d p = jumpX d p q 2 by rw [hdd, hju.2]; unfold jumpX supL stepJ; simp only [List.take_succ_cons, List.take_zero, sumL]; show _ + (if b.lft < p then _ else (0 : Rat)) + (if b.rgt < p then _ else (0 : Rat)) = _ + ((if b.lft < p then _ else (0 : Rat)) + ((if b.rgt < p then _ else (0 : Rat)) + 0)); grind)
    have hld : d.lft = b.lft ∧ d.rgt = b.rgt := by rw [hdd]; exact ⟨rfl, rfl⟩
    have HLD := hide hld
    obtain ⟨Ta, hTa⟩ : ∃ x, x = T (leftB d) := ⟨_, rfl⟩
    obtain ⟨Tb, hTb⟩ : ∃ x, x = T (rightB d) := ⟨_, rfl⟩
    obtain ⟨TV, hTV⟩ : ∃ x, x = T (shearB d p) := ⟨_, rfl⟩
    obtain ⟨TW, hTW⟩ : ∃ x, x = T (shearB (withF b [(p, q)]) p) := ⟨_, rfl⟩
    obtain ⟨TY, hTY⟩ : ∃ x, x = T (shearB (withF b []) p) := ⟨_, rfl⟩
    have HVS := hide (And.intro hTa (And.intro hTb hTV))
    have e1 : T (withS (withF b [(p, q)]) []).len = TL ∧ T (withS (withF b [(p, q)]) []).lft = Tl ∧ T (withS (withF b [(p, q)]) []).rgt = Tr := ⟨HSL.out.1.symm, HSL.out.2.1.symm, HSL.out.2.2.1.symm⟩
    have e2 : T (withF b [(p, q)]).len = TL ∧ T (withF b [(p, q)]).lft = Tl ∧ T (withF b [(p, q)]).rgt = Tr := ⟨HSL.out.1.symm, HSL.out.2.1.symm, HSL.out.2.2.1.symm⟩
    have e3 : T (withF b []).len = TL ∧ T (withF b []).lft = Tl ∧ T (withF b []).rgt = Tr := ⟨HSL.out.1.symm, HSL.out.2.1.symm, HSL.out.2.2.1.symm⟩
    have e4 : (withS (withF b [(p, q)]) []).F.length = 1 ∧ (withS (withF b [(p, q)]) []).S.length = 0 ∧ (withF b [(p, q)]).F.length = 1 ∧ (withF b [(p, q)]).S.length = n2 ∧ (withF b []).F.length = 0 ∧ (withF b []).S.length = n2 := ⟨rfl, rfl, rfl, HN2.out.symm, rfl, HN2.out.symm⟩
    rw [e1.1, e1.2.1, e1.2.2, e4.1, e4.2.1] at HRE HSd
    rw [e2.1, e2.2.1, e2.2.2, e4.2.2.1, e4.2.2.2.1] at HSc
    rw [e3.1, e3.2.1, e3.2.2, e4.2.2.2.2.1, e4.2.2.2.2.2] at HSb
    rw [← hdd, ← hTa, ← hTb] at HRE
    rw [← hdd, ← hTV, ← HSL.out.2.2.2.1] at HSd
    rw [← hTW, ← HSL.out.2.2.2.1] at HSc
    rw [← hTY, ← HSL.out.2.2.2.1] at HSb
    rw [← hdd, ← hTY, ← hTV, ← hTW] at HAD
    rw [← HSL.out.2.2.2.2] at A1
    rw [← HSL.out.2.2.2.1] at CC
    clear hTa hTb hTV hTW hTY e1 e2 e3 e4 hdd hju hc hd hb0 hmem ga sq p0 p1 k1 k2 gl gr sSd sSb gq1 gn hsup hld hpl hpr HY HFR HSR
    have c0 := cell_blk EC7.out 0
    have c1 := cell_blk EC7.out 1
    have c2 := cell_blk EC7.out 2
    have c3 := cell_blk EC7.out 3
    have c4 := cell_blk EC7.out 4
    have cl := lt_blk EC7.out
    have X8 := hide (heap1 w7 (beamO TL Tl Tr (some ⟨g, 0, none⟩) 1 1 none 0 0))
    have HB8 := hide (HB7.out.trans (X8.out.2.2.mono HB7.out.size))
    have HC8 := hide (HC7.out.trans (X8.out.2.2.mono HC7.out.size))
    have G8 := hide (below_blk X8.out.2.2 G7.out rl)
    have EC8 := hide (below_blk X8.out.2.2 EC7.out cl)
    have ED8 := hide X8.out.1
    go_wp2_with fail
    clear c0 c1 c2 c3 c4 cl r1 r2 rl X8 HB7 HC7 G7 EC7
    generalize w7.alloc (beamO TL Tl Tr (some ⟨g, 0, none⟩) 1 1 none 0 0) = w8 at *
    generalize w7.heap.size = bd at *
    refine (HRE.out _ HC8.out).mono ?_
    rintro e w9 ⟨rfl, hb9⟩
    have HB9 := hide (HB8.out.trans (hb9.mono HB8.out.size))
    have HC9 := hide (HC8.out.trans (hb9.mono HC8.out.size))
    have G9 := hide (below_blk hb9 G8.out (lt_blk G8.out))
    have EC9 := hide (below_blk hb9 EC8.out (lt_blk EC8.out))
    have ED9 := hide (below_blk hb9 ED8.out (lt_blk ED8.out))
    clear hb9 HB8 HC8 G8 EC8 ED8 HRE
    have c0 := cell_blk ED9.out 0
    have c1 := cell_blk ED9.out 1
    have c2 := cell_blk ED9.out 2
    have c3 := cell_blk ED9.out 3
    have c4 := cell_blk ED9.out 4
    have cl := lt_blk ED9.out
    go_wp2_with fail
    refine (HSd.out _ HC9.out).mono ?_
    rintro e w10 ⟨rfl, hb10⟩
    have HB10 := hide (HB9.out.trans (hb10.mono HB9.out.size))
    have HC10 := hide (HC9.out.trans (hb10.mono HC9.out.size))
    have G10 := hide (below_blk hb10 G9.out (lt_blk G9.out))
    have EC10 := hide (below_blk hb10 EC9.out (lt_blk EC9.out))
    have ED10 := hide (below_blk hb10 ED9.out (lt_blk ED9.out))
    clear hb10 HB9 HC9 G9 EC9 ED9 HSd c0 c1 c2 c3 c4 cl
    have c0 := cell_blk EC10.out 0
    have c1 := cell_blk EC10.out 1
    have c2 := cell_blk EC10.out 2
    have c3 := cell_blk EC10.out 3
    have c4 := cell_blk EC10.out 4
    have cl := lt_blk EC10.out
    go_wp2_with fail
    refine (HSc.out _ HC10.out).mono ?_
    rintro e w11 ⟨rfl, hb11⟩
    have HB11 := hide (HB10.out.trans (hb11.mono HB10.out.size))
    have HC11 := hide (HC10.out.trans (hb11.mono HC10.out.size))
    have G11 := hide (below_blk hb11 G10.out (lt_blk G10.out))
    have EC11 := hide (below_blk hb11 EC10.out (lt_blk EC10.out))
    have ED11 := hide (below_blk hb11 ED10.out (lt_blk ED10.out))
    clear hb11 HB10 HC10 G10 EC10 ED10 HSc c0 c1 c2 c3 c4 cl
    have c0 := cell_blk G11.out 0
    have c1 := cell_blk G11.out 1
    have c2 := cell_blk G11.out 2
    have c3 := cell_blk G11.out 3
    have c4 := cell_blk G11.out 4
    have cl := lt_blk G11.out
    go_wp2_with fail
    refine (HSb.out _ HC11.out).mono ?_
    rintro e w12 ⟨rfl, hb12⟩
    have HB12 := hide (HB11.out.trans (hb12.mono HB11.out.size))
    have HC12 := hide (HC11.out.trans (hb12.mono HC11.out.size))
    have G12 := hide (below_blk hb12 G11.out (lt_blk G11.out))
    have EC12 := hide (below_blk hb12 EC11.out (lt_blk EC11.out))
    have ED12 := hide (below_blk hb12 ED11.out (lt_blk ED11.out))
    clear hb12 HB11 HC11 G11 EC11 ED11 HSb c0 c1 c2 c3 c4 cl
    go_wp2_with fail
    refine (HAD.out _ HC12.out).mono ?_
    rintro e w13 ⟨rfl, hb13⟩
    have HB13 := hide (HB12.out.trans (hb13.mono HB12.out.size))
    have HC13 := hide (HC12.out.trans (hb13.mono HC12.out.size))
    have G13 := hide (below_blk hb13 G12.out (lt_blk G12.out))
    have EC13 := hide (below_blk hb13 EC12.out (lt_blk EC12.out))
    have ED13 := hide (below_blk hb13 ED12.out (lt_blk ED12.out))
    clear hb13 HB12 HC12 G12 EC12 ED12 HAD
    have X14 := hide (heap2 w13 (.cells #[.string ⟨#[48]⟩, .int .i64 0] 35) (.cells #[.string TZ] 22))
    have HB14 := hide (HB13.out.trans (X14.out.2.2.2.mono HB13.out.size))
    have HC14 := hide (HC13.out.trans (X14.out.2.2.2.mono HC13.out.size))
    have G14 := hide (below_blk X14.out.2.2.2 G13.out (lt_blk G13.out))
    have E14 := hide (show ((w13.alloc (.cells #[.string ⟨#[48]⟩, .int .i64 0] 35)).alloc (.cells #[.string TZ] 22)).heap[w13.heap.size]? = some (sumO 0) by show _ = some (Obj.cells #[.string (T 0), .int .i64 0] _); rw [h00]; exact X14.out.1)
    have EZ := hide X14.out.2.1
    have hbw : w.heap.size < w13.heap.size := lt_blk G13.out
    have hbc : W6.heap.size ≤ w13.heap.size := HC13.out.size
    clear X14 HB13 HC13 G13 h00
    go_wp2_with fail
    generalize ((w13.alloc (.cells #[.string ⟨#[48]⟩, .int .i64 0] 35)).alloc (.cells #[.string TZ] 22)) = W3 at *
    generalize hbz : w13.heap.size + 1 = bz at *
    generalize w13.heap.size = bs at *
    refine (A1.out _ bs _ E14.out EZ.out HC14.out).mono ?_
    rintro e w15 ⟨⟨v15, rfl⟩, ho15, hb15⟩
    have G15 := hide (only_blk ho15 G14.out (Nat.ne_of_lt hbw))
    have X16 := hide (heap1 w15 (.cells #[.string Tl, .string Ta, .string Tr, .string Tb] 39))
    have R0 := hide (show RunAt bs W3 w15 K (1 + 0) (jumpX d p q 0) from by rw [jumpX_start]; exact ⟨ho15, hb15, HGN.out⟩)
    have R1 := hide (R0.out.below X16.out.2.2)
    have ES := hide (show (w15.alloc (.cells #[.string Tl, .string Ta, .string Tr, .string Tb] 39)).heap[w15.heap.size]? = some (.cells #[.string (T d.lft), .string (T (leftB d)), .string (T d.rgt), .string (T (rightB d))] 39 (0, 0)) by
      rw [HLD.out.1, HLD.out.2, ← HSL.out.2.1, ← HSL.out.2.2.1, ← HVS.out.1, ← HVS.out.2.1]
      exact X16.out.1)
    have hgs : w.heap.size < w15.heap.size := lt_blk G15.out
    have hes : w15.heap.size ≠ bs := Nat.ne_of_gt (Nat.lt_of_lt_of_le (lt_blk E14.out) R0.out.only.size)
    have q1 := cell_blk G15.out 1
    have q2 := cell_blk G15.out 2
    have ql := lt_blk G15.out
    clear ho15 hb15 X16 R0 E14 EZ A1 HGN hbz
    go_wp2_with fail
    clear q1 q2 ql G15
    generalize (w15.alloc (.cells #[.string Tl, .string Ta, .string Tr, .string Tb] 39)) = W16 at *
    generalize w15.heap.size = gs at *
    have HBS := hide (show ∀ W K n x, RunAt bs W3 W K n x → Below w.heap.size w W from fun W K n x h => h.on HB14.out (Nat.le_of_lt hbw) HB14.out.size)
    have HCS := hide (show ∀ W K n x, RunAt bs W3 W K n x → Below W6.heap.size W6 W from fun W K n x h => h.on HC14.out hbc HC14.out.size)
    clear HB14 HC14 G14
    go_loopw [126] (fun t wr => ∃ h : Nat, h ≤ 2 ∧ t = .int .i64 h ∧ Hid (RunAt bs W3 wr K (1 + h) (jumpX d p q h) ∧ wr.heap[gs]? = some (.cells #[.string (T d.lft), .string (T (leftB d)), .string (T d.rgt), .string (T (rightB d))] 39 (0, 0)))) (fun t _ => 2 - (intOf t).toNat)
    case atStart => exact ⟨0, Nat.zero_le _, rfl, R1.out, ES.out⟩
    clear R1 ES
    case round =>
      obtain ⟨h, hk, rfl, hin⟩ := hrel
      obtain ⟨wo, hwo⟩ : ∃ wo, wo = wr := ⟨_, rfl⟩
      subst hwo
      have HI := hide hin.out.1
      have HE := hide hin.out.2
      clear hin
      have HCw := hide (HCS.out _ _ _ _ HI.out)
      have HBw := hide (HBS.out _ _ _ _ HI.out)
      by_cases hlt : h < 2
      · have hki : (h : Int) < 2 := by omega
        have hk0 : (0 : Int) ≤ (h : Int) := by omega
        obtain ⟨c1, c2⟩ := supF2 HE.out hlt
        have hkl : h < (supL d).length := hlt
        have hfm := fAt_mem hkl
        have HST := hide (jumpX_step (p := p) (q := q) hkl)
        have HGR := hide (GU.out _ hfm)
        obtain ⟨f, hf⟩ : ∃ f, f = fAt (supL d) h := ⟨_, rfl⟩
        rw [← hf] at c1 c2 hfm HST HGR
        have hkw : gs < wo.heap.size := lt_blk HE.out
        have XF := hide (heap1 wo (frcO (T f.1) (T f.2)))
        have HR1 := hide (HI.out.below XF.out.2.2)
        have HC1 := hide (HCS.out _ _ _ _ HR1.out)
        have HCM := hide (CC.out f hfm _ HC1.out)
        have E1 := hide XF.out.1
        have HE1 := hide (below_blk XF.out.2.2 HE.out (lt_blk HE.out))
        obtain ⟨TA, hTA⟩ : ∃ x, x = T f.1 := ⟨_, rfl⟩
        obtain ⟨TB, hTB⟩ : ∃ x, x = T f.2 := ⟨_, rfl⟩
        by_cases hlt2 : f.1 < p
        · have HTE := hide (show stepJ p f = f.2 from if_pos hlt2)
          have hcc := cmp_lt0 hlt2
          have HA := hide (A2.out f hfm _ _ HI.out.gr (by omega))
          rw [← hTA] at HCM c1 E1 HR1 HC1 HE1
          rw [← hTB] at HCM c2 E1 HR1 HC1 HE1
          rw [← hTB] at HA
          generalize cmpR f.1 p = C at *
          clear hTA hTB hf hlt hkl XF hfm hlt2
          go_wp2_with fail
          refine HCM.out.mono ?_
          rintro e w5 ⟨rfl, hb5⟩
          have HR5 := hide (HR1.out.below hb5)
          have E5 := hide (below_blk hb5 E1.out (lt_blk E1.out))
          have HE5 := hide (below_blk hb5 HE1.out (lt_blk HE1.out))
          have X5 := hide (heap1 w5 (.cells #[.string TB] 22))
          have HR6 := hide (HR5.out.below X5.out.2.2)
          have HC6 := hide (HCS.out _ _ _ _ HR6.out)
          have HE6 := hide (below_blk X5.out.2.2 HE5.out (lt_blk HE5.out))
          have k1 := cell_blk E5.out 1
          have kl := lt_blk E5.out
          have EX := hide X5.out.1
          clear hb5 c1 c2 hkw HCM E1 HE1 X5
          go_wp2_with fail
          refine (HA.out _ bs _ HR6.out.box EX.out HC6.out).mono ?_
          rintro e w7 ⟨⟨v7, rfl⟩, ho7, hb7⟩
          have HE7 := hide (only_blk ho7 HE6.out hes)
          have HR7 := hide (HR6.out.step ho7 hb7 (gr_snoc HI.out.gr HGR.out))
          clear ho7 hb7 k1 kl
          go_wp2_with fail
          go_roundw
          case rel =>
            refine ⟨h + 1, by omega, by simp, ?_, HE7.out⟩
            have := HR7.out
            rw [← HTE.out, HST.out] at this
            exact this
          case measure => simp [intOf]; omega
        · have HTE := hide (show stepJ p f = 0 from if_neg hlt2)
          have hcc := cmp_nneg (Rat.not_lt.1 hlt2)
          rw [← hTA] at HCM c1 E1 HR1 HC1 HE1
          rw [← hTB] at HCM c2 E1 HR1 HC1 HE1
          generalize cmpR f.1 p = C at *
          clear hTA hTB hf hlt hkl XF hfm hlt2
          go_wp2_with fail
          refine HCM.out.mono ?_
          rintro e w5 ⟨rfl, hb5⟩
          have HR5 := hide (HR1.out.below hb5)
          have HE5 := hide (below_blk hb5 HE1.out (lt_blk HE1.out))
          clear hb5 c1 c2 hkw HCM E1 HE1
          go_wp2_with fail
          go_roundw
          case rel =>
            refine ⟨h + 1, by omega, by simp, ?_, HE5.out⟩
            have := HST.out
            rw [HTE.out, Rat.add_zero] at this
            rw [← this]
            exact ⟨HR5.out.only, HR5.out.box, gr_mono HR5.out.gr (Nat.mul_le_mul_right _ (by omega))⟩
          case measure => simp [intOf]; omega
      · have hh : h = 2 := by omega
        have hki : ((h : Int) < 2) = False := eq_false (by omega)
        have hbx := HI.out.box
        rw [hh, ← HJ2.out] at hbx
        rw [show sumO (shearB d p) = Obj.cells #[.string TV, .int .i64 0] 35 by rw [HVS.out.2.2]] at hbx
        have k0 := cell_blk hbx 0
        have k1 := cell_blk hbx 1
        have kl := lt_blk hbx
        have hee : (TV.toList == TV.toList) = true := by simp
        have hew : (TW.toList == TW.toList) = true := by simp
        clear hbx hlt hh
        go_wp2_with fail
        refine (HAW.out _ HBw.out).mono ?_
        rintro e w2 ⟨rfl, hb2⟩
        have HB2 := hide (HBw.out.trans (hb2.mono HBw.out.size))
        clear hb2 k0 k1 kl
        go_wp2_with fail
        go_ret
        exact ⟨rfl, HB2.out⟩
end Go.Proofs.YtpmnhipffkhcpaaGreatDoor
