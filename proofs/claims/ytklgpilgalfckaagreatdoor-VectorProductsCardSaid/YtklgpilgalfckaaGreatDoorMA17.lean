/-
 Texts laid together.
-/
import Derived.Test.YtklgpilgalfckaaGreatDoorMA16
import Derived.Test.YtklgpilgalfckaaGreatDoorMA4
import Derived.Test.YtklgpilgalfckaaGreatDoorMA5
import Derived.Test.YtklgpilgalfckaaGreatDoorMA7
import Derived.Laws.BytesArg
set_option maxRecDepth 100000
set_option maxHeartbeats 8000000
namespace Go.Proofs.YtklgpilgalfckaaGreatDoor
open Go.RowKit Go.KP Go.KI Go.Shelf
attribute [local go_sem] Oper.semAt_some

theorem ych {R : Ending → World → Prop} {a : Act} {W : World} {b : Nat} {m : Bool} {v : Value} (hb : W.heap[b]? = some (.cells #[.bool m, v] 222 (0, 0)))
 (h2 : a.tmps[2]? = some (.pointer (some ⟨b, 0, none⟩))) (hd : a.defers = []) (hR : R (.returned (numV m v)) W) : bodyPost Tryz.prog Tryz.f246 R .ret a W := by
 have hcell := fun o => ya hb o
 refine bodyPost_ret ?_ hd hR
 simp [results, go_sem, hcell, h2]
def NegRes (z : Int) (v : Value) (l : List Nat) (w : World) (e : Ending) (w2 : World) : Prop := ∃ m : Bool, e = .returned (numV m v) ∧ Below w.heap.size w w2 ∧ valS m (lv 1000000 l) = z
theorem ybc (m : Bool) (a : Option Addr) (c : Nat) (l : List Nat) (w : World) :
 Calls Tryz.prog 246 #[numV m (.slice a l.length c)] w (NegRes (-valS m (lv 1000000 l)) (.slice a l.length c) l w) := by
 obtain ⟨p0, p1, ps, pb⟩ := heap2 w (.cells #[.bool m, .slice a l.length c] 222) (.cells #[.bool false, .slice none 0 0] 222)
 obtain ⟨w0, hw0⟩ : ∃ w0, (w.alloc (.cells #[.bool m, .slice a l.length c] 222)).alloc (.cells #[.bool false, .slice none 0 0] 222) = w0 := ⟨_, rfl⟩
 rw [hw0] at p0 p1 ps pb
 have P1 := hide p1; have PB := hide pb
 have c0 := ya p0 0
 have c1 := ya p0 1
 have d0 := ya p1 0
 have d1 := ya p1 1
 have f0 := yf p1 0
 have f1 := yf p1 1
 have hlt := yd p1
 by_cases h0 : l = []
 ·have hz : valS m (lv 1000000 l) = 0 := by rw [h0]; cases m <;> rfl
  have HZ := hide hz
  have hl0 : ((l.length : Int) == 0) = true := by rw [h0]; rfl
  clear h0 hz pb ps p0 p1
  go_enter Tryz.func246, Tryz.ntmps246
  go_wp2_with fail
  obtain ⟨s1, s2⟩ := set2 P1.out (.bool m) (.slice a l.length c)
  refine ych s1 rfl rfl ?_
  exact ⟨m, rfl, PB.out.trans (s2.mono (by omega)), by rw [HZ.out]; rfl⟩
 ·have hl0 : ((l.length : Int) == 0) = false := by
   have : l.length ≠ 0 := fun h => h0 (List.eq_nil_of_length_eq_zero h)
   simp only [beq_eq_false_iff_ne, ne_eq]
   omega
  clear h0 pb ps p0 p1
  go_enter Tryz.func246, Tryz.ntmps246
  go_wp2_with fail
  obtain ⟨s1, s2⟩ := set2 P1.out (.bool (!m)) (.slice a l.length c)
  refine ych s1 rfl rfl ?_
  exact ⟨!m, rfl, PB.out.trans (s2.mono (by omega)), ybo m _⟩
end Go.Proofs.YtklgpilgalfckaaGreatDoor
namespace Go.KI
open Go
theorem ygS {l : List Nat} (hl : Lt 1000000 l) {i j : Nat} (hi : i < l.length) (hj : j < 6) : lv 1000000 l / 10 ^ (6 * i + j) % 10 = lat l i / 10 ^ j % 10 := by
 have h := xL (b := 1000000) hi
 have hlt := xI (b := 1000000) (by omega) hl i
 have e : (1000000 : Nat) ^ i = 10 ^ (6 * i) := by rw [show (1000000 : Nat) = 10 ^ 6 by decide, ← Nat.pow_mul]
 rw [e] at h hlt
 rw [Nat.pow_add, ← Nat.div_div_eq_div_mul, h, Nat.add_mul_div_left _ _ (Nat.pow_pos (by omega)), Nat.div_eq_of_lt hlt, Nat.zero_add]
 generalize lv 1000000 (l.drop (i + 1)) = r
 generalize lat l i = x
 rcases (show j = 0 ∨ j = 1 ∨ j = 2 ∨ j = 3 ∨ j = 4 ∨ j = 5 by omega) with h | h | h | h | h | h <;> subst h <;> simp only [Nat.reducePow] <;> omega
theorem ygj (c : UInt8) (r : List UInt8) : dv (c :: r) = (c.toNat - 48) * 10 ^ r.length + dv r := by
 have h := qh [c] r
 have h2 : dv [c] = c.toNat - 48 := by simp [dv]
 rw [h2] at h
 exact h
theorem xO {L : List UInt8} {p : Nat} (c : UInt8) (hp : p < L.length) : (L.set p c).drop p = c :: L.drop (p + 1) := by
 rw [List.drop_eq_getElem_cons (by rw [List.length_set]; exact hp)]
 simp [List.drop_set_of_lt]
structure DigsAt (V done : Nat) (L : List UInt8) : Prop where
 le : done ≤ L.length
 dg : ∀ c ∈ L.drop (L.length - done), isDg c = true
 val : dv (L.drop (L.length - done)) = V % 10 ^ done
theorem DigsAt.start (V : Nat) (L : List UInt8) : DigsAt V 0 L := by
 refine ⟨Nat.zero_le _, ?_, ?_⟩
 ·simp
 ·simp [yfv, Nat.mod_one]
theorem DigsAt.step {V done p d : Nat} {L : List UInt8} (h : DigsAt V done L) (hp : p + done + 1 = L.length) (hd : V / 10 ^ done % 10 = d) : DigsAt V (done + 1) (L.set p (UInt8.ofNat (48 + d))) := by
 have hd10 : d < 10 := by rw [← hd]; exact Nat.mod_lt _ (by omega)
 have e1 : L.length - done = p + 1 := by omega
 have e2 : L.length - (done + 1) = p := by omega
 have h1 := h.dg
 have h2 := h.val
 rw [e1] at h1 h2
 refine ⟨by rw [List.length_set]; omega, ?_, ?_⟩
 ·rw [List.length_set, e2, xO _ (by omega)]
  intro c hc
  rcases List.mem_cons.1 hc with h3 | h3
  ·rw [h3, yH, jE _ hd10]
   omega
  ·exact h1 c h3
 ·rw [List.length_set, e2, xO _ (by omega), ygj, jE _ hd10, h2, List.length_drop, Nat.pow_succ, Nat.mod_mul, hd, show L.length - (p + 1) = done by omega, show 48 + d - 48 = d by omega, Nat.mul_comm d]
  omega
theorem yh9 : ∀ l : List UInt8, (∀ c ∈ l, c = 48) → dv l = 0 := by
 intro l
 induction l with
 |nil => intro _; rfl
 |cons c r ih =>
  intro h
  rw [ygj, ih (fun c hc => h c (by simp [hc])), h c (by simp)]
  simp
theorem ycJ {L : List UInt8} {o : Nat} {c : UInt8} (hd : ∀ c ∈ L, isDg c = true) (hz : ∀ c ∈ L.take o, c = 48) (hc : L[o]? = some c) (hne : c ≠ 48) : L.drop o = Lib.decDigits (dv L) := by
 have h1 : dv L = dv (L.drop o) := by
  conv => lhs; rw [← List.take_append_drop o L]
  rw [qh, yh9 _ hz]
  omega
 rw [h1]
 have hlt : o < L.length := (List.getElem?_eq_some_iff.1 hc).1
 have hh : (L.drop o).head? = some c := by rw [List.head?_drop]; exact hc
 refine vJ (fun e => by rw [e] at hh; simp at hh) (fun c hc => hd c (List.mem_of_mem_drop hc)) (fun _ => by rw [hh]; simpa using hne)
theorem yhP {n : Nat} (_ : n < 1000000) : ∃ R Q D : Nat, (n : Int) % 10 = (R : Int) ∧ (n : Int) / 10 = (Q : Int) ∧ IntKind.u8.wrap (48 + (R : Int)) = (D : Int) ∧ D = 48 + R ∧ R = n % 10 ∧ Q = n / 10 ∧ R < 10 := by
 refine ⟨n % 10, n / 10, 48 + n % 10, by omega, by omega, ?_, rfl, rfl, rfl, by omega⟩
 have : n % 10 < 10 := by omega
 generalize n % 10 = r at this ⊢
 rcases (show r = 0 ∨ r = 1 ∨ r = 2 ∨ r = 3 ∨ r = 4 ∨ r = 5 ∨ r = 6 ∨ r = 7 ∨ r = 8 ∨ r = 9 by omega) with h | h | h | h | h | h | h | h | h | h <;> subst h <;> rfl
end Go.KI
namespace Go.Proofs.YtklgpilgalfckaaGreatDoor
open Go.RowKit Go.KP Go.KI Go.Shelf
attribute [local go_sem] Oper.semAt_some

abbrev byteO (L : List UInt8) : Obj := .cells (Lib.byteCells L).toArray 5
theorem jG {w : World} {g : Nat} {L : List UInt8} (h : w.heap[g]? = some (byteO L)) {i : Nat} {c : UInt8} (hi : L[i]? = some c) : w.cell? ⟨g, i, none⟩ = some (.int .u8 c.toNat) := by
 rw [ya h]
 simp [Lib.byteCells, hi]
theorem yec {w : World} {g : Nat} {L : List UInt8} (h : w.heap[g]? = some (byteO L)) (k : Nat) (c : UInt8) {v : Nat} (hv : c.toNat = v) : (w.setCell ⟨g, k, none⟩ (.int .u8 v)).heap[g]? = some (byteO (L.set k c)) := by
 subst hv
 simp only [World.setCell, Array.getElem?_modify, h]
 simp [Lib.byteCells, List.map_set]
theorem info5 : (Tryz.prog.info? 5).map (fun i => (i.zero, i.size, i.bytes)) = some (some (.int .u8 0), 1, 1) := by kernel_rfl
theorem ya3 (n : Nat) (hn : n ≤ 1000000) (W : World) :
 (Instr.makeSlice 49 (.int .i64 (n : Int)) (.int .i64 (n : Int))).run Tryz.prog W = .ok (.slice (some ⟨W.heap.size, 0, none⟩) n n) (W.alloc (byteO (List.replicate n 0))) := by
 obtain ⟨i0, hi0, hz0, hz1, hz2⟩ := info_parts info5
 have hr := run_make (P := Tryz.prog) W 49 5 i0 (.int .u8 0) Tryz.underlying49 hi0 hz0 .i64 .i64 n n (by omega) (Int.le_refl _) (by rw [hz2]; omega) (by omega)
 simp only [Int.toNat_natCast, hz1] at hr
 rw [hr]
 have e : madeCells (Value.int .u8 0).cells (n * 1) = (Lib.byteCells (List.replicate n 0)).toArray := by
  simp [madeCells, Value.cells, Lib.byteCells]
  apply Array.ext
  ·simp
  ·intro i h1 h2
   simp [Nat.mod_one]
 rw [e]
theorem je (m : Bool) (v : Value) (l : List Nat) (B : Nat) (w : World) (h : LimbAt B w v l) (hB : B ≤ w.heap.size) (hn : Norm 1000000 l) (hl : l.length ≤ 100000) :
 Calls Tryz.prog 206 #[numV m v] w (Ret w (.string (strB (Lib.itoa (valS m (lv 1000000 l)))))) := by
 obtain ⟨a0, c0, hv⟩ := h.form
 subst hv
 have HL := hide h; have HN := hide hn
 clear h hn
 obtain ⟨n, hnn⟩ := xe l.length
 have HNN := hide hnn
 rw [← hnn] at hl HL ⊢
 clear hnn
 obtain ⟨b0, bs0, bb0⟩ := heap1 w (.cells #[.bool m, .slice a0 n c0] 222)
 have c1' := ya b0 0
 have c2' := ya b0 1
 by_cases h0 : n = 0
 ·have hnil : l = [] := List.eq_nil_of_length_eq_zero (HNN.out.symm.trans h0)
  have hq : ((n : Int) == 0) = true := by rw [h0]; rfl
  have HE := hide (show strB (Lib.itoa (valS m (lv 1000000 l))) = ⟨#[48]⟩ by
   rw [hnil, ycI]
   cases m <;> exact congrArg strB yP)
  have BB := hide bb0
  clear h0 hnil b0 bs0 bb0
  go_enter Tryz.func206, Tryz.ntmps206
  go_wp2_with fail
  go_ret
  rw [HE.out]
  exact ⟨rfl, BB.out⟩
 ·have hq : ((n : Int) == 0) = false := by simpa using h0
  obtain ⟨N, hN⟩ := xe (6 * n)
  have h6 : 6 * (n : Int) = (N : Int) := by omega
  have hmk := ya3 N (by omega)
  have hNl : N ≤ 600000 := by omega
  obtain ⟨w1, hw1⟩ : ∃ w1, w.alloc (.cells #[.bool m, .slice a0 n c0] 222) = w1 := ⟨_, rfl⟩
  obtain ⟨d0, ds0, db0⟩ := heap1 w1 (byteO (List.replicate N 0))
  have HW1 := hide hw1
  rw [hw1] at b0 bs0 bb0
  have B0 := hide (yc db0 b0 (by omega)); have BB := hide (bb0.trans (db0.mono (by omega))); rw [bs0] at d0; have D0 := hide d0
  have HNE := hide hN
  clear b0 bs0 bb0 d0 ds0 db0 hw1 hN
  go_enter Tryz.func206, Tryz.ntmps206
  go_wp2_with fail
  clear hmk h6 c1' c2'
  have hg1 : w.heap.size + 1 < (w1.alloc (byteO (List.replicate N 0))).heap.size := yd D0.out
  obtain ⟨w2, hw2⟩ : ∃ w2, w1.alloc (byteO (List.replicate N 0)) = w2 := ⟨_, rfl⟩
  rw [HW1.out, hw2]
  rw [hw2] at B0 BB D0 hg1
  obtain ⟨V, hV⟩ := xe (lv 1000000 l)
  have HV := hide hV
  have HNE2 := hide h0
  clear hV hw2 h0
  go_loopw [4] (fun i wr => ∃ k : Nat, k ≤ n ∧ i = .int .i64 k ∧ Hid (∃ L : List UInt8, L.length = N ∧ DigsAt V (6 * k) L ∧ wr.heap[w.heap.size + 1]? = some (byteO L) ∧ wr.heap[w.heap.size]? = some (.cells #[.bool m, .slice a0 n c0] 222 (0, 0)) ∧ Below w.heap.size w wr)) (fun i _ => n - (intOf i).toNat)
  case atStart => exact ⟨0, Nat.zero_le _, rfl, _, List.length_replicate, DigsAt.start _ _, D0.out, B0.out, BB.out⟩
  case round =>
   obtain ⟨i, hi, rfl, hin⟩ := hrel
   obtain ⟨L0, hL0, hD0, hg0, hb0, hw0⟩ := hin.out
   have c1 := ya hb0 1
   have c2 := ya hb0 0
   by_cases hlt : i < n
   ·have e3 : (i : Int) < (n : Int) := by omega
    have i0 : (0 : Int) ≤ (i : Int) := by omega
    rcases LimbAt.cases (l := l) (HL.out.below hw0 hB) with ⟨_, _, _, hnil⟩ | ⟨b, o, cap, hv, hbb, hcl⟩
    ·have := HNN.out
     rw [hnil] at this
     simp at this
     omega
    injection hv with hv1 hv2 hv3
    subst hv1; subst hv3
    have hcell := hcl i (by have := HNN.out; omega)
    have hxi := yF (by omega) HN.out.lt i
    obtain ⟨X, hX⟩ := xe (lat l i)
    rw [← hX] at hcell hxi
    have HX := hide hX; have HL0 := hide hL0; have HD0 := hide hD0; have HG0 := hide hg0; have HB0 := hide hb0; have HW0 := hide hw0
    clear hcl hv2 hX hL0 hD0 hg0 hb0 hw0 hin hbb
    obtain ⟨wo, hwo⟩ := xe wr
    subst hwo
    go_wp2_with fail
    clear c1 c2 hcell
    have d1 := ya HB0.out 1
    go_loopw [5, 6] (fun a k wr => ∃ (j A : Nat), j ≤ 6 ∧ k = .int .i64 ((j : Int) + 1) ∧ a = .int .i64 A ∧ A < 1000000 ∧ Hid (A = X / 10 ^ j) ∧ Hid (∃ L : List UInt8, L.length = N ∧ DigsAt V (6 * i + j) L ∧ wr.heap[w.heap.size + 1]? = some (byteO L) ∧ wr.heap[w.heap.size]? = some (.cells #[.bool m, .slice (some ⟨b, o, none⟩) n c0] 222 (0, 0)) ∧ Below w.heap.size w wr)) (fun _ k _ => 7 - (intOf k).toNat)
    case atStart => exact ⟨0, X, by omega, rfl, rfl, hxi, hide (by rw [Nat.pow_zero, Nat.div_one]), L0, HL0.out, HD0.out, HG0.out, HB0.out, HW0.out⟩
    case round =>
     obtain ⟨j, A, hj, rfl, rfl, hAl, hA, hin⟩ := hrel
     obtain ⟨L, hL, hD, hg, hb, hw⟩ := hin.out
     by_cases hlt2 : j < 6
     ·have e4 : (j : Int) + 1 ≤ 6 := by omega
      obtain ⟨p, hp⟩ : ∃ p : Nat, p + (6 * i + j) + 1 = N := ⟨N - (6 * i + j) - 1, by have := HNE.out; omega⟩
      have hpi : (N : Int) - 6 * (i : Int) - ((j : Int) + 1) = (p : Int) := by omega
      have hpN : (p : Int) < (N : Int) := by omega
      have hpL : p < L.length := by omega
      obtain ⟨R, Q, Dg, hR, hQ, hDg, hDe, hRe, hQe, hR10⟩ := yhP hAl
      have q2 := yf hg p
      have hc0 := jG hg (List.getElem?_eq_getElem hpL)
      have HD := hide hD; have HG := hide hg; have HBB := hide hb; have HW := hide hw; have HP := hide hp; have HL2 := hide hL; have HRE := hide hRe; have HQE := hide hQe; have HDE := hide hDe; have HQI := hide hQ
      have hsz := yd hg
      have hQl : Q < 1000000 := by omega
      clear hD hg hb hw hp hL hin hRe hQe hDe hlt2
      go_wp2_with fail
      go_roundw
      case rel => 
       refine ⟨j + 1, Q, by omega, by first | (congr 1; done) | (congr 1; omega), by first | rfl | rw [HQI.out], hQl, hide ?_, L.set p (UInt8.ofNat (48 + R)), by rw [List.length_set]; exact HL2.out, ?_, ?_, (ye (by omega)).trans HBB.out, ?_⟩
       ·rw [HQE.out, hA.out, Nat.pow_succ, Nat.div_div_eq_div_mul]
       ·have hd := ygS HN.out.lt (i := i) (j := j) (by have := HNN.out; omega) (by omega)
        rw [← HV.out, ← HX.out, ← hA.out, ← HRE.out] at hd
        exact HD.out.step (by have := HP.out; have := HL2.out; omega) hd
       ·exact yec HG.out p _ (by rw [jE _ hR10, HDE.out])
       ·exact HW.out.setCell (p := ⟨w.heap.size + 1, p, none⟩) (by simp) _
      case measure => simp [intOf]; omega
     ·obtain rfl : j = 6 := by omega
      have HL2 := hide hL; have HD := hide hD; have HG := hide hg; have HBB := hide hb; have HW := hide hw
      clear hL hD hg hb hw hin hlt2
      go_wp2_with fail
      go_roundw
      case rel => exact ⟨i + 1, by omega, by go_num, L, HL2.out, by have := HD.out; rwa [show 6 * i + 6 = 6 * (i + 1) by omega] at this, HG.out, HBB.out, HW.out⟩
      case measure => simp [intOf]; omega
   ·obtain rfl : i = n := by omega
    have hki : ((i : Int) < (i : Int)) = False := eq_false (by omega)
    have hN6 : N = 6 * i := HNE.out
    have hfin : (∀ c ∈ L0, isDg c = true) ∧ dv L0 = V := by
     have h1 := hD0.dg
     have h2 := hD0.val
     rw [show L0.length - 6 * i = 0 by omega, List.drop_zero] at h1 h2
     refine ⟨h1, ?_⟩
     rw [h2]
     refine Nat.mod_eq_of_lt ?_
     have h3 := xB HN.out.lt
     rw [← HV.out, show (1000000 : Nat) = 10 ^ 6 by decide, ← Nat.pow_mul, ← HNN.out] at h3
     exact h3
    have hpos : 1 ≤ V := by
     rcases Nat.eq_zero_or_pos V with h | h
     ·exfalso
      rw [HV.out] at h
      have := (HN.out.zero (by omega)).1 h
      have := HNN.out
      rename_i h9
      rw [h9] at this
      exact HNE2.out this
     ·exact h
    have HF := hide hfin; have HPS := hide hpos; have HL0 := hide hL0; have HG0 := hide hg0; have HB0 := hide hb0; have HW0 := hide hw0
    clear hlt hfin hpos hN6 hL0 hg0 hb0 hw0 hD0 hin
    obtain ⟨wo, hwo⟩ := xe wr
    subst hwo
    go_wp2_with fail
    go_loopw [3] (fun s wr => ∃ o q : Nat, s = .slice (some ⟨w.heap.size + 1, o, none⟩) q q ∧ q ≤ N ∧ Hid (o + q = N) ∧ Hid (∀ c ∈ L0.take o, c = 48) ∧ wr = wo) (fun s _ => match s with | .slice _ n _ => n | _ => 0)
    case atStart => exact ⟨0, N, rfl, Nat.le_refl _, hide (by omega), hide (fun c hc => by simp at hc), rfl⟩
    case round =>
     obtain ⟨o, q, rfl, hqN, hoq, hz, rfl⟩ := hrel
     have hlo : o < N := by
      rcases Nat.lt_or_ge o N with h | h
      ·exact h
      ·exfalso
       have h1 := yh9 _ hz.out
       rw [List.take_of_length_le (by rw [HL0.out]; exact h), HF.out.2] at h1
       have := HPS.out
       omega
     obtain ⟨c, hc⟩ : ∃ c, L0[o]? = some c := ⟨_, List.getElem?_eq_getElem (by rw [HL0.out]; exact hlo)⟩
     have hcell := jG HG0.out hc
     have hoq2 := hoq.out
     have hq0 : (0 : Int) < (q : Int) := by omega
     have HC := hide hc; have HOQ := hide hoq2; have HZ := hide hz.out
     clear hc hoq hz hoq2
     by_cases hc48 : c = 48
     ·obtain ⟨q', hq'⟩ : ∃ q', q = q' + 1 := ⟨q - 1, by omega⟩
      subst hq'
      have hq1 : (((c.toNat : Nat) : Int) == 48) = true := by rw [hc48]; rfl
      have hz2 : ∀ d ∈ L0.take (o + 1), d = 48 := fun d hd => by
       rw [List.take_add_one, HC.out] at hd
       rcases List.mem_append.1 hd with h | h
       ·exact HZ.out d h
       ·simp at h
        rw [h, hc48]
      have hq0' : (q' = 0) = False := eq_false (fun h => by
       have h1 := yh9 _ hz2
       rw [List.take_of_length_le (by rw [HL0.out]; have := HOQ.out; omega), HF.out.2] at h1
       have := HPS.out
       omega)
      have HZ2 := hide hz2
      clear hc48 hlo hz2
      go_wp2_with fail
      refine ⟨⟨o + 1, q', rfl, by omega, hide (by have := HOQ.out; omega), HZ2, trivial⟩, by simp⟩
     ·have hq1 : (((c.toNat : Nat) : Int) == 48) = false := by
       have : c.toNat ≠ 48 := fun e => hc48 (UInt8.toNat_inj.1 e)
       simp only [beq_eq_false_iff_ne, ne_eq]
       omega
      have hcv := run_convert_bytes_arg (P := Tryz.prog) wr 49 5 Tryz.underlying49 Tryz.underlying5 (w.heap.size + 1) o q q ((L0.drop o).map fun c => (c.toNat : Int)) (by rw [List.length_map, List.length_drop, HL0.out]; have := HOQ.out; omega) (fun j hj => by
       have hjl : o + j < L0.length := by rw [HL0.out]; have := HOQ.out; omega
       rw [jG HG0.out (List.getElem?_eq_getElem hjl)]
       simp [List.getD, List.getElem?_drop, List.getElem?_eq_getElem hjl]) 9 Tryz.underlying9
      have hst : strOfNums ((L0.drop o).map fun c => (c.toNat : Int)) = strB (Lib.decDigits V) := by
       have h1 := ycJ HF.out.1 HZ.out HC.out hc48
       rw [← HF.out.2, ← h1]
       apply yp
       rw [strOfNums_data, yh, List.map_map]
       conv => rhs; rw [← List.map_id (L0.drop o)]
       apply List.map_congr_left
       intro a _
       simp
      obtain ⟨t, ht⟩ := xe (strB (Lib.decDigits V))
      rw [hst, ← ht] at hcv
      have htl : t.size ≤ 600000 := by
       rw [ht, ← HF.out.2, ← ycJ HF.out.1 HZ.out HC.out hc48, yu, List.length_drop, HL0.out]
       omega
      have hov : (9223372036854775807 < 1 + t.size) = False := eq_false (by omega)
      have HT := hide ht
      clear hc48 hlo hst ht
      have HIT := hide (fun m' => show Lib.itoa (valS m' (lv 1000000 l)) = (if m' then [45] else []) ++ Lib.decDigits V by rw [← HV.out]; exact ybW HPS.out)
      cases m
      ·go_wp2_with fail
       go_ret
       refine ⟨?_, HW0.out⟩
       rw [HIT.out, HT.out]
       rfl
      ·go_wp2_with fail
       go_ret
       refine ⟨?_, HW0.out⟩
       rw [HIT.out, HT.out]
       congr 2
end Go.Proofs.YtklgpilgalfckaaGreatDoor
namespace Go.KI
open Go
theorem yha {n : Nat} (_ : n < 10000000000000000000) : ∃ R Q D : Nat, (n : Int) % 10 = (R : Int) ∧ (n : Int) / 10 = (Q : Int) ∧ IntKind.u8.wrap (48 + (R : Int)) = (D : Int) ∧ D = 48 + R ∧ R = n % 10 ∧ Q = n / 10 ∧ R < 10 := by
 refine ⟨n % 10, n / 10, 48 + n % 10, by omega, by omega, ?_, rfl, rfl, rfl, by omega⟩
 have : n % 10 < 10 := by omega
 generalize n % 10 = r at this ⊢
 rcases (show r = 0 ∨ r = 1 ∨ r = 2 ∨ r = 3 ∨ r = 4 ∨ r = 5 ∨ r = 6 ∨ r = 7 ∨ r = 8 ∨ r = 9 by omega) with h | h | h | h | h | h | h | h | h | h <;> subst h <;> rfl
theorem DigsAt.fin {V done p : Nat} {L : List UInt8} (h : DigsAt V (done + 1) L) (hp : p + done + 1 = L.length) {A : Nat} (hA : A = V / 10 ^ done) (h10 : A / 10 = 0) (h0 : done ≠ 0 → A ≠ 0) (hc : L[p]? = some (UInt8.ofNat (48 + A % 10))) : L.drop p = Lib.decDigits V := by
 have e2 : L.length - (done + 1) = p := by omega
 have h1 := h.dg
 have h2 := h.val
 rw [e2] at h1 h2
 have hV : V < 10 ^ (done + 1) := by
  rw [hA, Nat.div_div_eq_div_mul, ← Nat.pow_succ] at h10
  exact Nat.lt_of_div_eq_zero (Nat.pow_pos (by omega)) h10
 rw [Nat.mod_eq_of_lt hV] at h2
 have hh : (L.drop p).head? = some (UInt8.ofNat (48 + A % 10)) := by rw [List.head?_drop]; exact hc
 have h3 := vJ (l := L.drop p) (fun e => by rw [e] at hh; simp at hh) h1 (fun hl he => by
  rw [hh] at he
  injection he with he
  have h4 := congrArg UInt8.toNat he
  rw [jE _ (Nat.mod_lt _ (by omega))] at h4
  rw [List.length_drop] at hl
  have h5 := h0 (by omega)
  have h6 : (48 : UInt8).toNat = 48 := rfl
  omega)
 rw [h2] at h3
 exact h3
end Go.KI
namespace Go.Proofs.YtklgpilgalfckaaGreatDoor
open Go.RowKit Go.KP Go.KI Go.Shelf
attribute [local go_sem] Oper.semAt_some

theorem xm (V : Nat) (hV : Hid (V < 9223372036854775808)) (w : World) :
 Calls Tryz.prog 138 #[.int .i64 V] w (Ret w (.string (strB (Lib.decDigits V)))) := by
 have hmk : (Instr.makeSlice 49 (.int .i64 20) (.int .i64 20)).run Tryz.prog w = .ok (.slice (some ⟨w.heap.size, 0, none⟩) 20 20) (w.alloc (byteO (List.replicate 20 0))) := ya3 20 (by omega) w
 obtain ⟨d0, ds0, db0⟩ := heap1 w (byteO (List.replicate 20 0))
 have D0 := hide d0; have DB := hide db0
 obtain ⟨O0, hO0⟩ := xe (byteO (List.replicate 20 0))
 rw [← hO0] at hmk DB
 have D0 : Hid ((w.alloc O0).heap[w.heap.size]? = some (byteO (List.replicate 20 0))) := hide (by rw [hO0]; exact D0.out)
 clear hO0
 obtain ⟨X, hX⟩ := xe (strB (Lib.decDigits V))
 rw [← hX]
 have HX := hide hX
 clear d0 ds0 db0 hX
 go_enter Tryz.func138, Tryz.ntmps138
 go_wp2_with fail
 clear hmk
 obtain ⟨w2, hw2⟩ : ∃ w2, w.alloc O0 = w2 := ⟨_, rfl⟩
 rw [hw2] at D0 DB ⊢
 clear hw2
 have hg1 : w.heap.size < w2.heap.size := yd D0.out
 go_loopw [0, 4] (fun n i wr => ∃ d A p : Nat, p + d + 1 = 20 ∧ i = .int .i64 ((p : Int) + 1) ∧ n = .int .i64 A ∧ Hid (A = V / 10 ^ d ∧ (d ≠ 0 → A ≠ 0)) ∧ Hid (∃ L : List UInt8, L.length = 20 ∧ DigsAt V d L ∧ wr.heap[w.heap.size]? = some (byteO L) ∧ Below w.heap.size w wr)) (fun _ i _ => (intOf i).toNat)
 case atStart => exact ⟨0, V, 19, rfl, rfl, rfl, hide ⟨by rw [Nat.pow_zero, Nat.div_one], fun h => absurd rfl h⟩, _, List.length_replicate, DigsAt.start _ _, D0.out, DB.out⟩
 case round =>
  obtain ⟨d, A, p, hpd, rfl, rfl, hA, hin⟩ := hrel
  obtain ⟨L, hL, hD, hg, hw⟩ := hin.out
  have hAV : A < 9223372036854775808 := by
   rw [hA.out.1]
   have := hV.out
   have h2 := Nat.div_le_self V (10 ^ d)
   omega
  obtain ⟨R, Q, Dg, hR, hQ, hDg, hDe, hRe, hQe, hR10⟩ := yha (show A < 10000000000000000000 by omega)
  have hpL : p < L.length := by omega
  have q2 := yf hg p
  have hc0 := jG hg (List.getElem?_eq_getElem hpL)
  have hpi : ((p : Int) + 1) - 1 = (p : Int) := by omega
  have hpN : (p : Int) < 20 := by omega
  have hp0 : (0 : Int) ≤ (p : Int) := by omega
  have hA0 : (0 : Int) ≤ (A : Int) := by omega
  have hsz := yd hg
  have HDN := hide (hD.step (p := p) (d := R) (by omega) (by rw [← hA.out.1, hRe]))
  have HGN := hide (yec hg p (UInt8.ofNat (48 + R)) (v := Dg) (by rw [jE _ hR10, hDe]))
  have HWN := hide (hw.setCell (p := ⟨w.heap.size, p, none⟩) (by simp) (.int .u8 Dg))
  have HL2 := hide hL; have HRE := hide hRe; have HQE := hide hQe; have HQI := hide hQ; have HPD := hide hpd
  have hQN : Q = A / 10 := hQe
  have HQN := hide hQN
  by_cases hq0 : Q = 0
  ·have hqz : ((Q : Int) == 0) = true := by rw [hq0]; rfl
   obtain ⟨L2, hL2⟩ := xe (L.set p (UInt8.ofNat (48 + R)))
   have hlen2 : L2.length = 20 := by rw [hL2, List.length_set]; exact HL2.out
   have hnum : DigsAt V (d + 1) L2 := by rw [hL2]; exact HDN.out
   have hat2 : L2[p]? = some (UInt8.ofNat (48 + A % 10)) := by rw [hL2, List.getElem?_set_self hpL, hRe]
   have hg2 : (wr.setCell ⟨w.heap.size, p, none⟩ (.int .u8 Dg)).heap[w.heap.size]? = some (byteO L2) := by rw [hL2]; exact HGN.out
   have hfin := hnum.fin (p := p) (by omega) hA.out.1 (by rw [← HQN.out, hq0]) hA.out.2 hat2
   have hcv := run_convert_bytes_arg (P := Tryz.prog) (wr.setCell ⟨w.heap.size, p, none⟩ (.int .u8 Dg)) 49 5 Tryz.underlying49 Tryz.underlying5 w.heap.size p (d + 1) (d + 1) ((L2.drop p).map fun c => (c.toNat : Int)) (by rw [List.length_map, List.length_drop]; omega) (fun j hj => by
    have hjl : p + j < L2.length := by omega
    rw [jG hg2 (List.getElem?_eq_getElem hjl)]
    simp [List.getD, List.getElem?_drop, List.getElem?_eq_getElem hjl]) 9 Tryz.underlying9
   have hst : strOfNums ((L2.drop p).map fun c => (c.toNat : Int)) = X := by
    rw [hfin, HX.out]
    apply yp
    rw [strOfNums_data, yh, List.map_map]
    conv => rhs; rw [← List.map_id (Lib.decDigits V)]
    apply List.map_congr_left
    intro a _
    simp
   rw [hst] at hcv
   have hd1 : 20 - p = d + 1 := by omega
   have hd2 : (20 : Int) - (p : Int) = ((d + 1 : Nat) : Int) := by omega
   have hp20 : p ≤ 20 := by omega
   clear hD hg hw hL hin hRe hQe hDe hpd hst hfin hq0 hL2 hlen2 hnum hat2 hg2 hQN
   go_wp2_with fail
   go_ret
   exact ⟨rfl, HWN.out⟩
  ·have hqz : ((Q : Int) == 0) = false := by
    simp only [beq_eq_false_iff_ne, ne_eq]
    omega
   have hp1 : p ≠ 0 := by
    intro e
    have h19 : d = 19 := by omega
    have h5 := hA.out.1
    rw [h19] at h5
    have h6 := hV.out
    have h7 : V / 10 ^ 19 = 0 := Nat.div_eq_of_lt (by omega)
    omega
   have HQ0 := hide hq0
   clear hD hg hw hL hin hRe hQe hDe hpd hq0 hQN
   go_wp2_with fail
   go_roundw
   case rel =>
    obtain ⟨p', hp'⟩ : ∃ p', p = p' + 1 := ⟨p - 1, by omega⟩
    refine ⟨d + 1, Q, p', by have := HPD.out; omega, by first | (rw [hp']; done) | (rw [hp']; rfl), by first | rfl | rw [HQI.out], hide ⟨?_, fun _ => HQ0.out⟩, L.set p (UInt8.ofNat (48 + R)), by rw [List.length_set]; exact HL2.out, HDN.out, HGN.out, HWN.out⟩
    rw [HQN.out, hA.out.1, Nat.pow_succ, Nat.div_div_eq_div_mul]
   case measure => first | (simp [intOf]; done) | (simp [intOf]; omega)

theorem jl (n : Int) (d : Nat) (hn : n.natAbs < 5000000000000000000) (hd : d < 5000000000000000000) (h0 : 0 < d) (w : World) :
 Calls Tryz.prog 83 #[.int .i64 n, .int .i64 d] w (Ret w (.string (strB (ratS (Rat.divInt n d))))) := by
 obtain ⟨u, hu⟩ := xe n.natAbs
 obtain ⟨g, hg⟩ := xe (Nat.gcd u d)
 have HG := hide (fun w => ycN u d (by omega) hd w)
 rw [← hg] at HG
 have hgp : 0 < g := by rw [hg]; exact Nat.gcd_pos_of_pos_right _ h0
 obtain ⟨A, hA⟩ := xe (u / g)
 obtain ⟨C, hC⟩ := xe (d / g)
 have hAu : A ≤ u := by rw [hA]; exact Nat.div_le_self _ _
 have hCd : C ≤ d := by rw [hC]; exact Nat.div_le_self _ _
 have q1 : (u : Int) / (g : Int) = (A : Int) := by rw [hA, Int.natCast_ediv]
 have q2 : (d : Int) / (g : Int) = (C : Int) := by rw [hC, Int.natCast_ediv]
 have HD1 := hide (fun w => xm A (hide (by omega)) w)
 have HD2 := hide (fun w => xm C (hide (by omega)) w)
 have hgz : ((g : Int) == 0) = false := by
  simp only [beq_eq_false_iff_ne, ne_eq]
  omega
 obtain ⟨S, hS⟩ := xe ((if n < 0 then (⟨#[45]⟩ : ByteArray) else ⟨#[]⟩))
 have hNq : n / (g : Int) = if n < 0 then -(A : Int) else (A : Int) := by
  have hdv : (g : Int) ∣ n := by rw [hg, hu]; exact Int.ofNat_dvd_left.2 (Nat.gcd_dvd_left _ _)
  by_cases h : n < 0
  ·rw [if_pos h]
   have e : n = -(u : Int) := by omega
   rw [e, Int.neg_ediv_of_dvd (by rw [e] at hdv; exact Int.dvd_neg.1 hdv), q1]
  ·rw [if_neg h]
   have e : n = (u : Int) := by omega
   rw [e, q1]
 have hApos : n < 0 → 0 < A := by
  intro h
  rw [hA]
  exact Nat.div_pos (by rw [hg]; exact Nat.le_of_dvd (by omega) (Nat.gcd_dvd_left _ _)) hgp
 have hit : Lib.itoa (n / (g : Int)) = S.data.toList ++ Lib.decDigits A := by
  rw [hNq, hS]
  by_cases h : n < 0
  ·rw [if_pos h, if_pos h, Lib.itoa_neg _ (hApos h)]
   rfl
  ·rw [if_neg h, if_neg h, Lib.itoa_nonneg]
   rfl
 have HX := hide (show ratS (Rat.divInt n d) = if C = 1 then S.data.toList ++ Lib.decDigits A else S.data.toList ++ Lib.decDigits A ++ 47 :: Lib.decDigits C by
  have h := ybh (n := n) (d := (d : Int)) (by omega)
  rw [Int.natAbs_natCast, ← hu, ← hg, hit, q2] at h
  rw [h, Lib.itoa_nonneg]
  by_cases h1 : C = 1
  ·rw [if_pos (by omega), if_pos h1]
  ·rw [if_neg (by omega), if_neg h1])
 obtain ⟨E1, hE1⟩ := xe (strB (Lib.decDigits A))
 obtain ⟨E2, hE2⟩ := xe (strB (Lib.decDigits C))
 obtain ⟨X, hX⟩ := xe (strB (ratS (Rat.divInt n d)))
 rw [← hE1] at HD1
 rw [← hE2] at HD2
 rw [← hX]
 have hl1 : E1.size ≤ 20 := by
  rw [hE1, yu]
  exact (yn (by omega)).2 (Nat.lt_of_lt_of_le (m := 5000000000000000000) (by omega) (by decide))
 have hl2 : E2.size ≤ 20 := by
  rw [hE2, yu]
  exact (yn (by omega)).2 (Nat.lt_of_lt_of_le (m := 5000000000000000000) (by omega) (by decide))
 have hSs : S.size ≤ 1 := by
  rw [hS]
  split
  ·exact Nat.le_refl _
  ·exact Nat.zero_le _
 have v1 : (9223372036854775807 < S.size + E1.size) = False := eq_false (by omega)
 have v2 : (9223372036854775807 < S.size + E1.size + 1) = False := eq_false (by omega)
 have v3 : (9223372036854775807 < S.size + E1.size + 1 + E2.size) = False := eq_false (by omega)
 have hway : (C = 1 ∧ X = S ++ E1) ∨ (C ≠ 1 ∧ X = S ++ E1 ++ ⟨#[47]⟩ ++ E2) := by
  by_cases h : C = 1
  ·refine .inl ⟨h, ?_⟩
   rw [hX, HX.out, if_pos h, hE1]
   apply yp
   simp [strB]
  ·refine .inr ⟨h, ?_⟩
   rw [hX, HX.out, if_neg h, hE1, hE2]
   apply yp
   simp [strB]
 have hsg : (n < 0 ∧ S = ⟨#[45]⟩ ∧ -n = (u : Int)) ∨ ((n < 0) = False ∧ S = ⟨#[]⟩ ∧ n = (u : Int)) := by
  by_cases h : n < 0
  ·exact .inl ⟨h, by rw [hS, if_pos h], by omega⟩
  ·exact .inr ⟨eq_false h, by rw [hS, if_neg h], by omega⟩
 have p1 : (u : Int).tdiv (g : Int) = (A : Int) := by rw [wD, hA]
 have p2 : (d : Int).tdiv (g : Int) = (C : Int) := by rw [wD, hC]
 have hdn0 : (0 : Int) ≤ (d : Int) := by omega
 have hg1 : (0 : Int) < (g : Int) := by omega
 have bA : (A : Int) < 5000000000000000000 := by omega
 have bA0 : (0 : Int) ≤ (A : Int) := by omega
 have bC : (C : Int) < 5000000000000000000 := by omega
 have bC0 : (0 : Int) ≤ (C : Int) := by omega
 clear q1 q2 hu hg hA hC hS hNq hApos hit HX hE1 hE2 hX hl1 hl2 hSs hAu hCd hgp
 have hlo : -5000000000000000000 < n := by omega
 have hhi : n < 5000000000000000000 := by omega
 clear hn
 rcases hsg with ⟨hn0, hSe, hnu⟩ | ⟨hn0, hSe, hnu⟩
 all_goals
  have HSE := hide hSe
  clear hSe
  try subst hnu
  go_enter Tryz.func83, Tryz.ntmps83
  go_wp2_with fail
  first | refine (HG.out _).mono ?_ | (rw [hnu]; refine (HG.out _).mono ?_)
  rintro e w1 ⟨rfl, hb1⟩
  have HB1 := hide hb1
  rw [← HSE.out]
  have HW := hide hway
  clear hb1 hway
  go_wp2_with fail
  refine (HD1.out _).mono ?_
  rintro e w2 ⟨rfl, hb2⟩
  have HB2 := bt HB1 hb2
  clear hb2
  rcases HW.out with ⟨hC1, hXe⟩ | ⟨hC1, hXe⟩
  ·have hcz : ((C : Int) == 1) = true := by rw [hC1]; rfl
   have HXE := hide hXe
   clear hC1 hXe
   go_wp2_with fail
   go_ret
   exact ⟨by rw [HXE.out]; rfl, HB2.out⟩
  ·have hcz : ((C : Int) == 1) = false := by
    simp only [beq_eq_false_iff_ne, ne_eq]
    omega
   have HXE := hide hXe
   clear hC1 hXe
   go_wp2_with fail
   refine (HD2.out _).mono ?_
   rintro e w3 ⟨rfl, hb3⟩
   have HB3 := bt HB2 hb3
   clear hb3
   go_wp2_with fail
   go_ret
   exact ⟨by rw [HXE.out]; rfl, HB3.out⟩

theorem zH (s : ByteArray) (hd : ∀ c ∈ s.data.toList, isDg c = true) (hs : s.size ≤ 18) (w : World) :
 Calls Tryz.prog 136 #[.string s] w (Ret w (.int .i64 (dv s.data.toList : Nat))) := by
 have HD := hide hd
 have hdl : ∀ k ≤ s.size, dv (s.data.toList.take k) < 10 ^ 18 := by
  intro k hk
  refine Nat.lt_of_lt_of_le (yay _ (fun c hc => hd c (List.mem_of_mem_take hc))) (Nat.pow_le_pow_right (by omega) ?_)
  rw [List.length_take]
  omega
 have HDL := hide hdl
 clear hd hdl
 go_enter Tryz.func136, Tryz.ntmps136
 go_wp2_with fail
 go_loopw [3, 4] (fun n i wr => ∃ k A : Nat, k ≤ s.size ∧ i = .int .i64 k ∧ n = .int .i64 A ∧ Hid (A = dv (s.data.toList.take k)) ∧ wr = w) (fun _ i _ => s.size - (intOf i).toNat)
 case atStart => exact ⟨0, 0, by omega, rfl, rfl, rfl, rfl⟩
 case round =>
  obtain ⟨k, A, hk, rfl, rfl, hA, rfl⟩ := hrel
  have hk0 : (0 : Int) ≤ (k : Int) := by omega
  by_cases hlt : k < s.size
  ·have hki : (k : Int) < (s.size : Int) := by omega
   have hat : s.data.toList[k]? = some (s[k]'hlt) := by
    have h1 : s.data.toList[k]? = some s.data[k] := by simp
    exact h1
   obtain ⟨y, hyv⟩ : ∃ y : Nat, y = (s[k]'hlt).toNat := ⟨_, rfl⟩
   have hyv2 : (s[k]'hlt).toNat = y := hyv.symm
   have hdg : 48 ≤ y ∧ y ≤ 57 := by
    rw [hyv]
    exact yH.1 (HD.out _ (List.mem_of_getElem? hat))
   have hnew : dv (s.data.toList.take (k + 1)) = A * 10 + (y - 48) := by
    rw [List.take_add_one, hat]
    show dv (_ ++ [s[k]'hlt]) = _
    rw [qV, hyv2, hA.out]
   have hb1 := HDL.out (k + 1) (by omega)
   rw [hnew] at hb1
   have HN := hide hnew.symm
   have y0 : (48 : Int) ≤ (y : Int) := by omega
   have y1 : (y : Int) ≤ 57 := by omega
   have a1 : (A : Int) < 100000000000000000 := by omega
   have HC := hide (show 10 * (A : Int) + ((y : Int) - 48) = ((A * 10 + (y - 48) : Nat) : Int) by omega)
   clear hat hyv hdg hnew hA hb1
   go_wp2_with fail
   go_roundw
   case rel => exact ⟨k + 1, A * 10 + (y - 48), by omega, by go_num, by rw [← HC.out], HN, trivial⟩
   case measure => simp [intOf]; omega
  ·have hki : ((k : Int) < (s.size : Int)) = False := eq_false (by omega)
   have HE := hide (show dv s.data.toList = A by rw [hA.out, List.take_of_length_le (by rw [yg]; omega)])
   clear hA hlt
   go_wp2_with fail
   go_ret
   rw [HE.out]
   exact ⟨rfl, Below.refl _ _⟩

structure RShortAt (x : List Nat) (d k : Nat) (Q : List Nat) (R : Nat) : Prop where
 len : Q.length = x.length
 lt : Lt 1000000 Q
 rest : R < d
 val : lv 1000000 (x.drop (x.length - k)) = lv 1000000 (Q.drop (x.length - k)) * d + R
theorem RShortAt.start (x : List Nat) {d : Nat} (hd : 1 ≤ d) : RShortAt x d 0 (zeros x.length) 0 :=
 ⟨zt _, jt _ _ (by omega), hd, by rw [Nat.sub_zero, List.drop_length, List.drop_of_length_le (by rw [zt]; exact Nat.le_refl _)]; simp [lv]⟩
theorem RShortAt.step {x : List Nat} {d k R : Nat} {Q : List Nat} (h : RShortAt x d k Q R) (hx : Lt 1000000 x) (hd2 : d < 1000000) (hk : k < x.length) {i : Nat} (hi : i = x.length - 1 - k) :
 lat x i + R * 1000000 < d * 1000000 ∧ (lat x i + R * 1000000) / d < 1000000 ∧ RShortAt x d (k + 1) (Q.set i ((lat x i + R * 1000000) / d)) ((lat x i + R * 1000000) % d) := by
 have hr := h.rest
 have hxi := yF (by omega) hx i
 have h1 : (R + 1) * 1000000 ≤ d * 1000000 := Nat.mul_le_mul_right _ hr
 have h2 : lat x i + R * 1000000 < d * 1000000 := by omega
 have hdp : 0 < d := by omega
 have h3 : (lat x i + R * 1000000) / d < 1000000 := by
  rw [Nat.div_lt_iff_lt_mul hdp]
  omega
 refine ⟨h2, h3, by rw [List.length_set]; exact h.len, vG h.lt h3, Nat.mod_lt _ hdp, ?_⟩
 have e1 : x.length - (k + 1) = i := by omega
 have e2 : x.length - k = i + 1 := by omega
 have hv := h.val
 rw [e2] at hv
 rw [e1]
 have hl : i < x.length := by omega
 have hlq : i < Q.length := by rw [h.len]; exact hl
 have f1 : lv 1000000 (x.drop i) = lat x i + 1000000 * lv 1000000 (x.drop (i + 1)) := by
  rw [List.drop_eq_getElem_cons hl, xv hl]
  rfl
 have f2 : (Q.set i ((lat x i + R * 1000000) / d)).drop i = ((lat x i + R * 1000000) / d) :: Q.drop (i + 1) := by
  rw [List.drop_eq_getElem_cons (by rw [List.length_set]; exact hlq), List.getElem_set_self, List.drop_set_of_lt (by omega)]
 rw [f1, f2, hv]
 show lat x i + 1000000 * (lv 1000000 (Q.drop (i + 1)) * d + R) = ((lat x i + R * 1000000) / d + 1000000 * lv 1000000 (Q.drop (i + 1))) * d + (lat x i + R * 1000000) % d
 have h4 := Nat.div_add_mod (lat x i + R * 1000000) d
 rw [Nat.add_mul, Nat.mul_comm (_ / d) d]
 have e5 : 1000000 * lv 1000000 (Q.drop (i + 1)) * d = 1000000 * (lv 1000000 (Q.drop (i + 1)) * d) := by rw [Nat.mul_assoc]
 rw [e5]
 omega
theorem RShortAt.done {x : List Nat} {d R : Nat} {Q : List Nat} (h : RShortAt x d x.length Q R) : lv 1000000 Q = lv 1000000 x / d ∧ R = lv 1000000 x % d := by
 have hv := h.val
 rw [Nat.sub_self, List.drop_zero, List.drop_zero] at hv
 have hr := h.rest
 rw [hv]
 constructor
 ·rw [Nat.add_comm, Nat.add_mul_div_right _ _ (by omega), Nat.div_eq_of_lt hr, Nat.zero_add]
 ·rw [Nat.add_comm, Nat.add_mul_mod_self_right, Nat.mod_eq_of_lt hr]
theorem ydE {X R d : Nat} (hX : X < 1000000) (hR : R < d) (hd : d < 1000000) :
 ∃ T q r : Nat, T = X + R * 1000000 ∧ q = T / d ∧ r = T % d ∧ IntKind.i64.wrap ((R : Int) * 1000000) = (R : Int) * 1000000 ∧ IntKind.i64.wrap ((R : Int) * 1000000 + (X : Int)) = (T : Int) ∧ (T : Int) / (d : Int) = (q : Int) ∧ (T : Int) % (d : Int) = (r : Int) ∧ (T : Int) < 1000000000000 ∧ ((d : Int) == 0) = false ∧ r < d := by
 have h1 : X + R * 1000000 < 1000000000000 := by omega
 have h2 : (d : Int) ≠ 0 := by omega
 obtain ⟨T, hT⟩ := xe (X + R * 1000000)
 have h3 : (R : Int) * 1000000 + (X : Int) = (T : Int) := by omega
 exact ⟨T, T / d, T % d, hT, rfl, rfl, IntWalk.i64_in _ (by omega), by rw [h3]; exact IntWalk.i64_in _ (by omega), Int.natCast_ediv .., Int.natCast_emod .., by omega, by simpa using h2, Nat.mod_lt _ (by omega)⟩
def RDivRes (x y : List Nat) (w : World) (e : Ending) (w' : World) : Prop := ∃ (vq vr : Value) (q r : List Nat), e = .returned (.tuple #[vq, vr]) ∧ Below w.heap.size w w' ∧ OwnL w.heap.size w' vq q ∧ OwnL w.heap.size w' vr r ∧
 Norm 1000000 q ∧ Norm 1000000 r ∧ lv 1000000 q = lv 1000000 x / lv 1000000 y ∧ lv 1000000 r = lv 1000000 x % lv 1000000 y ∧ q.length ≤ x.length
theorem yeL (va : Value) (x : List Nat) (d : Nat) (B : Nat) (w : World) (ha : LimbAt B w va x) (hB : B ≤ w.heap.size) (hx : Lt 1000000 x) (lx : x.length ≤ 200000) (hd : 1 ≤ d) (hd2 : d < 1000000) :
 Calls Tryz.prog 244 #[va, .int .i64 d] w (RDivRes x [d] w) := by
 obtain ⟨a0, c0, hva⟩ := ha.form
 subst hva
 have HA := hide ha; have HX := hide hx
 clear ha hx
 obtain ⟨n, hn⟩ := xe x.length
 have HN := hide hn
 have hmk := qE n (by omega)
 rw [← hn] at lx ⊢
 clear hn
 have H0 := hide (heap_alloc_new w (rowO (zeros n))); have HB0 := hide ((Below.refl w.heap.size w).alloc (Nat.le_refl _) (rowO (zeros n)))
 go_enter Tryz.func244, Tryz.ntmps244
 go_wp2_with fail
 clear hmk
 go_loopw [7, 8] (fun rr i wr => ∃ (k R : Nat), k ≤ n ∧ i = .int .i64 ((n : Int) - 1 - k) ∧ rr = .int .i64 R ∧ Hid (∃ Q : List Nat, RShortAt x d k Q R ∧ wr.heap[w.heap.size]? = some (rowO Q) ∧ Below w.heap.size w wr)) (fun _ i _ => (intOf i + 1).toNat)
 case atStart => exact ⟨0, 0, Nat.zero_le _, by simp, rfl, zeros n, by have := RShortAt.start x hd; rw [← HN.out] at this; exact this, H0.out, HB0.out⟩
 case round =>
  obtain ⟨k, R, hk, rfl, rfl, hin⟩ := hrel
  obtain ⟨Q, h1, hQ, hW⟩ := hin.out
  have hsz := yd hQ
  by_cases hlt : k < n
  ·obtain ⟨m, hm⟩ : ∃ m : Nat, (n : Int) - 1 - (k : Int) = m := ⟨n - 1 - k, by omega⟩
   have hm2 : m = x.length - 1 - k := by have := HN.out; omega
   have hst := h1.step HX.out hd2 (by have := HN.out; omega) hm2
   obtain ⟨t1, t2, t3⟩ := hst
   have hxm := yF (by omega) HX.out m
   rw [hm]
   rcases (HA.out.below hW hB).cases with ⟨_, _, _, hnil⟩ | ⟨g, o, cap, hv, hg, hc⟩
   ·have := HN.out
    rw [hnil] at this
    simp at this
    omega
   injection hv with hv1 hv2 hv3
   subst hv1
   have q1 := hc m (by have := HN.out; omega)
   obtain ⟨X, hX⟩ := xe (lat x m)
   rw [← hX] at hxm t1 t2 t3 q1
   obtain ⟨T, q, r, hT, hq, hr, hw1, hwt, hqi, hri, hTl, hd0, hrl⟩ := ydE hxm h1.rest hd2
   rw [← hT] at t1 t2 t3
   rw [← hq, ← hr] at t3
   rw [← hq] at t2
   have hmi : (m : Int) < (n : Int) := by omega
   have hmq : m < Q.length := by rw [h1.len, ← HN.out]; omega
   have c3 := qL hQ hmq
   have f3 := qQ hQ m
   have hkn : k + 1 ≤ n := hlt
   have T3 := hide t3; have HQ := hide hQ; have HW := hide hW; have HM := hide hm; have HRI := hide hri
   clear hm hm2 t3 hQ hW h1 hX hT hq hr t1 hc hv2 hv3 hg hin hlt
   go_wp2_with fail
   go_roundw
   case rel => exact ⟨k + 1, r, by omega, by have := HM.out; congr 1; omega, by first | rfl | rw [HRI.out], Q.set m q, T3.out, vS HQ.out m q, HW.out.setCell (p := ⟨w.heap.size, m, none⟩) (Nat.le_refl _) _⟩
   case measure => simp [intOf]
  ·obtain rfl : k = n := by omega
   have hm : (k : Int) - 1 - (k : Int) = -1 := by omega
   rw [hm]
   have hQn : Q.length = k := h1.len.trans HN.out.symm
   have HTq := hide (zy (some ⟨w.heap.size, 0, none⟩) k Q wr.heap.size wr (by
    have := yV hQ (by unfold maxLen; omega)
    rw [hQn] at this ⊢
    exact this) (by omega) (by omega))
   rw [hQn] at HTq
   have HTr := hide (show Calls Tryz.prog 224 #[.slice (some ⟨wr.heap.size, 0, none⟩) 1 1] (wr.alloc (.cells #[.int .i64 R] 3)) (fun e w'' => e = .returned (.slice (some ⟨wr.heap.size, 0, none⟩) (trimTo [R] 1) 1) ∧ wr.alloc (.cells #[.int .i64 R] 3) = w'') from
    zy (some ⟨wr.heap.size, 0, none⟩) 1 [R] _ (wr.alloc (rowO [R])) (yV (heap_alloc_new wr (rowO [R])) (by unfold maxLen; simp)) (by simp) (by simp))
   have H1 := hide h1; have HQ := hide hQ; have HW := hide hW; have HQN := hide hQn
   clear h1 hQ hW hQn hin hlt hm
   go_wp2_with fail
   refine HTq.out.mono ?_
   rintro e w1 ⟨rfl, rfl⟩
   go_wp2_with fail
   refine HTr.out.mono ?_
   rintro e w1 ⟨rfl, rfl⟩
   go_wp2_with fail
   refine bodyPost_ret (results_tmp2 rfl _ _ _) rfl ?_
   obtain ⟨e1, e2⟩ := (show RShortAt x d x.length Q R by have := H1.out; rw [HN.out] at this; exact this).done
   have hR : Lt 1000000 [R] := fun z hz => by
    simp only [List.mem_singleton] at hz
    have := H1.out.rest
    omega
   have hE2 : (wr.alloc (rowO [R])).heap[w.heap.size]? = some (rowO Q) := (Below.heap_alloc _ _ _ hsz).trans HQ.out
   have o1 := (zO (base := w.heap.size) hE2 (Nat.le_refl _) (by rw [HQN.out]; unfold maxLen; omega)).cut (k := trimTo Q Q.length) (yj _ _)
   have o2 := (zO (base := w.heap.size) (heap_alloc_new wr (rowO [R])) HW.out.size (by unfold maxLen; simp)).cut (k := trimTo [R] 1) (yj _ _)
   have hv : lv 1000000 [d] = d := by simp [lv]
   have hr1 : lv 1000000 [R] = R := by simp [lv]
   refine ⟨_, _, trimL Q, trimL [R], rfl, HW.out.alloc HW.out.size _, ?_, ?_, yB H1.out.lt, yB hR, by rw [yR, e1, hv], by rw [yR, hr1, hv, e2], ?_⟩
   ·unfold trimL
    rw [HQN.out] at o1 ⊢
    exact o1
   ·exact o2
   ·rw [yJ]
    have := yj Q Q.length
    have := HQN.out
    have := HN.out
    omega

structure RDivAt (x : List Nat) (d k : Nat) (Q : List Nat) (R : Nat) : Prop where
 len : Q.length = x.length
 lt : Lt 1000000 Q
 rest : R < d
 val : lv 1000000 (x.drop (x.length - k)) = lv 1000000 (Q.drop (x.length - k)) * d + R
theorem RDivAt.start (x : List Nat) {d : Nat} (hd : 1 ≤ d) : RDivAt x d 0 (zeros x.length) 0 :=
 ⟨zt _, jt _ _ (by omega), hd, by rw [Nat.sub_zero, List.drop_length, List.drop_of_length_le (by rw [zt]; exact Nat.le_refl _)]; simp [lv]⟩
theorem RDivAt.step {x : List Nat} {d k R g r : Nat} {Q : List Nat} (h : RDivAt x d k Q R) (hk : k < x.length) {i : Nat} (hi : i = x.length - 1 - k) (hg : g < 1000000) (hr : r < d) (hv : lat x i + 1000000 * R = g * d + r) :
 RDivAt x d (k + 1) (Q.set i g) r := by
 refine ⟨by rw [List.length_set]; exact h.len, vG h.lt hg, hr, ?_⟩
 have e1 : x.length - (k + 1) = i := by omega
 have e2 : x.length - k = i + 1 := by omega
 have hw := h.val
 rw [e2] at hw
 rw [e1]
 have hl : i < x.length := by omega
 have hlq : i < Q.length := by rw [h.len]; exact hl
 have f1 : lv 1000000 (x.drop i) = lat x i + 1000000 * lv 1000000 (x.drop (i + 1)) := by
  rw [List.drop_eq_getElem_cons hl, xv hl]
  rfl
 have f2 : (Q.set i g).drop i = g :: Q.drop (i + 1) := by
  rw [List.drop_eq_getElem_cons (by rw [List.length_set]; exact hlq), List.getElem_set_self, List.drop_set_of_lt (by omega)]
 rw [f1, f2, hw]
 show lat x i + 1000000 * (lv 1000000 (Q.drop (i + 1)) * d + R) = (g + 1000000 * lv 1000000 (Q.drop (i + 1))) * d + r
 rw [Nat.add_mul, Nat.mul_add, Nat.mul_assoc]
 omega
theorem RDivAt.done {x : List Nat} {d R : Nat} {Q : List Nat} (h : RDivAt x d x.length Q R) : lv 1000000 Q = lv 1000000 x / d ∧ R = lv 1000000 x % d := by
 have hv := h.val
 rw [Nat.sub_self, List.drop_zero, List.drop_zero] at hv
 have hr := h.rest
 rw [hv]
 constructor
 ·rw [Nat.add_comm, Nat.add_mul_div_right _ _ (by omega), Nat.div_eq_of_lt hr, Nat.zero_add]
 ·rw [Nat.add_comm, Nat.add_mul_mod_self_right, Nat.mod_eq_of_lt hr]
theorem up3 {l : List Nat} (hl : Lt 1000000 l) {m : Nat} (h : l.length ≤ m + 3) : (lat l (m + 2) * 1000000 + lat l (m + 1)) * 1000000 + lat l m = lv 1000000 l / 1000000 ^ m := by
 have h1 := zo (b := 1000000) h
 rw [yy, yy, yy] at h1
 have h2 := xI (b := 1000000) (by omega) hl m
 have e1 : (1000000 : Nat) ^ (m + 1) = 1000000 ^ m * 1000000 := Nat.pow_succ ..
 have e2 : (1000000 : Nat) ^ (m + 2) = 1000000 ^ m * 1000000 * 1000000 := by rw [Nat.pow_succ, Nat.pow_succ]
 rw [← h1, e1, e2]
 have e3 : lvT 1000000 l m + 1000000 ^ m * lat l m + 1000000 ^ m * 1000000 * lat l (m + 1) + 1000000 ^ m * 1000000 * 1000000 * lat l (m + 2) = lvT 1000000 l m + 1000000 ^ m * ((lat l (m + 2) * 1000000 + lat l (m + 1)) * 1000000 + lat l m) := by grind
 rw [e3, Nat.add_mul_div_left _ _ (Nat.pow_pos (by omega)), Nat.div_eq_of_lt h2, Nat.zero_add]
theorem up2 {l : List Nat} (hl : Lt 1000000 l) {m : Nat} (h : l.length ≤ m + 2) : lat l (m + 1) * 1000000 + lat l m = lv 1000000 l / 1000000 ^ m := by
 have h1 := up3 hl (m := m) (by omega)
 rw [kT (i := m + 2) h, Nat.zero_mul, Nat.zero_add] at h1
 exact h1
theorem yhc {r y P g : Nat} (hP : 0 < P) (hg : g = r / P / (y / P + 1)) : g * y ≤ r := by
 have h1 : g * (y / P + 1) ≤ r / P := by rw [hg]; exact Nat.div_mul_le_self _ _
 have h2 : y ≤ P * (y / P + 1) := by
  have := Nat.div_add_mod y P
  have := Nat.mod_lt y hP
  rw [Nat.mul_add]
  omega
 calc g * y ≤ g * (P * (y / P + 1)) := Nat.mul_le_mul_left _ h2
  _ = P * (g * (y / P + 1)) := by grind
  _ ≤ P * (r / P) := Nat.mul_le_mul_left _ h1
  _ ≤ r := Nat.mul_div_le _ _
theorem yby {r y g : Nat} (h : g * y ≤ r) (hr : r < 1000000 * y) : g < 1000000 := by
 rcases Nat.lt_or_ge g 1000000 with h1 | h1
 ·exact h1
 ·have := Nat.mul_le_mul_right y h1
  omega
theorem ygq (L2 L1 L0 T : Nat) :
 ∃ G : Nat, (((L2 : Int) * 1000000 + (L1 : Int)) * 1000000 + (L0 : Int)) / ((T : Int) + 1) = (G : Int) ∧ G = ((L2 * 1000000 + L1) * 1000000 + L0) / (T + 1) := by
 refine ⟨((L2 * 1000000 + L1) * 1000000 + L0) / (T + 1), ?_, rfl⟩
 rw [Int.natCast_ediv]
 congr 1

theorem ydM {X Y Q C : Nat} (hX : X < 1000000) (hY : Y < 1000000) (hQ : Q < 1000000) (hC : C < 1000000) :
 ∃ p T D R : Nat, p = X * Y ∧ (X : Int) * (Y : Int) = (p : Int) ∧ IntKind.i64.wrap (p : Int) = (p : Int) ∧ IntKind.i64.wrap ((Q : Int) + (p : Int)) = (Q : Int) + (p : Int) ∧ IntKind.i64.wrap ((Q : Int) + (p : Int) + (C : Int)) = (T : Int) ∧
  (T : Int) / 1000000 = (D : Int) ∧ (T : Int) % 1000000 = (R : Int) ∧ T ≤ 1000000000000 ∧ D < 1000000 ∧ R < 1000000 ∧ Q + X * Y + C = R + 1000000 * D := by
 have hm : X * Y ≤ 999999 * 999999 := Nat.mul_le_mul (by omega) (by omega)
 obtain ⟨p, hp⟩ := xe (X * Y)
 rw [← hp] at hm
 have hpi : (X : Int) * (Y : Int) = (p : Int) := by rw [hp, Int.natCast_mul]
 refine ⟨p, Q + p + C, (Q + p + C) / 1000000, (Q + p + C) % 1000000, hp, hpi, IntWalk.i64_in _ (by omega), IntWalk.i64_in _ (by omega), ?_, by omega, by omega, by omega, by omega, by omega, by rw [← hp]; omega⟩
 rw [IntWalk.i64_in _ (by omega)]
 omega
theorem kr (va vb : Value) (x y : List Nat) (B : Nat) (w : World) (ha : LimbAt B w va x) (hb : LimbAt B w vb y) (hB : B ≤ w.heap.size) (hx : Lt 1000000 x) (hy : Lt 1000000 y) (lx : x.length ≤ 100000) (ly : y.length ≤ 100000) :
 Calls Tryz.prog 210 #[va, vb] w (RowRes (lv 1000000 x * lv 1000000 y) (x.length + y.length + 1) w) := by
 obtain ⟨a0, c0, hva⟩ := ha.form
 obtain ⟨a1, c1, hvb⟩ := hb.form
 subst hva; subst hvb
 obtain ⟨n, hn⟩ := xe (x.length + y.length + 1)
 have hn2 : (x.length : Int) + (y.length : Int) + 1 = (n : Int) := by omega
 have hmk := qE n (by omega)
 have HA := hide ha; have HBB := hide hb; have HX := hide hx; have HY := hide hy; have HN := hide hn
 have hnb : n ≤ 200001 := by omega
 clear ha hb hx hy hn
 go_enter Tryz.func210, Tryz.ntmps210
 go_wp2_with fail
 clear hmk hn2
 have H0 := hide (heap_alloc_new w (rowO (zeros n))); have HB0 := hide ((Below.refl w.heap.size w).alloc (Nat.le_refl _) (rowO (zeros n)))
 go_loopw [6] (fun i wr => ∃ k : Nat, k ≤ x.length ∧ i = .int .i64 k ∧ Hid (∃ L : List Nat, L.length = n ∧ Lt 1000000 L ∧ lv 1000000 L = lvT 1000000 x k * lv 1000000 y ∧ wr.heap[w.heap.size]? = some (rowO L) ∧ Below w.heap.size w wr)) (fun i _ => x.length - (intOf i).toNat)
 case atStart =>
  refine ⟨0, Nat.zero_le _, rfl, zeros n, zt n, jt _ _ (by omega), ?_, H0.out, HB0.out⟩
  rw [qn, zeros, ya8]
  simp
 case round =>
  obtain ⟨i, hi, rfl, hin⟩ := hrel
  obtain ⟨L0, hL0n, hL0t, hL0v, hL0b, hL0w⟩ := hin.out
  have hsz := yd hL0b
  by_cases hlt : i < x.length
  ·have e3 : (i : Int) < (x.length : Int) := by omega
   rcases (HA.out.below hL0w hB).cases with ⟨_, _, _, hnil⟩ | ⟨b, o, cap, hv, hbb, hcl⟩
   ·rw [hnil] at hlt
    simp at hlt
   injection hv with hv1 hv2 hv3
   subst hv1; subst hv3
   have hcell := hide (fun W (h : Below w.heap.size w W) => (h.cell (p := ⟨b, o + i, none⟩) (by simp; omega)).trans ((hL0w.cell (p := ⟨b, o + i, none⟩) (by simp; omega)).symm.trans (hcl i hlt)))
   have hxi := yF (by omega) HX.out i
   obtain ⟨X, hX⟩ := xe (lat x i)
   rw [← hX] at hcell hxi
   have HXE := hide hX; have HL0 := hide hL0b; have HW0 := hide hL0w; have HV0 := hide hL0v; have HN0 := hide hL0n; have HT0 := hide hL0t
   clear hcl hv2 hX hL0n hL0t hL0v hL0b hL0w hin hbb
   obtain ⟨wo, hwo⟩ := xe wr
   subst hwo
   go_wp2_with fail
   go_loopw [7, 8] (fun c j wr => ∃ (k C : Nat), k ≤ y.length + 1 ∧ j = .int .i64 k ∧ c = .int .i64 C ∧ C < 1000000 ∧ Hid (∃ L : List Nat, L.length = n ∧ Lt 1000000 L ∧ lv 1000000 L + 1000000 ^ (i + k) * C = lv 1000000 L0 + X * lvT 1000000 y k * 1000000 ^ i ∧ wr.heap[w.heap.size]? = some (rowO L) ∧ Below w.heap.size w wr)) (fun _ j _ => y.length + 1 - (intOf j).toNat)
   case atStart =>
    refine ⟨0, 0, Nat.zero_le _, rfl, rfl, by omega, L0, HN0.out, HT0.out, ?_, HL0.out, HW0.out⟩
    rw [qn]
    simp
   case round =>
    obtain ⟨k, C, hk, rfl, rfl, hC, hin⟩ := hrel
    obtain ⟨L, hLn, hLt, hLv, hLb, hLw⟩ := hin.out
    have hsz2 := yd hLb
    have hzero : y.length + 1 ≤ k → C = 0 := fun h => by
     have hk1 : k = y.length + 1 := by omega
     exact yaJ (by omega) HX.out HY.out hk1 (hLv.trans (vY HV0.out (X := X) HXE.out (k := k) (by omega)))
    have hdone : ¬ k < y.length → C = 0 → lv 1000000 L = lvT 1000000 x (i + 1) * lv 1000000 y := fun h h2 => by
     have htot := hLv.trans (vY HV0.out (X := X) HXE.out (k := k) (by omega))
     rw [h2] at htot
     simpa using htot
    rcases (show (k < y.length) ∨ (¬ k < y.length ∧ 0 < C) ∨ (¬ k < y.length ∧ C = 0) by omega) with h1 | ⟨h1, h2⟩ | ⟨h1, h2⟩
    case' inl =>
     have e4 : (k : Int) < (y.length : Int) := by omega
     have hkl : k < y.length + 1 := by omega
    case' inr.inl =>
     have e4 : ((k : Int) < (y.length : Int)) = False := eq_false (by omega)
     have e5 : 0 < C := h2
     have hkl : k < y.length + 1 := by
      rcases Nat.lt_or_ge k (y.length + 1) with h | h
      ·exact h
      ·have := hzero h
       omega
    rotate_right
    ·have e4 : ((k : Int) < (y.length : Int)) = False := eq_false (by omega)
     have HLE := hide (hdone h1 h2)
     subst h2
     have HLt := hide hLt; have HLn := hide hLn; have HLb := hide hLb; have HLw := hide hLw
     clear hLv hLt hLn hLb hLw hzero hdone hin h1
     go_wp2_with fail
     go_roundw
     case rel => exact ⟨i + 1, by omega, by go_num, L, HLn.out, HLt.out, HLE.out, HLb.out, HLw.out⟩
     case measure => simp [intOf]; omega
    all_goals
     have hik : i + k < L.length := by rw [hLn, HN.out]; omega
     have q1 := qL hLb hik
     have q2 := qQ hLb (i + k)
     have q3 := hcell.out wr hLw
     have hyk := yF (by omega) HY.out k
     have hlk := yF (by omega) hLt (i + k)
     have hlim := hide (fun m : Nat => qz (.slice a1 y.length c1) y k B (wr.drewN m) (HBB.out.below (below_drewN hLw m) hB) (by omega))
     obtain ⟨Y, hY⟩ := xe (lat y k)
     obtain ⟨Q, hQ⟩ := xe (lat L (i + k))
     rw [← hY] at hyk hlim
     rw [← hQ] at hlk q1
     obtain ⟨p, T, Dv, R, -, hpi, w2, w3, w4, hD, hR, hTl, hDl, hRl, hs⟩ := ydM hxi hyk hlk hC
     have w1 : IntKind.i64.wrap ((i : Int) + (k : Int)) = (i : Int) + (k : Int) := IntWalk.i64_in _ (by omega)
     have j0 : (0 : Int) ≤ (i : Int) + (k : Int) := by omega
     have j1 : (i : Int) + (k : Int) < (n : Int) := by have := HN.out; omega
     have j2 : ((i : Int) + (k : Int)).toNat = i + k := by omega
     have HLv := hide hLv; have HLt := hide hLt; have HLn := hide hLn; have HLb := hide hLb; have HLw := hide hLw; have HYE := hide hY; have HQE := hide hQ; have HIK := hide hik; have HS := hide hs; have HDE := hide hD
     clear hLv hLt hLn hLb hLw hY hQ hik hin hs hzero hdone h1
     go_wp2_with fail
     go_quiet ((go_at_call 245; exact Calls.quiet_of_same (hlim.out _)))
     clear w2 w3 w4 hpi hlim
     go_wp2_with fail
     go_roundw
     case rel =>
      refine ⟨k + 1, Dv, by omega, by go_num, by first | rfl | rw [HDE.out], hDl, L.set (i + k) R, by rw [List.length_set]; exact HLn.out, vG HLt.out hRl, ?_, ?_, ?_⟩
      ·rw [yy, ← HYE.out]
       have h1 := ygx (b := 1000000) R HIK.out
       rw [← HQE.out] at h1
       exact yaV HLv.out h1 HS.out
      ·exact vS (w := wr.drewN nq) HLb.out (i + k) _
      ·exact (below_drewN HLw.out nq).setCell (p := ⟨w.heap.size, i + k, none⟩) (Nat.le_refl _) _
     case measure => simp [intOf]; omega
  ·have e3 : ¬ (i : Int) < (x.length : Int) := by omega
   have HE := hide (show lv 1000000 L0 = lv 1000000 x * lv 1000000 y by rw [hL0v, zo (l := x) (i := i) (by omega)])
   have HT := hide (zy (some ⟨w.heap.size, 0, none⟩) n L0 wr.heap.size wr (by
    have := yV hL0b (by unfold maxLen; omega)
    rw [hL0n] at this ⊢
    exact this) (by omega) (by omega))
   rw [hL0n] at HT
   have HO := hide (zO hL0b (Nat.le_refl _) (by unfold maxLen; omega))
   have HLn := hide hL0n; have HLw := hide hL0w; have HLt := hide hL0t
   clear hL0n hL0t hL0v hL0b hL0w hin
   go_wp2_with fail
   refine HT.out.mono ?_
   rintro e w1 ⟨rfl, rfl⟩
   go_wp2_with fail
   go_ret
   refine ⟨trimL L0, ⟨_, rfl, HLw.out, ?_⟩, yB HLt.out, by rw [yR, HE.out], ?_⟩
   ·have hc := HO.out.cut (k := trimTo L0 n) (by rw [HLn.out]; exact yj _ _)
    rw [HLn.out] at hc
    unfold trimL
    rw [HLn.out]
    exact hc
   ·rw [yJ]
    have := yj L0 L0.length
    have := HLn.out
    have := HN.out
    omega

theorem ycD {R : Ending → World → Prop} {a : Act} {W : World} {b : Nat} {m : Bool} {v : Value} (hb : W.heap[b]? = some (.cells #[.bool m, v] 222 (0, 0)))
 (h2 : a.tmps[4]? = some (.pointer (some ⟨b, 0, none⟩))) (hd : a.defers = []) (hR : R (.returned (numV m v)) W) : bodyPost Tryz.prog Tryz.f207 R .ret a W := by
 have hcell := fun o => ya hb o
 refine bodyPost_ret ?_ hd hR
 simp [results, go_sem, hcell, h2]
theorem yN {w : World} {b b2 o : Nat} {u0 u1 : Value} (h : b ≠ b2) : ((w.setCell ⟨b, 0, none⟩ u0).setCell ⟨b, 1, none⟩ u1).cell? ⟨b2, o, none⟩ = w.cell? ⟨b2, o, none⟩ := by
 have h1 : ((w.setCell ⟨b, 0, none⟩ u0).setCell ⟨b, 1, none⟩ u1).heap[b2]? = w.heap[b2]? := (ye h).trans (ye h)
 simp only [World.cell?, h1]
theorem yG {w : World} {b2 o : Nat} {ob : Obj} (h : b2 < w.heap.size) : (w.alloc ob).cell? ⟨b2, o, none⟩ = w.cell? ⟨b2, o, none⟩ := by
 have h1 : (w.alloc ob).heap[b2]? = w.heap[b2]? := Below.heap_alloc _ _ _ h
 simp only [World.cell?, h1]
abbrev bigO (m : Bool) (v : Value) : Obj := .cells #[.bool m, v] 222
theorem zd {base nb : Nat} {W : World} {v u : Value} {m : Bool} {l : List Nat} (h : OwnL base W v l) (hb : W.heap[nb]? = some (bigO m u)) : ∀ r, v.ownBlock = some r → r ≠ nb := by
 intro r hr he
 subst he
 rcases h.2 with ⟨hv, _⟩ | ⟨g, cap, cur, hv, _, hh, _⟩
 ·rw [hv] at hr
  cases hr
 ·rw [hv] at hr
  injection hr with hr
  subst hr
  rw [hb] at hh
  injection hh with hh
  injection hh with _ ht _
  exact absurd ht (by decide)
theorem ye1 {m1 m2 : Bool} {x y : List Nat} {l : List Nat} (h : lv 1000000 l = lv 1000000 x * lv 1000000 y) (hl : l = []) : valS false (lv 1000000 l) = valS m1 (lv 1000000 x) * valS m2 (lv 1000000 y) := by
 rw [← yba, ← h, hl]
 cases m1 <;> cases m2 <;> rfl
theorem ygN (m1 m2 : Bool) (a1 a2 : Option Addr) (c1 c2 : Nat) (x y : List Nat) (w : World) (ha : LimbAt w.heap.size w (.slice a1 x.length c1) x) (hb : LimbAt w.heap.size w (.slice a2 y.length c2) y) (hx : Lt 1000000 x) (hy : Lt 1000000 y) (lx : x.length ≤ 90000) (ly : y.length ≤ 90000) :
 Calls Tryz.prog 207 #[numV m1 (.slice a1 x.length c1), numV m2 (.slice a2 y.length c2)] w (RNum (valS m1 (lv 1000000 x) * valS m2 (lv 1000000 y)) (x.length + y.length + 1) w) := by
 obtain ⟨b0, b1, b2, hs0, hB0⟩ := heap3 w (bigO m1 (.slice a1 x.length c1)) (bigO m2 (.slice a2 y.length c2)) (bigO false (.slice none 0 0))
 obtain ⟨w0, hw0⟩ : ∃ w0, ((w.alloc (bigO m1 (.slice a1 x.length c1))).alloc (bigO m2 (.slice a2 y.length c2))).alloc (bigO false (.slice none 0 0)) = w0 := ⟨_, rfl⟩
 rw [hw0] at b0 b1 b2 hs0 hB0
 have P0 := hide b0; have P1 := hide b1; have P2 := hide b2; have PB := hide hB0
 have k0 := ya b0 0
 have k1 := ya b0 1
 have k2 := ya b1 0
 have k3 := ya b1 1
 have hsz : w.heap.size + 2 < w0.heap.size := by omega
 have HT := hide (fun W (h : Below w.heap.size w W) => kr (.slice a1 x.length c1) (.slice a2 y.length c2) x y w.heap.size W (ha.below h (Nat.le_refl _)) (hb.below h (Nat.le_refl _)) h.size hx hy (by omega) (by omega))
 clear ha hb hs0 b0 b1 b2 hB0
 go_enter Tryz.func207, Tryz.ntmps207
 go_wp2_with fail
 have HB1 := hide (show Below w0.heap.size w0 w0.drew from (Below.refl _ _).drew)
 have HB2 := hide (show Below w0.heap.size w0 (w0.drew.alloc (bigO false (.slice none 0 0))) from (Below.refl _ _).drew.alloc (Nat.le_refl _) _)
 have HP2 := hide (show (w0.drew.alloc (bigO false (.slice none 0 0))).heap[w0.heap.size]? = some (bigO false (.slice none 0 0)) from heap_alloc_new w0.drew _)
 go_region_held3 (fun w' => w'.cell? ⟨w.heap.size, 0, none⟩ = some (.bool m1) ∧ w'.cell? ⟨w.heap.size, 1, none⟩ = some (.slice a1 x.length c1) ∧ w'.cell? ⟨w.heap.size + 1, 0, none⟩ = some (.bool m2) ∧ w'.cell? ⟨w.heap.size + 1, 1, none⟩ = some (.slice a2 y.length c2)) (first | exact ⟨k0, k1, k2, k3⟩ | exact ⟨d0, d1, d2, d3⟩ | exact ⟨(yN (by omega)).trans d0, (yN (by omega)).trans d1, (yN (by omega)).trans d2, (yN (by omega)).trans d3⟩ | exact ⟨(yG (by omega)).trans d0, (yG (by omega)).trans d1, (yG (by omega)).trans d2, (yG (by omega)).trans d3⟩ | exact ⟨(yN (by simp; omega)).trans ((yG (by omega)).trans d0), (yN (by simp; omega)).trans ((yG (by omega)).trans d1), (yN (by simp; omega)).trans ((yG (by omega)).trans d2), (yN (by simp; omega)).trans ((yG (by omega)).trans d3)⟩ | go_keep)
  (first
    |(go_at_call 210
      refine (HT.out (w0.drew.alloc (bigO false (.slice none 0 0))) (PB.out.trans (HB2.out.mono PB.out.size))).mono ?_
      rintro e w1 ⟨l3, ⟨v3, rfl, hb1, o3⟩, n3, q3, k3'⟩
      obtain ⟨av3, cv3, hvf, _, _⟩ := o3.form
      subst hvf
      have E1 := hide (show Below w0.heap.size w0 w1 from HB2.out.trans (hb1.mono HB2.out.size))
      have T1 := bh hb1 HP2
      have r0 := ya T1.out 0
      have r1 := ya T1.out 1
      have g0 := yf T1.out 0
      have g1 := yf T1.out 1
      have hsl := yd T1.out
      have D0 := hide (yc E1.out P0.out (by omega)); have D1 := hide (yc E1.out P1.out (by omega)); have D2 := hide (yc E1.out P2.out (by omega))
      obtain ⟨d0, d1, d2, d3⟩ : w1.cell? ⟨w.heap.size, 0, none⟩ = some (.bool m1) ∧ w1.cell? ⟨w.heap.size, 1, none⟩ = some (.slice a1 x.length c1) ∧ w1.cell? ⟨w.heap.size + 1, 0, none⟩ = some (.bool m2) ∧ w1.cell? ⟨w.heap.size + 1, 1, none⟩ = some (.slice a2 y.length c2) := ⟨ya D0.out 0, ya D0.out 1, ya D1.out 0, ya D1.out 1⟩
      have hs1 : w0.heap.size ≤ w1.heap.size := E1.out.size
      have O3 := hide o3; have N3 := hide n3; have Q3 := hide q3; have K3 := hide k3'
      clear hb1 o3 n3 q3 k3')
    |(go_at_call 210
      refine (HT.out w0.drew (PB.out.trans (HB1.out.mono PB.out.size))).mono ?_
      rintro e w1 ⟨l3, ⟨v3, rfl, hb1, o3⟩, n3, q3, k3'⟩
      obtain ⟨av3, cv3, hvf, _, _⟩ := o3.form
      subst hvf
      have E1 := hide (show Below w0.heap.size w0 w1 from HB1.out.trans (hb1.mono HB1.out.size))
      have D0 := hide (yc E1.out P0.out (by omega)); have D1 := hide (yc E1.out P1.out (by omega)); have D2 := hide (yc E1.out P2.out (by omega))
      obtain ⟨d0, d1, d2, d3⟩ : w1.cell? ⟨w.heap.size, 0, none⟩ = some (.bool m1) ∧ w1.cell? ⟨w.heap.size, 1, none⟩ = some (.slice a1 x.length c1) ∧ w1.cell? ⟨w.heap.size + 1, 0, none⟩ = some (.bool m2) ∧ w1.cell? ⟨w.heap.size + 1, 1, none⟩ = some (.slice a2 y.length c2) := ⟨ya D0.out 0, ya D0.out 1, ya D1.out 0, ya D1.out 1⟩
      have hs1 : w0.heap.size ≤ w1.heap.size := E1.out.size
      have O3 := hide o3; have N3 := hide n3; have Q3 := hide q3; have K3 := hide k3'
      clear hb1 o3 n3 q3 k3')
    |fail)
 case' _ =>
  have TT := hide (heap_alloc_new w1 (bigO (!(m1 == m2)) (.slice av3 l3.length cv3)))
  have EE := hide (E1.out.alloc hs1 (bigO (!(m1 == m2)) (.slice av3 l3.length cv3)))
  have OO := hide ((O3.out.mono PB.out.size).keep ((Below.refl _ _).alloc (Nat.le_refl _) (bigO (!(m1 == m2)) (.slice av3 l3.length cv3))))
  obtain ⟨W, hW⟩ : ∃ W, w1.alloc (bigO (!(m1 == m2)) (.slice av3 l3.length cv3)) = W := ⟨_, rfl⟩
  rw [hW] at TT EE OO ⊢
  obtain ⟨nb, hnb⟩ : ∃ nb, w1.heap.size = nb := ⟨_, rfl⟩
  rw [hnb] at TT hs1 ⊢
  have hnb0 : w0.heap.size ≤ nb := hs1
 rotate_left
 case' _ =>
  obtain ⟨s1, s2⟩ := set2 T1.out (.bool (!(m1 == m2))) (.slice av3 l3.length cv3)
  have TT := hide s1
  have EE := hide (E1.out.trans s2)
  have OO := hide (((O3.out.other (p := ⟨w0.heap.size, 0, none⟩) (by simp) (.bool (!(m1 == m2)))).other (p := ⟨w0.heap.size, 1, none⟩) (by simp) (.slice av3 l3.length cv3)).mono (show w.heap.size ≤ _ by have := PB.out.size; simp; omega))
  clear r0 r1 g0 g1 T1 s1 s2
  obtain ⟨W, hW⟩ : ∃ W, (w1.setCell ⟨w0.heap.size, 0, none⟩ (.bool (!(m1 == m2)))).setCell ⟨w0.heap.size, 1, none⟩ (.slice av3 l3.length cv3) = W := ⟨_, rfl⟩
  rw [hW] at TT EE OO ⊢
  obtain ⟨nb, hnb⟩ : ∃ nb, w0.heap.size = nb := ⟨_, rfl⟩
  rw [hnb] at TT ⊢
  have hnb0 : w0.heap.size ≤ nb := by omega
 all_goals
  have r0 := ya TT.out 0
  have r1 := ya TT.out 1
  have g0 := yf TT.out 0
  have hsl := yd TT.out
  have RR := hide (yc EE.out P2.out (by omega))
  have s0 := ya RR.out 0
  have s1 := ya RR.out 1
  have z0 := yf RR.out 0
  have z1 := yf RR.out 1
  have hsr := yd RR.out
  clear O3 E1 D0 D1 D2 d0 d1 d2 d3 k0 k1 k2 k3 HB1 HB2 HP2 HT hW hnb P0 P1 P2 hw0
  have hne : ¬ w.heap.size + 2 = nb := by omega
  by_cases h0 : l3 = []
  ·have hl0 : ((l3.length : Int) == 0) = true := by rw [h0]; rfl
   have HL0 := hide h0
   clear h0
   go_wp2_with fail
   obtain ⟨y1, y2⟩ := set1 TT.out (.bool false)
   have RR2 := (ye (w := W) (k := 0) (v := .bool false) (show nb ≠ w.heap.size + 2 by omega)).trans RR.out
   obtain ⟨y3, y4⟩ := set2 RR2 (.bool false) (.slice av3 l3.length cv3)
   refine ycD y3 rfl rfl ⟨false, _, l3, rfl, ?_, ?_, N3.out, ye1 Q3.out HL0.out, K3.out⟩
   ·exact PB.out.trans ((EE.out.trans (y2.mono hnb0)).mono PB.out.size |>.trans (y4.mono (by omega)))
   ·exact yO OO.out (fun r hr => by
     have := zd OO.out TT.out r hr
     have := zd OO.out RR.out r hr
     rw [ye (by omega), ye (by omega), ye (by omega)])
  ·have hl0 : ((l3.length : Int) == 0) = false := by
    have : l3.length ≠ 0 := fun h => h0 (List.eq_nil_of_length_eq_zero h)
    simp only [beq_eq_false_iff_ne, ne_eq]
    omega
   have HL0 := hide h0
   clear h0
   go_wp2_with fail
   obtain ⟨y3, y4⟩ := set2 RR.out (.bool (!(m1 == m2))) (.slice av3 l3.length cv3)
   refine ycD y3 rfl rfl ⟨_, _, l3, rfl, ?_, ?_, N3.out, by rw [Q3.out, yba], K3.out⟩
   ·exact PB.out.trans (EE.out.mono PB.out.size |>.trans (y4.mono (by omega)))
   ·exact yO OO.out (fun r hr => by
     have := zd OO.out RR.out r hr
     rw [ye (by omega), ye (by omega)])
end Go.Proofs.YtklgpilgalfckaaGreatDoor
