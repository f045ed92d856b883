/-
  Texts laid together.
-/
import Derived.Test.YtklgpilgalfckaaGreatDoorMJ16
import Derived.Test.YtklgpilgalfckaaGreatDoorMJ17
import Derived.ChangeSame
import Derived.ChangeSlices
import Derived.Deep.Fields
import Derived.Deep.Slices
import Derived.Lib.SmallJoins
set_option maxRecDepth 100000
set_option maxHeartbeats 16000000
namespace Go.Proofs.YtklgpilgalfckaaGreatDoor
open Go.RowKit Go.KP Go.KI Go.Shelf
attribute [local go_sem] Oper.semAt_some

theorem ofV_mem (l : Ln) (wd dp : Int) : ∃ (k f o : Int) (a b : S3) (x y : Int), ofV l wd dp = memTV k f o a b x y := by
  obtain ⟨k, f, o, a, b, x, y, h, _⟩ := ofV_form l wd dp
  exact ⟨k, f, o, a, b, x, y, h⟩
theorem lawLines_any (A : Option Addr) (n c : Nat) (L : List Ln) (A2 : Option Addr) (m c2 : Nat) (S : List Sz3) (wd dp : Int) (B : Nat) (w : World) (hB : B ≤ w.heap.size) (hT : PQ B w) (hn : L.length = n) (hm : S.length = m) (hnx : n ≤ 9223372036854775807) (hmx : m ≤ 9223372036854775807) (hcap : m ≤ c2)
    (hc : LinesAt w A L) (hc2 : SizesAt w A2 S) :
    Calls Tryz.prog 3 #[.slice A n c, .slice A2 m c2, .int .i64 wd, .int .i64 dp] w (Ret w (.bool true)) := by
  have HT := hide hT
  have HAW := hide (fun w hB hT => hawake_any B w hB hT)
  have HG := hide (greatLines_any A n c L w hn hnx hc)
  have HC := hide hc; have HC2 := hide hc2; have HN := hide hn; have HM := hide hm
  clear hT hc hc2 hn hm
  by_cases hf : fewL L
  rotate_left
  · rw [decide_eq_true hf] at HG
    clear hf
    go_enter Tryz.func3, Tryz.ntmps3
    go_wp2_with fail
    refine HG.out.mono ?_
    rintro e w1 ⟨rfl, hb1⟩
    have HB1 := hide hb1
    clear hb1
    go_wp2_with fail
    refine (HAW.out _ (Nat.le_trans hB HB1.out.size) (HT.out.on HB1.out hB)).mono ?_
    rintro e w2 ⟨rfl, hb2⟩
    have HB2 := hide (HB1.out.trans (hb2.mono HB1.out.size))
    clear hb2
    go_wp2_with fail
    go_ret
    exact ⟨rfl, HB2.out⟩
  rw [decide_eq_false (fun e => e hf)] at HG
  have HF := hide hf
  have h60 : n ≤ 60 := by have := hf.1; have := HN.out; omega
  clear hf
  by_cases h14 : m ≤ 14
  rotate_left
  · have g : (14 : Int) < (m : Int) := by omega
    clear h14
    go_enter Tryz.func3, Tryz.ntmps3
    go_wp2_with fail
    refine HG.out.mono ?_
    rintro e w1 ⟨rfl, hb1⟩
    have HB1 := hide hb1
    clear hb1
    go_wp2_with fail
    refine (HAW.out _ (Nat.le_trans hB HB1.out.size) (HT.out.on HB1.out hB)).mono ?_
    rintro e w2 ⟨rfl, hb2⟩
    have HB2 := hide (HB1.out.trans (hb2.mono HB1.out.size))
    clear hb2
    go_wp2_with fail
    go_ret
    exact ⟨rfl, HB2.out⟩
  have g : ((14 : Int) < (m : Int)) = False := eq_false (by omega)
  go_enter Tryz.func3, Tryz.ntmps3
  go_wp2_with fail
  refine HG.out.mono ?_
  rintro e w1 ⟨rfl, hb1⟩
  have HB1 := hide hb1
  clear hb1
  go_wp2_with fail
  clear g
  go_loopw [29] (fun i wr => ∃ k : Nat, k ≤ n ∧ i = .int .i64 k ∧ Hid (Below w.heap.size w wr)) (fun i _ => n - (intOf i).toNat)
  case atStart => exact ⟨0, Nat.zero_le _, rfl, HB1⟩
  case round =>
    obtain ⟨k, hk, rfl, hb⟩ := hrel
    by_cases hlt : k < n
    · have hki : (k : Int) < (n : Int) := by omega
      obtain ⟨b, o, rfl, hbl, hcell⟩ := HC.out k (by rw [HN.out]; exact hlt)
      have ht := HF.out.2 k (by rw [HN.out]; exact hlt)
      obtain ⟨z, hz⟩ : ∃ z, z = lnAt L k := ⟨_, rfl⟩
      rw [← hz] at hcell ht
      have hcell := fun j u (h : (lnCs z)[j]? = some u) => (hb.out.cell (p := ⟨b, o + k * 9 + j, none⟩) hbl).trans (hcell j u h)
      have r0 : wr.cell? ⟨b, o + k * 9, none⟩ = some (.int .i64 z.k) := hcell 0 _ rfl
      have r1 : wr.cell? ⟨b, o + k * 9 + 1, none⟩ = some (.string z.a.x) := hcell 1 _ rfl
      have r2 : wr.cell? ⟨b, o + k * 9 + 2, none⟩ = some (.string z.a.y) := hcell 2 _ rfl
      have r3 : wr.cell? ⟨b, o + k * 9 + 3, none⟩ = some (.string z.a.z) := hcell 3 _ rfl
      have r4 : wr.cell? ⟨b, o + k * 9 + 4, none⟩ = some (.string z.b.x) := hcell 4 _ rfl
      have r5 : wr.cell? ⟨b, o + k * 9 + 5, none⟩ = some (.string z.b.y) := hcell 5 _ rfl
      have r6 : wr.cell? ⟨b, o + k * 9 + 6, none⟩ = some (.string z.b.z) := hcell 6 _ rfl
      have r7 : wr.cell? ⟨b, o + k * 9 + 7, none⟩ = some (.int .i64 z.l) := hcell 7 _ rfl
      have r8 : wr.cell? ⟨b, o + k * 9 + 8, none⟩ = some (.int .i64 z.r) := hcell 8 _ rfl
      have HO1 := hide (fun w hB hT => hOf_any z wd dp ht B w hB hT)
      have HO2 := hide (fun w hB hT => r28Of_any z wd dp ht B w hB hT)
      obtain ⟨mk, mf, mo, ma, mb, mx, my, hv⟩ := ofV_mem z wd dp
      rw [hv] at HO1 HO2
      have he := fun w => eqMem_same mk mf mo mx my ma.x ma.y ma.z mb.x mb.y mb.z w
      obtain ⟨E, hE⟩ : ∃ E, E = ofE z wd dp := ⟨_, rfl⟩
      rw [← hE] at HO1 HO2
      have X0 := hide (heap1 wr (lnO z))
      have HB0 := hide (hb.out.trans (X0.out.2.2.mono hb.out.size))
      have HE := hide he
      clear hcell ht hz hv hE he
      go_wp2_with fail
      refine (HO1.out _ (Nat.le_trans hB HB0.out.size) (HT.out.on HB0.out hB)).mono ?_
      rintro e w2 ⟨rfl, hb2⟩
      have Y := hide (heap1 w2 (memTO mk mf mo ma mb mx my))
      have hb2 := hb2.trans (Y.out.2.2.mono hb2.size)
      have G0 := hide (below_blk hb2 X0.out.1 (lt_blk X0.out.1))
      have HB2 := hide (HB0.out.trans (hb2.mono HB0.out.size))
      clear hb2 r0 r1 r2 r3 r4 r5 r6 r7 r8
      have d := fun o => cell_blk G0.out o
      have ld := lt_blk G0.out
      go_wp2_with fail
      refine (HO2.out _ (Nat.le_trans hB HB2.out.size) (HT.out.on HB2.out hB)).mono ?_
      rintro e w3 ⟨rfl, hb3⟩
      have Y3 := hide (heap1 w3 (memTO mk mf mo ma mb mx my))
      have hb3 := hb3.trans (Y3.out.2.2.mono hb3.size)
      have G1 := hide (below_blk hb3 Y.out.1 (lt_blk Y.out.1))
      have G2 := hide Y3.out.1
      have HB3 := hide (HB2.out.trans (hb3.mono HB2.out.size))
      clear hb3 d ld
      have c1 := fun o => cell_blk G1.out o
      have l1 := lt_blk G1.out
      have he := HE.out
      go_wp2_with fail
      go_roundw
      case rel => exact ⟨k + 1, by omega, by go_num, HB3⟩
      case measure => simp [intOf]; omega
    · have hki : ((k : Int) < (n : Int)) = False := eq_false (by omega)
      clear hlt
      have HR := hide (fun w (hb : Below B w w) => hb)
      have X0 := hide (heap1 wr (roofO A n c))
      have HA1 := hide (fun w2 (h : Below w.heap.size w w2) => hAll_any A n c L A2 m c2 S B w2 (Nat.le_trans hB h.size) (HT.out.on h hB) HN.out HM.out h60 (by omega) hcap HF.out (HC.out.on h) (HC2.out.on h))
      have HA2 := hide (fun w2 (h : Below w.heap.size w w2) => r28All_any A n c L A2 m c2 S B w2 (Nat.le_trans hB h.size) (HT.out.on h hB) HN.out HM.out h60 (by omega) HF.out (HC.out.on h) (HC2.out.on h))
      have HX := hide (show (allX S L).length ≤ 1000000 by
        unfold allX
        split
        · have := outL_le S L; have := HN.out; omega
        · simp)
      obtain ⟨E, hE⟩ : ∃ E, E = allE S L := ⟨_, rfl⟩
      have HE := hide hE
      clear hE
      go_wp2_with fail
      refine (HA1.out _ hb.out).mono ?_
      rintro e w4 ⟨v1, rfl, hs1, hb4⟩
      rw [← HE.out]
      have HB4 := hide (hb.out.trans (hb4.mono hb.out.size))
      have HS1 := hide hs1
      clear hb4 hs1
      go_wp2_with fail
      refine (HA2.out _ HB4.out).mono ?_
      rintro e w5 ⟨v2, rfl, hs2, hb5⟩
      rw [← HE.out]
      have HB5 := hide (HB4.out.trans (hb5.mono HB4.out.size))
      have HSM := hide (sameMems_any (allX S L) HX.out v1 v2 w5.heap.size w5 (Nat.le_refl _) ((HS1.out.below hb5 (Nat.le_refl _)).mono hb5.size) hs2)
      clear hb5 hs2
      go_wp2_with fail
      refine HSM.out.mono ?_
      rintro e w6 ⟨rfl, hb6⟩
      have HB6 := hide (HB5.out.trans (hb6.mono HB5.out.size))
      clear hb6
      go_wp2_with fail
      refine (HAW.out _ (Nat.le_trans hB HB6.out.size) (HT.out.on HB6.out hB)).mono ?_
      rintro e w7 ⟨rfl, hb7⟩
      have HB7 := hide (HB6.out.trans (hb7.mono HB6.out.size))
      clear hb7
      go_wp2_with fail
      go_ret
      exact ⟨rfl, HB7.out⟩
open Go.Joins Go.ChangeShapes Go.WideShapes Go.RowKit Go.Deep Go.KP Go.KI

theorem list_of {α : Type} (z : α) (P : Nat → α → Prop) : ∀ n : Nat, (∀ i, i < n → ∃ x, P i x) → ∃ l : List α, l.length = n ∧ ∀ i, i < n → P i (l.getD i z) := by
  intro n
  induction n with
  | zero => intro _; exact ⟨[], rfl, fun i hi => by omega⟩
  | succ n ih =>
    intro h
    obtain ⟨l, hl, hp⟩ := ih (fun i hi => h i (by omega))
    obtain ⟨x, hx⟩ := h n (by omega)
    refine ⟨l ++ [x], by simp [hl], fun i hi => ?_⟩
    simp only [List.getD_eq_getElem?_getD] at hp ⊢
    by_cases hin : i = n
    · subst hin
      have e : (l ++ [x])[i]?.getD z = x := by rw [← hl]; simp
      rw [e]
      exact hx
    · have e : (l ++ [x])[i]?.getD z = l[i]?.getD z := by rw [List.getElem?_append_left (by omega)]
      rw [e]
      exact hp i (by omega)
theorem cell_ltB {w : World} {a : Addr} {n : Nat} {v : Value} (h : w.cell? (a.add n) = some v) : a.block < w.heap.size := by
  unfold World.cell? at h
  rcases Nat.lt_or_ge (a.add n).block w.heap.size with h1 | h1
  · have e : (a.add n).block = a.block := by unfold Addr.add; split <;> rfl
    rw [e] at h1
    exact h1
  · rw [Array.getElem?_eq_none h1] at h
    cases h
section
variable {H : Type} {enc : TypeId × Value → H} {W : World} {base : Nat} {spare : Nat → Bool} {held : Bool}
theorem rows_open {α : Type} (z : α) (f : α → List Value) (C : Nat) (hf : ∀ x, (f x).length = C) (hC0 : 0 < C) {t e : TypeId} {fuel : Nat} {v : Value} {x : DataW H × List MemPlace} (ht : Tryz.prog.underlying t = some (.slice e)) (hC : Tryz.prog.cellsOf e = C)
    (hE : ∀ (n : Nat) (cs : List Value) (y : DataW H × List MemPlace), DataW.trod enc Tryz.prog W base spare held n e cs = some y → ∃ a, cs = f a)
    (h : DataW.trod enc Tryz.prog W base spare held fuel t [v] = some x) :
    ∃ (l : List α) (A : Option Addr) (c : Nat), v = .slice A l.length c ∧ l.length ≤ c ∧ l.length ≤ maxLen ∧ ∀ k, k < l.length → ∃ b o, A = some ⟨b, o, none⟩ ∧ b < W.heap.size ∧ ∀ j u, (f (l.getD k z))[j]? = some u → W.cell? ⟨b, o + k * C + j, none⟩ = some u := by
  rcases open_slice ht h with ⟨h0, _⟩ | ⟨a, len, cap, m, n, D, Pl, hcs, _, hl, hcm, hm, _, hi⟩
  · have hv : v = .slice none 0 0 := by simpa using h0
    exact ⟨[], none, 0, hv, Nat.le_refl _, Nat.zero_le _, fun k hk => absurd hk (by simp)⟩
  · have hv : v = .slice (some a) len cap := by simpa using hcs
    subst hv
    have hml : len ≤ m := by rw [hm]; split <;> omega
    have hall : ∀ i, i < len → ∃ q : α, ∀ j, j < C → W.cell? (a.add (i * C + j)) = (f q)[j]? := by
      intro i hil
      obtain ⟨cs', hc, ht'⟩ := hi i (by omega)
      rw [hC] at hc
      obtain ⟨q, hq⟩ := hE _ _ _ ht'
      obtain ⟨_, hcl, hat⟩ := World.cells?_some hc
      refine ⟨q, fun j hj => ?_⟩
      rw [← hq, ← hat j hj, Go.Deep.add_add]
    rcases Nat.eq_zero_or_pos len with h0 | hpos
    · subst h0
      exact ⟨[], some a, cap, rfl, Nat.zero_le _, Nat.zero_le _, fun k hk => absurd hk (by simp)⟩
    · obtain ⟨q0, hq0⟩ := hall 0 hpos
      have hc0 := hq0 0 hC0
      have hs0 : (f q0)[0]? = some ((f q0)[0]'(by rw [hf]; exact hC0)) := List.getElem?_eq_getElem (by rw [hf]; exact hC0)
      rw [hs0] at hc0
      have hsp := World.cell?_spot hc0
      have hlt : a.block < W.heap.size := cell_ltB hc0
      obtain ⟨b, o, sp⟩ := a
      have : sp = none := by simpa [Addr.add] using hsp
      subst this
      obtain ⟨l, hll, hlp⟩ := list_of z _ len hall
      refine ⟨l, some ⟨b, o, none⟩, cap, by rw [hll], by omega, by omega, fun k hk => ⟨b, o, rfl, hlt, fun j u hu => ?_⟩⟩
      have hj : j < C := by have := (List.getElem?_eq_some_iff.1 hu).1; rw [hf] at this; exact this
      have h9 := hlp k (by omega) j hj
      rw [Addr.add_lit, hu] at h9
      rw [Nat.add_assoc]
      exact h9
theorem int_cell {n : Nat} {v : Value} {y : DataW H × List MemPlace} (h : DataW.trod enc Tryz.prog W base spare held n 3 [v] = some y) : ∃ k : Int, v = .int .i64 k := by
  obtain ⟨k, e, _, _⟩ := DataW.trod_int Tryz.underlying3 h
  exact ⟨k, by simpa using e⟩
theorem num_cell {n : Nat} {v : Value} {y : DataW H × List MemPlace} (h : DataW.trod enc Tryz.prog W base spare held n 26 [v] = some y) : ∃ s : ByteArray, v = .string s := by
  obtain ⟨k, e, _, _⟩ := DataW.trod_string Tryz.underlying26 h
  exact ⟨k, by simpa using e⟩
theorem size_cells (n : Nat) (cs : List Value) (y : DataW H × List MemPlace) (h : DataW.trod enc Tryz.prog W base spare held n 59 cs = some y) : ∃ s : Sz3, cs = [.int .i64 s.1, .int .i64 s.2.1, .int .i64 s.2.2] := by
  obtain ⟨xs, n', _, _, hlen, hxl, hf⟩ := DataW.trod_struct Tryz.underlying59 h
  have hC : Tryz.prog.cellsOf 59 = 3 := by kernel_rfl
  have k3 : Tryz.prog.cellsOf 3 = 1 := by kernel_rfl
  rw [hC] at hlen
  match cs, hlen with
  | [c0, c1, c2], _ =>
    match xs, hxl with
    | [x0, x1, x2], _ =>
      have f0 : DataW.trod enc Tryz.prog W base spare held n' 3 (([c0, c1, c2].drop 0).take (Tryz.prog.cellsOf 3)) = some x0 := hf 0 _ rfl
      have f1 : DataW.trod enc Tryz.prog W base spare held n' 3 (([c0, c1, c2].drop 1).take (Tryz.prog.cellsOf 3)) = some x1 := hf 1 _ rfl
      have f2 : DataW.trod enc Tryz.prog W base spare held n' 3 (([c0, c1, c2].drop 2).take (Tryz.prog.cellsOf 3)) = some x2 := hf 2 _ rfl
      rw [k3] at f0 f1 f2
      obtain ⟨a, rfl⟩ := int_cell (v := c0) f0
      obtain ⟨b, rfl⟩ := int_cell (v := c1) f1
      obtain ⟨c, rfl⟩ := int_cell (v := c2) f2
      exact ⟨(a, b, c), rfl⟩
theorem spot_cells (n : Nat) (cs : List Value) (y : DataW H × List MemPlace) (h : DataW.trod enc Tryz.prog W base spare held n 28 cs = some y) : ∃ a : S3, cs = [.string a.x, .string a.y, .string a.z] := by
  obtain ⟨xs, n', _, _, hlen, hxl, hf⟩ := DataW.trod_struct Tryz.underlying28 h
  have hC : Tryz.prog.cellsOf 28 = 3 := by kernel_rfl
  have k3 : Tryz.prog.cellsOf 26 = 1 := by kernel_rfl
  rw [hC] at hlen
  match cs, hlen with
  | [c0, c1, c2], _ =>
    match xs, hxl with
    | [x0, x1, x2], _ =>
      have f0 : DataW.trod enc Tryz.prog W base spare held n' 26 (([c0, c1, c2].drop 0).take (Tryz.prog.cellsOf 26)) = some x0 := hf 0 _ rfl
      have f1 : DataW.trod enc Tryz.prog W base spare held n' 26 (([c0, c1, c2].drop 1).take (Tryz.prog.cellsOf 26)) = some x1 := hf 1 _ rfl
      have f2 : DataW.trod enc Tryz.prog W base spare held n' 26 (([c0, c1, c2].drop 2).take (Tryz.prog.cellsOf 26)) = some x2 := hf 2 _ rfl
      rw [k3] at f0 f1 f2
      obtain ⟨a, rfl⟩ := num_cell (v := c0) f0
      obtain ⟨b, rfl⟩ := num_cell (v := c1) f1
      obtain ⟨c, rfl⟩ := num_cell (v := c2) f2
      exact ⟨⟨a, b, c⟩, rfl⟩
theorem line_cells (n : Nat) (cs : List Value) (y : DataW H × List MemPlace) (h : DataW.trod enc Tryz.prog W base spare held n 30 cs = some y) : ∃ l : Ln, cs = lnCs l := by
  obtain ⟨xs, n', _, _, hlen, hxl, hf⟩ := DataW.trod_struct Tryz.underlying30 h
  have hC : Tryz.prog.cellsOf 30 = 9 := by kernel_rfl
  have k3 : Tryz.prog.cellsOf 3 = 1 := by kernel_rfl
  have k28 : Tryz.prog.cellsOf 28 = 3 := by kernel_rfl
  rw [hC] at hlen
  match cs, hlen with
  | [c0, c1, c2, c3, c4, c5, c6, c7, c8], _ =>
    match xs, hxl with
    | [x0, x1, x2, x3, x4], _ =>
      have f0 : DataW.trod enc Tryz.prog W base spare held n' 3 (([c0, c1, c2, c3, c4, c5, c6, c7, c8].drop 0).take (Tryz.prog.cellsOf 3)) = some x0 := hf 0 _ rfl
      have f1 : DataW.trod enc Tryz.prog W base spare held n' 28 (([c0, c1, c2, c3, c4, c5, c6, c7, c8].drop 1).take (Tryz.prog.cellsOf 28)) = some x1 := hf 1 _ rfl
      have f2 : DataW.trod enc Tryz.prog W base spare held n' 28 (([c0, c1, c2, c3, c4, c5, c6, c7, c8].drop 4).take (Tryz.prog.cellsOf 28)) = some x2 := hf 2 _ rfl
      have f3 : DataW.trod enc Tryz.prog W base spare held n' 3 (([c0, c1, c2, c3, c4, c5, c6, c7, c8].drop 7).take (Tryz.prog.cellsOf 3)) = some x3 := hf 3 _ rfl
      have f4 : DataW.trod enc Tryz.prog W base spare held n' 3 (([c0, c1, c2, c3, c4, c5, c6, c7, c8].drop 8).take (Tryz.prog.cellsOf 3)) = some x4 := hf 4 _ rfl
      rw [k3] at f0 f3 f4
      rw [k28] at f1 f2
      obtain ⟨k, rfl⟩ := int_cell (v := c0) f0
      obtain ⟨a, ha⟩ := spot_cells _ [c1, c2, c3] _ f1
      obtain ⟨b, hb⟩ := spot_cells _ [c4, c5, c6] _ f2
      obtain ⟨l, rfl⟩ := int_cell (v := c7) f3
      obtain ⟨r, rfl⟩ := int_cell (v := c8) f4
      simp only [List.cons.injEq, and_true] at ha hb
      obtain ⟨rfl, rfl, rfl⟩ := ha
      obtain ⟨rfl, rfl, rfl⟩ := hb
      exact ⟨⟨k, a, b, l, r⟩, rfl⟩
theorem lines_open {r : Reach} {b0 : Nat} {v : Value} {d : DataW H} {p : List MemPlace} (hv : Value.okWide Tryz.prog W r b0 22 v) (h : DataW.Trod enc Tryz.prog W base spare held 22 v d p) : ∃ (L : List Ln) (A : Option Addr) (c : Nat), v = .slice A L.length c ∧ L.length ≤ maxLen ∧ LinesAt W A L := by
  obtain ⟨a, l, c, rfl⟩ := okWide_slice Tryz.underlying22 hv
  obtain ⟨fuel, hf⟩ := h
  obtain ⟨L, A, c, e, _, hm, hr⟩ := rows_open ln0 lnCs 9 (fun _ => rfl) (by decide) Tryz.underlying22 (by kernel_rfl) line_cells hf
  exact ⟨L, A, c, e, hm, hr⟩
theorem sizes_open {r : Reach} {b0 : Nat} {v : Value} {d : DataW H} {p : List MemPlace} (hv : Value.okWide Tryz.prog W r b0 23 v) (h : DataW.Trod enc Tryz.prog W base spare held 23 v d p) : ∃ (S : List Sz3) (A : Option Addr) (c : Nat), v = .slice A S.length c ∧ S.length ≤ c ∧ S.length ≤ maxLen ∧ SizesAt W A S := by
  obtain ⟨a, l, c, rfl⟩ := okWide_slice Tryz.underlying23 hv
  obtain ⟨fuel, hf⟩ := h
  obtain ⟨S, A, c, e, hc, hm, hr⟩ := rows_open (0, 0, 0) (fun s : Sz3 => [Value.int .i64 s.1, .int .i64 s.2.1, .int .i64 s.2.2]) 3 (fun _ => rfl) (by decide) Tryz.underlying23 (by kernel_rfl) size_cells hf
  refine ⟨S, A, c, e, hc, hm, fun k hk => ?_⟩
  obtain ⟨b, o, h1, h2, h3⟩ := hr k hk
  exact ⟨b, o, h1, h2, h3 0 _ rfl, h3 1 _ rfl, h3 2 _ rfl⟩
end
end Go.Proofs.YtklgpilgalfckaaGreatDoor
