/-
  stock.Print: the walk.
-/
import Derived.Test.YtfljmbdnnjjmoaaDoorS7
import Derived.Test.YtfljmbdnnjjmoaaDoorS8
import Derived.Lib.AppendIntMem
import Derived.Lib.ItoaLen
import Derived.Test.YtfljmbdnnjjmoaaDoorPrefix
namespace Go.Proofs.YtfljmbdnnjjmoaaDoor
open Go.RowKit Go.KP Go.Shelf

abbrev P10 (B : Nat) (w : World) : Prop := Lib.TabBelow Tryd.prog B w "internal/strconv.uint64pow10" .u64 Lib.pow10Tab
theorem below_grow (w : World) (n : Nat) (os : Array Obj) : Below w.heap.size w (Go.Sort.grow (w.drewN n) os) :=
  ⟨rfl, rfl, rfl, by show w.heap.size ≤ (w.heap ++ os).size; rw [Array.size_append]; omega, fun j hj => by
    show (w.heap ++ os)[j]? = w.heap[j]?
    rw [Array.getElem?_append_left hj]⟩

def itoaB (n : Int) : ByteArray := ⟨(Lib.itoa n).toArray⟩
theorem itoa_any (n : Int) (h0 : -9223372036854775808 ≤ n) (h1 : n ≤ 9223372036854775807) (B : Nat) (w : World) (hT : P10 B w) :
    Calls Tryd.prog 58 #[.int .i64 n] w fun e w' => e = .returned (.string (itoaB n)) ∧ Below w.heap.size w w' :=
  (Tryd.strconv_Itoa n h0 h1 w hT.here).mono fun e w' ⟨h, k, os, hw⟩ => ⟨h, by rw [hw]; exact below_grow w k os⟩

/-- The words of a bar's text. -/
def brWords (b : Br) : List ByteArray := [itoaB b.wd, itoaB b.dp, itoaB b.ln, itoaB b.ct, itoaB b.cs] ++ b.gs.map fun g => itoaB g.1 ++ ⟨#[45]⟩ ++ itoaB g.2
def brLine (b : Br) : List UInt8 := Lib.join ((brWords b).map (·.data.toList)) [32] ++ [10]
def brText (l : List Br) : List UInt8 := l.flatMap brLine

instance (n : Nat) (w : World) : Nonempty (Of (Below n w)) := ⟨⟨w, Below.refl n w⟩⟩
theorem itoa_cls (m : Int) (h0 : -9223372036854775808 ≤ m) (h1 : m ≤ 9223372036854775807) (B n : Nat) (w0 : World) (hT : P10 B w0) (hB : B ≤ n) (hn : n ≤ w0.heap.size) (x : Of (Below n w0)) :
    Calls Tryd.prog 58 #[.int .i64 m] x.w fun e w' => e = .returned (.string (itoaB m)) ∧ Cls (Below n w0) w' :=
  (itoa_any m h0 h1 B x.w (hT.on (x.h.mono hB))).mono fun _ _ ⟨h, hb⟩ => ⟨h, Cls.mk (x.h.trans (hb.mono (by have := x.h.size; omega)))⟩

theorem IsBuilder_below {T e : TypeId} {B b : Nat} {bs : List Value} {w w2 : World} (h : Lib.IsBuilder T e B b bs w) (hb : Below w.heap.size w w2) : Lib.IsBuilder T e B b bs w2 := by
  have key : ∀ p, Lib.BuilderAt T e B b p bs w → Lib.BuilderAt T e B b p bs w2 := by
    rintro p ⟨h1, v, h2, h3, h4⟩
    exact ⟨h1, v, (hb.block b (lt_blk h2)).trans h2, owns_stay h3 (fun r hr => hb.block r (h3.lt r hr).2), h4⟩
  exact h.imp (key _) (key _)

theorem info9 : (Tryd.prog.info? 9).map (fun i => (i.zero, i.size, i.bytes)) = some (some (.string ⟨#[]⟩), 1, 16) := by kernel_rfl

theorem chk_head {b : Br} (h : b.chk = 0) : (1 ≤ b.wd ∧ b.wd ≤ 1000) ∧ (1 ≤ b.dp ∧ b.dp ≤ 1000) ∧ (1 ≤ b.ln ∧ b.ln ≤ 65536) ∧ (0 ≤ b.ct ∧ b.ct ≤ 65536) ∧ (0 ≤ b.cs ∧ b.cs ≤ 1073741824) := by
  have h1 := (chk_zero.1 h).1
  simp only [headOk, Bool.and_eq_true] at h1
  obtain ⟨⟨⟨⟨h1, h2⟩, h3⟩, h4⟩, h5⟩ := h1
  exact ⟨btw_iff.1 h1, btw_iff.1 h2, btw_iff.1 h3, (btw_iff.1 h4).imp id (fun h => by omega), btw_iff.1 h5⟩

theorem okFrom_at : ∀ (gs : List (Int × Int)) (ln q : Int), 0 ≤ q → okFrom ln q gs → ∀ i, i < gs.length → 0 ≤ gF gs i ∧ gF gs i < gT gs i ∧ gT gs i ≤ ln := by
  intro gs
  induction gs with
  | nil => intro ln q _ _ i hi; simp at hi
  | cons g r ih =>
    intro ln q h0 h i hi
    obtain ⟨h1, h2, h3, h4⟩ := h
    cases i with
    | zero => simp [gF, gT]; omega
    | succ i => simpa [gF, gT] using ih ln (g.2 + 1) (by omega) h4 i (by simpa using hi)
theorem chk_gap {b : Br} (h : b.chk = 0) (i : Nat) (hi : i < b.gs.length) : 0 ≤ gF b.gs i ∧ gF b.gs i < gT b.gs i ∧ gT b.gs i ≤ 65536 := by
  have h1 := okFrom_at b.gs b.ln 0 (by omega) (chk_zero.1 h).2.2 i hi
  have h2 := (chk_head h).2.2.1.2
  omega
theorem itoaB_size (n : Int) (h0 : 0 ≤ n) (h1 : n ≤ 4294967296) : (itoaB n).size ≤ 21 := by
  have := Lib.itoa_length_le n (by omega) (by omega)
  show (Lib.itoa n).toArray.size ≤ 21
  simpa using this
def gapWord (g : Int × Int) : ByteArray := itoaB g.1 ++ ⟨#[45]⟩ ++ itoaB g.2
def strs (l : List ByteArray) : List Value := l.map Value.string
def wordsTo (b : Br) (j : Nat) : List ByteArray := [itoaB b.wd, itoaB b.dp, itoaB b.ln, itoaB b.ct, itoaB b.cs] ++ (b.gs.take j).map gapWord
theorem wordsTo_all (b : Br) : wordsTo b b.gs.length = brWords b := by simp [wordsTo, brWords, gapWord]
theorem wordsTo_succ (b : Br) (j : Nat) (h : j < b.gs.length) : wordsTo b (j + 1) = wordsTo b j ++ [itoaB (gF b.gs j) ++ ⟨#[45]⟩ ++ itoaB (gT b.gs j)] := by
  unfold wordsTo
  rw [List.take_succ_eq_append_getElem h, List.map_append]
  simp only [List.map_cons, List.map_nil, gapWord, gF, gT, List.getElem?_eq_getElem h, Option.getD_some, List.append_assoc]
theorem strs_append (a b : List ByteArray) : strs (a ++ b) = strs a ++ strs b := by simp [strs]

theorem join_le (Y : List (List UInt8)) (m : Nat) (h : ∀ y ∈ Y, y.length ≤ m) : (Lib.join Y [32]).length ≤ Y.length * (m + 1) := by
  cases Y with
  | nil => simp [Lib.join_nil]
  | cons x r =>
    have key : ∀ r : List (List UInt8), (∀ y ∈ r, y.length ≤ m) → Lib.lens r ≤ r.length * m := by
      intro r
      induction r with
      | nil => intro _; simp [Lib.lens]
      | cons y r ih =>
        intro h
        have h1 := h y (by simp)
        have h2 := ih (fun z hz => h z (by simp [hz]))
        simp only [Lib.lens, List.map_cons, List.sum_cons, List.length_cons, Nat.add_mul] at h2 ⊢
        omega
    have h1 := key (x :: r) h
    rw [Lib.join_length]
    simp only [List.length_cons, Nat.add_mul, Nat.mul_add, List.length_nil] at h1 ⊢
    omega
theorem word_le {b : Br} (h : b.chk = 0) : ∀ x ∈ brWords b, x.data.toList.length ≤ 43 := by
  have hi : ∀ n : Int, 0 ≤ n → n ≤ 4294967296 → (itoaB n).data.toList.length ≤ 21 := fun n h0 h1 => by
    have := itoaB_size n h0 h1
    simpa using this
  obtain ⟨⟨z1, z2⟩, ⟨z3, z4⟩, ⟨z5, z6⟩, ⟨z7, z8⟩, ⟨z9, z10⟩⟩ := chk_head h
  intro x hx
  simp only [brWords, List.mem_append, List.mem_cons, List.not_mem_nil, or_false, List.mem_map] at hx
  rcases hx with (rfl | rfl | rfl | rfl | rfl) | ⟨g, hg, rfl⟩
  · have := hi b.wd (by omega) (by omega); omega
  · have := hi b.dp (by omega) (by omega); omega
  · have := hi b.ln (by omega) (by omega); omega
  · have := hi b.ct (by omega) (by omega); omega
  · have := hi b.cs (by omega) (by omega); omega
  · obtain ⟨i, hil, rfl⟩ := List.mem_iff_getElem.1 hg
    obtain ⟨q1, q2, q3⟩ := chk_gap h i hil
    simp only [gF, gT, List.getElem?_eq_getElem hil, Option.getD_some] at q1 q2 q3
    have h1 := hi b.gs[i].1 (by omega) (by omega)
    have h2 := hi b.gs[i].2 (by omega) (by omega)
    simp only [ByteArray.data_append, Array.toList_append, List.length_append] at h1 h2 ⊢
    simp only [List.length_cons, List.length_nil]
    omega
theorem brLine_le {b : Br} (h : b.chk = 0) : (Lib.join ((brWords b).map (·.data.toList)) [32]).length ≤ 924 := by
  have h1 := join_le ((brWords b).map (·.data.toList)) 43 (by
    intro y hy
    obtain ⟨x, hx, rfl⟩ := List.mem_map.1 hy
    exact word_le h x hx)
  have h2 : ((brWords b).map (·.data.toList)).length ≤ 21 := by
    have := (chk_zero.1 h).2.1
    simp [brWords]
    omega
  omega
theorem brText_le : ∀ l : List Br, (∀ i, i < l.length → (bAt l i).chk = 0) → (brText l).length ≤ l.length * 925 := by
  intro l
  induction l with
  | nil => intro _; simp [brText]
  | cons b r ih =>
    intro h
    have h1 : b.chk = 0 := by simpa [bAt] using h 0 (by simp)
    have h2 := ih (fun i hi => by simpa [bAt] using h (i + 1) (by simpa using hi))
    have h3 := brLine_le h1
    simp only [brText, brLine, List.flatMap_cons, List.length_append, List.length_cons, List.length_nil] at h2 h3 ⊢
    omega
theorem brText_take (l : List Br) (k : Nat) (h : k < l.length) : brText (l.take (k + 1)) = brText (l.take k) ++ (Lib.join ((brWords (bAt l k)).map (·.data.toList)) [32] ++ [10]) := by
  unfold brText
  rw [List.take_succ_eq_append_getElem h, List.flatMap_append]
  simp only [List.flatMap_cons, List.flatMap_nil, List.append_nil, brLine, bAt, List.getElem?_eq_getElem h, Option.getD_some]

set_option maxRecDepth 100000 in
set_option maxHeartbeats 4000000 in
theorem print_any (v : Value) (l : List Br) (B : Nat) (w : World) (hg : BarsAt B w v l) (hB : B ≤ w.heap.size) (hT : P10 B w) (hz : chks l = 0) :
    Calls Tryd.prog 39 #[v] w (Ret w (.tuple #[.string ⟨(brText l).toArray⟩, .int .i64 0])) := by
  obtain ⟨hl64, hall⟩ := chks_zero.1 hz
  have HG := hide hg; have HT := hide hT; have HZ := hide hz; have HA := hide hall
  clear hg hT hall
  obtain ⟨ga, gc, hgv⟩ := SlAt.form HG.out.1
  subst hgv
  go_enter Tryd.func39, Tryd.ntmps39
  go_wp2_with fail
  go_at_call 29
  refine (checks_any (.slice ga l.length gc) l B w HG.out hB).mono ?_
  rintro e w1 ⟨rfl, hb1⟩
  rw [hz]
  clear hz
  have hs1 := hb1.size
  have HB1 := hide hb1
  clear hb1
  go_wp2
  go_loopw [15] (fun i wr => ∃ k : Nat, k ≤ l.length ∧ i = .int .i64 k ∧ w1.heap.size < wr.heap.size ∧ Hid (Below w.heap.size w wr ∧ Lib.IsBuilder 80 5 w1.heap.size w1.heap.size (Lib.byteCells (brText (l.take k))) wr)) (fun i _ => l.length - (intOf i).toNat)
  case atStart =>
    refine ⟨0, Nat.zero_le _, rfl, by simp, HB1.out.alloc hs1 _, .inl ⟨Nat.le_refl _, .slice none 0 0, ?_, ?_, ?_⟩⟩
    · exact (heap1 w1 _).1
    · exact World.ownsRow_nil _ _ _ _
    · simp [Value.ownBlock]
  case round =>
    obtain ⟨k, hk, rfl, hlt1, hinv⟩ := hrel
    by_cases hlt : k < l.length
    · rcases HG.out.rows with ⟨_, _, _, rfl⟩ | ⟨b, o, cap, hve, hb, hc⟩
      · simp at hlt
      cases hve
      obtain ⟨x1, x2, x3, x4, x5, x6⟩ := hc k hlt
      have rb : ∀ p, wr.cell? ⟨b, p, none⟩ = w.cell? ⟨b, p, none⟩ := fun p => hinv.out.1.cell (p := ⟨b, p, none⟩) (by simp; omega)
      have r1 := (rb _).trans x1; have r2 := (rb _).trans x2; have r3 := (rb _).trans x3; have r4 := (rb _).trans x4; have r5 := (rb _).trans x5; have r6 := (rb _).trans x6
      have hs := hinv.out.1.size
      have e3 : (k : Int) < l.length := by omega
      have hbb : b < wr.heap.size := by omega
      obtain ⟨gb, gd, hgv⟩ := SlAt.form (HG.out.2 k hlt)
      have hgk := HG.out.2 k hlt
      have hchk := HA.out k hlt
      rw [hgv] at r6 hgk
      have HGK := hide hgk; have HCK := hide hchk
      clear rb x1 x2 x3 x4 x5 x6 hgv hgk hc hchk
      go_wp2_with fail
      obtain ⟨g1, g2, g3⟩ := heap1 wr (.cells #[.int .i64 (bAt l k).wd, .int .i64 (bAt l k).dp, .int .i64 (bAt l k).ln, .int .i64 (bAt l k).ct, .int .i64 (bAt l k).cs, .slice gb (bAt l k).gs.length gd] 24)
      obtain ⟨w2, hw2⟩ : ∃ w2, wr.alloc (.cells #[.int .i64 (bAt l k).wd, .int .i64 (bAt l k).dp, .int .i64 (bAt l k).ln, .int .i64 (bAt l k).ct, .int .i64 (bAt l k).cs, .slice gb (bAt l k).gs.length gd] 24) = w2 := ⟨_, rfl⟩
      rw [hw2] at g1 g2 g3 ⊢
      clear hw2 r1 r2 r3 r4 r5 r6
      have hT2 := HT.out.on ((hinv.out.1.trans (g3.mono hs)).mono hB)
      have hx : ∀ x : Of (Below (wr.heap.size + 1) w2), ∀ o, x.w.cell? ⟨wr.heap.size, o, none⟩ = w2.cell? ⟨wr.heap.size, o, none⟩ := fun x o => x.h.cell (p := ⟨wr.heap.size, o, none⟩) (by simp)
      have hc0 := fun o => cell_blk g1 o
      have hlt2 : ∀ x : Of (Below (wr.heap.size + 1) w2), wr.heap.size < x.w.heap.size := fun x => by have := x.h.size; omega
      obtain ⟨⟨z1, z2⟩, ⟨z3, z4⟩, ⟨z5, z6⟩, ⟨z7, z8⟩, ⟨z9, z10⟩⟩ := chk_head HCK.out
      have hi1 := fun x => itoa_cls (bAt l k).wd (by omega) (by omega) B (wr.heap.size + 1) w2 hT2 (by omega) (by omega) x
      have hi2 := fun x => itoa_cls (bAt l k).dp (by omega) (by omega) B (wr.heap.size + 1) w2 hT2 (by omega) (by omega) x
      have hi3 := fun x => itoa_cls (bAt l k).ln (by omega) (by omega) B (wr.heap.size + 1) w2 hT2 (by omega) (by omega) x
      have hi4 := fun x => itoa_cls (bAt l k).ct (by omega) (by omega) B (wr.heap.size + 1) w2 hT2 (by omega) (by omega) x
      have hi5 := fun x => itoa_cls (bAt l k).cs (by omega) (by omega) B (wr.heap.size + 1) w2 hT2 (by omega) (by omega) x
      have HI1 := hide hi1; have HI2 := hide hi2; have HI3 := hide hi3; have HI4 := hide hi4; have HI5 := hide hi5; have HG1 := hide g1; have HG3 := hide g3; have HT2 := hide hT2
      clear hi1 hi2 hi3 hi4 hi5 g1 g3 hT2 z1 z2 z3 z4 z5 z6 z7 z8 z9 z10
      refine region_prefix (C := Cls (Below (wr.heap.size + 1) w2)) 15 (by kernel_rfl) (by decide) (by kernel_rfl) (by kernel_rfl) (by kernel_rfl) (by kernel_rfl) (Cls.mk (Below.refl _ _).drew) ?_
      simp only [List.take_succ_cons, List.take_zero, List.drop_succ_cons, List.drop_zero]
      repeat (go_big_quiet_step (first | exact HI1.out _ | exact HI2.out _ | exact HI3.out _ | exact HI4.out _ | exact HI5.out _))
      refine wpQuiet_nil ?_
      intro w3 hcl3
      have hb3 := hcl3.out
      have hs3 := hb3.size
      clear hcl3 hx hc0 hlt2 HI1 HI2 HI3 HI4 HI5
      have k3 := below_blk hb3 HG1.out (by omega)
      have c3 := fun o => cell_blk k3 o
      have lt3 : wr.heap.size < w3.heap.size := by omega
      have HW2 := hide (hinv.out.1.trans (HG3.out.mono hs))
      have HB3 := hide hb3; have K3 := hide k3
      clear hb3 k3
      have hI0 := (World.ownsRow_lit (base := wr.heap.size + 1) (e := 9) (size := 1) w3 #[.string (itoaB (bAt l k).wd), .string (itoaB (bAt l k).dp), .string (itoaB (bAt l k).ln), .string (itoaB (bAt l k).ct), .string (itoaB (bAt l k).cs)] 5 (by omega) (by simp [maxLen]) (by simp))
      have HI0 := hide hI0
      clear hI0
      obtain ⟨i0, hi0, hz0, hz1, hz2⟩ := info_parts info9
      have hl16 : (bAt l k).gs.length ≤ 16 := (chk_zero.1 HCK.out).2.1
      go_wp2
      obtain ⟨wo, rfl⟩ : ∃ wo, wo = wr := ⟨_, rfl⟩
      go_loopw [38, 7] (fun i sv wr2 => ∃ j : Nat, j ≤ (bAt l k).gs.length ∧ i = .int .i64 j ∧ Hid (Below (wo.heap.size + 1) w2 wr2 ∧ wr2.ownsRow (wo.heap.size + 1) 9 1 sv (5 + j) (strs (wordsTo (bAt l k) j)))) (fun i _ _ => (bAt l k).gs.length - (intOf i).toNat)
      case atStart => exact ⟨0, Nat.zero_le _, rfl, HB3.out.alloc (by omega) _, HI0.out⟩
      case round =>
        obtain ⟨j, hj, rfl, hin2⟩ := hrel
        by_cases hlj : j < (bAt l k).gs.length
        · rcases HGK.out.pairs with ⟨_, _, _, hnil⟩ | ⟨b2, o2, cap2, hve2, hb2, hc2⟩
          · rw [hnil] at hlj
            simp at hlj
          cases hve2
          obtain ⟨y1, y2⟩ := hc2 j hlj
          have HWR := hide (HW2.out.trans (hin2.out.1.mono (by omega)))
          have hsr := hin2.out.1.size
          have q1 := (HWR.out.cell (p := ⟨b2, o2 + j * 2, none⟩) (by simp; omega)).trans y1
          have q2 := (HWR.out.cell (p := ⟨b2, o2 + j * 2 + 1, none⟩) (by simp; omega)).trans y2
          have hb2l : b2 < wr.heap.size := by omega
          have e4 : (j : Int) < ((bAt l k).gs.length : Int) := by omega
          obtain ⟨z1, z2, z3⟩ := chk_gap HCK.out j hlj
          clear y1 y2 hc2 c3 lt3
          go_wp2_with fail
          obtain ⟨p1, p2, p3⟩ := heap1 wr (.cells #[.int .i64 (gF (bAt l k).gs j), .int .i64 (gT (bAt l k).gs j)] 31)
          obtain ⟨w4, hw4⟩ : ∃ w4, wr.alloc (.cells #[.int .i64 (gF (bAt l k).gs j), .int .i64 (gT (bAt l k).gs j)] 31) = w4 := ⟨_, rfl⟩
          rw [hw4] at p1 p2 p3 ⊢
          clear hw4 q1 q2
          have hT4 := HT2.out.on ((hin2.out.1.trans (p3.mono (by omega))).mono (by omega))
          have hx : ∀ x : Of (Below (wr.heap.size + 1) w4), ∀ o, x.w.cell? ⟨wr.heap.size, o, none⟩ = w4.cell? ⟨wr.heap.size, o, none⟩ := fun x o => x.h.cell (p := ⟨wr.heap.size, o, none⟩) (by simp)
          have hc0 := fun o => cell_blk p1 o
          have hlt2 : ∀ x : Of (Below (wr.heap.size + 1) w4), wr.heap.size < x.w.heap.size := fun x => by have := x.h.size; omega
          have hi1 := fun x => itoa_cls (gF (bAt l k).gs j) (by omega) (by omega) B (wr.heap.size + 1) w4 hT4 (by omega) (by omega) x
          have hi2 := fun x => itoa_cls (gT (bAt l k).gs j) (by omega) (by omega) B (wr.heap.size + 1) w4 hT4 (by omega) (by omega) x
          have hsa : (9223372036854775807 < (itoaB (gF (bAt l k).gs j)).size + 1) = False := by simp; have := itoaB_size (gF (bAt l k).gs j) (by omega) (by omega); omega
          have hsb : (9223372036854775807 < (itoaB (gF (bAt l k).gs j)).size + 1 + (itoaB (gT (bAt l k).gs j)).size) = False := by simp; have := itoaB_size (gF (bAt l k).gs j) (by omega) (by omega); have := itoaB_size (gT (bAt l k).gs j) (by omega) (by omega); omega
          have HI1 := hide hi1; have HI2 := hide hi2; have HP1 := hide p1; have HP3 := hide p3
          have HIN := hide hin2.out.1; have HOW := hide hin2.out.2
          clear hi1 hi2 p1 p3 hT4 z1 z2 z3 hin2
          refine region_prefix1 (C := Cls (Below (wr.heap.size + 1) w4)) 9 _ u7 (by kernel_rfl) (by decide) (by decide) (by kernel_rfl) rfl (.inl ⟨rfl, fun w => by rfl⟩) (by kernel_rfl) (by kernel_rfl) (by kernel_rfl) (by kernel_rfl) (by kernel_rfl) (Cls.mk (Below.refl _ _).drew) ?_
          simp only [List.take_succ_cons, List.take_zero, List.drop_succ_cons, List.drop_zero]
          simp only [Act.put, List.setIfInBounds_toArray, List.set_cons_succ, List.set_cons_zero]
          repeat (go_big_quiet_step (first | exact HI1.out _ | exact HI2.out _))
          refine wpQuiet_nil ?_
          intro w5 hcl5
          have hb5 := hcl5.out
          have hs5 := hb5.size
          obtain ⟨wd, hwd⟩ : ∃ wd, wd = itoaB (gF (bAt l k).gs j) ++ { data := #[45] } ++ itoaB (gT (bAt l k).gs j) := ⟨_, rfl⟩
          have HWD := hide hwd
          rw [← hwd]
          have hlq : ∀ r, u7.ownBlock = some r → r < wr.heap.size := fun r hr => (HOW.out.lt r hr).2
          have HO5 := hide (show (w5.alloc (.cells #[.string wd] 9)).ownsRow (wo.heap.size + 1) 9 1 u7 (5 + j) (strs (wordsTo (bAt l k) j)) from World.ownsRow.alloc (owns_stay (owns_stay HOW.out (fun r hr => HP3.out.block r (hlq r hr))) (fun r hr => hb5.block r (by have := hlq r hr; omega))) _)
          have HN5 := hide (show ∀ i u, ([.string wd] : List Value)[i]? = some u → (w5.alloc (.cells #[.string wd] 9)).cell? ((⟨w5.heap.size, 0, none⟩ : Addr).add i) = some u from World.news_of_block (cs := #[.string wd]) (t := 9) (fr := (0, 0)) (heap_alloc_new w5 _))
          have HB5 := hide ((HIN.out.trans (HP3.out.mono (by omega))).trans (hb5.mono (by omega)))
          clear hcl5 hb5 hwd hx hc0 hlt2 hsa hsb
          go_wp2_with (at_builtin; refine pl_append _ rfl (.tmp 42) (.tmp 51) 82 rfl (wo.heap.size + 1) 9 i0 (.string ⟨#[]⟩) 1 16 Tryd.underlying82 hi0 hz0 hz1 hz2 rfl (by decide) u7 (5 + j) (strs (wordsTo (bAt l k) j)) rfl HO5.out ⟨w5.heap.size, 0, none⟩ 1 1 [.string wd] rfl rfl HN5.out (by simp [Value.oneCell']) (by omega) (by simp only [maxLen]; omega) (by omega) (by simp; omega) ?_; intro g6 cap6 w6 hown6 hg6 hat6 hlt6; have HO6 := hide hown6; have HG6 := hide hg6; clear hown6 hg6 hat6)
          refine ⟨⟨j + 1, by omega, by go_num, ?_⟩, by simp [intOf]; omega⟩
          refine hide ⟨(HB5.out.alloc (by omega) _).grown HG6.out (by simp; omega) (owns_ge HO5.out (Nat.le_refl _)), ?_⟩
          rw [wordsTo_succ _ _ hlj, ← HWD.out, strs_append]
          exact HO6.out
        · obtain rfl : j = (bAt l k).gs.length := by omega
          obtain ⟨hlen7, hz7⟩ := hin2.out.2
          rcases hz7 with ⟨_, h0⟩ | ⟨g, cap, cur, rfl, hg7, hcells, hcap, hmax, hsz7, htake⟩
          · omega
          have hwl : (wordsTo (bAt l k) (bAt l k).gs.length).length = 5 + (bAt l k).gs.length := by simp [wordsTo]; omega
          have hgl := lt_blk hcells
          have hjc : ∀ (i : Nat) x, (wordsTo (bAt l k) (bAt l k).gs.length)[i]? = some x → wr.cell? ⟨g, 0 + i, none⟩ = some (.string x) := by
            intro i x hx
            have h1 : (strs (wordsTo (bAt l k) (bAt l k).gs.length))[i]? = some (.string x) := by simp [strs, hx]
            rw [← htake, List.getElem?_take] at h1
            split at h1
            · rw [Nat.zero_add, cell_blk hcells]
              simpa using h1
            · cases h1
          have HBO := hide (HG3.out.trans (hin2.out.1.mono (by omega)))
          have HBU := hide (IsBuilder_below hinv.out.2 HBO.out)
          have HWB := hide (HW2.out.trans (hin2.out.1.mono (by omega)))
          have hsr := hin2.out.1.size
          have HJC := hide hjc
          have hjl := brLine_le HCK.out
          have htl := brText_le (l.take k) (fun i hi => by
            have : i < l.length := by simp at hi; omega
            have h2 := HA.out i this
            simpa [bAt, List.getElem?_take, show i < k by simp at hi; omega] using h2)
          have htl2 : (brText (l.take k)).length ≤ 59200 := by simp at htl; omega
          have HL := hide hwl; have HJL := hide hjl
          clear hjc hcells hmax hsz7 htake hlen7 hin2 c3 lt3 htl hjl hwl
          go_wp2_with fail
          rw [← HL.out]
          refine (Tryd.strings_Join g 0 cap (wordsTo (bAt l k) (bAt l k).gs.length) ⟨#[32]⟩ wr HJC.out hgl (by have := HL.out; omega) (by have := HL.out; omega) (by rw [wordsTo_all]; have := HJL.out; exact Nat.le_trans this (by decide))).mono ?_
          rw [HL.out, wordsTo_all]
          rintro e w7 ⟨rfl, hb7⟩
          have hs7 := hb7.size
          have HB7 := hide (HWB.out.trans (hb7.mono (by omega)))
          have HBU7 := hide (IsBuilder_below HBU.out hb7)
          clear hb7
          go_wp2_with fail
          obtain ⟨ws, hws⟩ : ∃ ws, ws = Lib.join (List.map (fun x => x.data.toList) (brWords (bAt l k))) [32] := ⟨_, rfl⟩
          rw [← hws]
          have hwl2 : ws.length ≤ 924 := by rw [hws]; exact HJL.out
          have HWS := hide hws
          clear hws
          refine (builder_writeString w1.heap.size w1.heap.size (Lib.byteCells (brText (l.take k))) ⟨ws.toArray⟩ w7 HBU7.out (by rw [Lib.byteCells_length]; show _ + ws.toArray.size ≤ _; simp; omega) (by omega)).mono ?_
          rintro e w8 ⟨rfl, hbu8, hb8⟩
          have hs8 := hb8.size
          have HB8 := hide (HB7.out.trans (hb8.mono (by omega)))
          have HBU8 := hide hbu8
          clear hb8 hbu8
          go_wp2_with fail
          refine (builder_writeByte w1.heap.size w1.heap.size _ 10 w8 (.inr HBU8.out) (by rw [List.length_append, Lib.byteCells_length, Lib.strCells_eq, Lib.byteCells_length]; show _ + ws.toArray.toList.length + 1 ≤ _; simp; omega) (by omega)).mono ?_
          rintro e w9 ⟨rfl, hbu9, hb9⟩
          have hs9 := hb9.size
          have HB9 := hide (HB8.out.trans (hb9.mono (by omega)))
          have HBU9 := hide hbu9
          clear hb9 hbu9
          go_wp2
          refine ⟨⟨k + 1, by omega, by go_num, by omega, HB9.out, .inr ?_⟩, by simp [intOf]; omega⟩
          have hb := HBU9.out
          rw [brText_take l k hlt, ← HWS.out, Lib.byteCells_append, Lib.byteCells_append]
          rw [Lib.strCells_eq, List.append_assoc] at hb
          exact hb
    · obtain rfl : k = l.length := by omega
      go_wp2_with fail
      have hbu := hinv.out.2
      rw [List.take_length] at hbu
      refine (Tryd.Builder_String_any w1.heap.size w1.heap.size (brText l) wr hbu (by omega)).mono ?_
      rintro e w3 ⟨rfl, hb3⟩
      have HB3 := hide (hinv.out.1.trans (hb3.mono hs1))
      clear hb3 hbu
      go_wp2
      go_ret2
      exact ⟨rfl, HB3.out⟩
end Go.Proofs.YtfljmbdnnjjmoaaDoor
