/-
  Lists of bars; stock.Check: the walk.
-/
import Derived.Test.YtfljmbdnnjjmoaaDoorS6
namespace Go.Proofs.YtfljmbdnnjjmoaaDoor
open Go.RowKit Go.KP

/-- A bar. -/
structure Br where
  wd : Int
  dp : Int
  ln : Int
  ct : Int
  cs : Int
  gv : Value
  gs : List (Int × Int)
def Br.zero : Br := ⟨0, 0, 0, 0, 0, .slice none 0 0, []⟩
def Br.cells (b : Br) : List Value := [.int .i64 b.wd, .int .i64 b.dp, .int .i64 b.ln, .int .i64 b.ct, .int .i64 b.cs, b.gv]
def Br.chk (b : Br) : Int := YtfljmbdnnjjmoaaDoor.chk b.wd b.dp b.ln b.ct b.cs b.gs
def bcells (l : List Br) : List Value := l.flatMap Br.cells
def bAt (l : List Br) (i : Nat) : Br := l[i]?.getD Br.zero
theorem bcells_length (l : List Br) : (bcells l).length = l.length * 6 := by
  induction l with
  | nil => rfl
  | cons g r ih => simp only [bcells, Br.cells, List.flatMap_cons, List.length_append, List.length_cons, List.length_nil] at ih ⊢; omega
theorem bcells_at : ∀ (l : List Br) (i : Nat), i < l.length → (bcells l)[i * 6]? = some (.int .i64 (bAt l i).wd) ∧ (bcells l)[i * 6 + 1]? = some (.int .i64 (bAt l i).dp) ∧ (bcells l)[i * 6 + 2]? = some (.int .i64 (bAt l i).ln) ∧
    (bcells l)[i * 6 + 3]? = some (.int .i64 (bAt l i).ct) ∧ (bcells l)[i * 6 + 4]? = some (.int .i64 (bAt l i).cs) ∧ (bcells l)[i * 6 + 5]? = some (bAt l i).gv := by
  intro l
  induction l with
  | nil => intro i h; simp at h
  | cons g r ih =>
    intro i h
    cases i with
    | zero => simp [bcells, Br.cells, bAt]
    | succ i =>
      have := ih i (by simpa using h)
      have e : bcells (g :: r) = .int .i64 g.wd :: .int .i64 g.dp :: .int .i64 g.ln :: .int .i64 g.ct :: .int .i64 g.cs :: g.gv :: bcells r := rfl
      rw [e, show (i + 1) * 6 = i * 6 + 6 by omega]
      simpa [bAt] using this
/-- A slice value that reads as bars. -/
def BarsAt (B : Nat) (w : World) (v : Value) (l : List Br) : Prop := SlAt B w 6 v l.length (bcells l) ∧ ∀ i, i < l.length → SlAt B w 2 (bAt l i).gv (bAt l i).gs.length (pcells (bAt l i).gs)
theorem BarsAt.below {B n0 : Nat} {w w2 : World} {v : Value} {l : List Br} (h : BarsAt B w v l) (hb : Below n0 w w2) (hB : B ≤ n0) : BarsAt B w2 v l := ⟨h.1.below hb hB, fun b h1 => (h.2 b h1).below hb hB⟩
theorem BarsAt.mono {B B2 : Nat} {w : World} {v : Value} {l : List Br} (h : BarsAt B w v l) (hB : B ≤ B2) : BarsAt B2 w v l := ⟨h.1.mono hB, fun b h1 => (h.2 b h1).mono hB⟩
theorem BarsAt.rows {B : Nat} {w : World} {v : Value} {l : List Br} (h : BarsAt B w v l) :
    (∃ a c, v = .slice a 0 c ∧ l = []) ∨ ∃ b o cap, v = .slice (some ⟨b, o, none⟩) l.length cap ∧ b < B ∧
      ∀ i, i < l.length → w.cell? ⟨b, o + i * 6, none⟩ = some (.int .i64 (bAt l i).wd) ∧ w.cell? ⟨b, o + i * 6 + 1, none⟩ = some (.int .i64 (bAt l i).dp) ∧ w.cell? ⟨b, o + i * 6 + 2, none⟩ = some (.int .i64 (bAt l i).ln) ∧
        w.cell? ⟨b, o + i * 6 + 3, none⟩ = some (.int .i64 (bAt l i).ct) ∧ w.cell? ⟨b, o + i * 6 + 4, none⟩ = some (.int .i64 (bAt l i).cs) ∧ w.cell? ⟨b, o + i * 6 + 5, none⟩ = some (bAt l i).gv := by
  rcases h.1.2 with ⟨a, c, h1, h2⟩ | ⟨b, o, cap, hv, hb, hc⟩
  · exact .inl ⟨a, c, h1, List.eq_nil_of_length_eq_zero h2⟩
  · refine .inr ⟨b, o, cap, hv, hb, fun i hi => ?_⟩
    obtain ⟨h1, h2, h3, h4, h5, h6⟩ := bcells_at l i hi
    exact ⟨hc _ _ h1, hc _ _ h2, hc _ _ h3, hc _ _ h4, hc _ _ h5, hc _ _ h6⟩
theorem SlAt.form {B : Nat} {w : World} {sz : Nat} {v : Value} {n : Nat} {xs : List Value} (h : SlAt B w sz v n xs) : ∃ a c, v = .slice a n c := by
  rcases h.2 with ⟨a, c, rfl, rfl⟩ | ⟨b, o, cap, rfl, _⟩
  · exact ⟨_, _, rfl⟩
  · exact ⟨_, _, rfl⟩
/-- The first error of bars. -/
def firstErr : List Br → Int
  | [] => 0
  | b :: r => if b.chk = 0 then firstErr r else b.chk
def chks (l : List Br) : Int := if 64 < l.length then 4 else firstErr l
theorem firstErr_at (l : List Br) (k : Nat) (h : k < l.length) : firstErr (l.drop k) = if (bAt l k).chk = 0 then firstErr (l.drop (k + 1)) else (bAt l k).chk := by
  rw [List.drop_eq_getElem_cons h]
  have e : bAt l k = l[k] := by simp [bAt, h]
  rw [e]
  rfl
theorem chks_zero {l : List Br} : chks l = 0 ↔ l.length ≤ 64 ∧ ∀ i, i < l.length → (bAt l i).chk = 0 := by
  unfold chks
  have key : ∀ l : List Br, firstErr l = 0 ↔ ∀ i, i < l.length → (bAt l i).chk = 0 := by
    intro l
    induction l with
    | nil => simp [firstErr]
    | cons b r ih =>
      simp only [firstErr]
      by_cases hb : b.chk = 0
      · rw [if_pos hb, ih]
        constructor
        · intro h i hi
          cases i with
          | zero => simpa [bAt] using hb
          | succ i => simpa [bAt] using h i (by simpa using hi)
        · intro h i hi
          simpa [bAt] using h (i + 1) (by simpa using hi)
      · rw [if_neg hb]
        refine ⟨fun h => absurd h hb, fun h => ?_⟩
        have := h 0 (by simp)
        simp [bAt] at this
        exact this
  by_cases hl : 64 < l.length
  · rw [if_pos hl]
    constructor
    · intro h; simp at h
    · intro h; omega
  · rw [if_neg hl, key]
    exact ⟨fun h => ⟨by omega, h⟩, fun h => h.2⟩

set_option maxHeartbeats 400000 in
theorem checks_nil (a0 : Option Addr) (c0 : Nat) (w : World) : Calls Tryd.prog 29 #[.slice a0 0 c0] w (Ret w (.int .i64 0)) := by
  go_enter Tryd.func29, Tryd.ntmps29
  go_wp2
  go_loopw [11] (fun i wr => i = .int .i64 0 ∧ Below w.heap.size w wr) (fun _ _ => 0)
  case atStart => exact ⟨rfl, Below.refl _ _⟩
  case round =>
    obtain ⟨rfl, hbw⟩ := hrel
    go_wp2
    go_ret
    exact ⟨rfl, hbw⟩

set_option maxRecDepth 100000 in
set_option maxHeartbeats 400000 in
theorem checks_any (v : Value) (l : List Br) (B : Nat) (w : World) (hg : BarsAt B w v l) (hB : B ≤ w.heap.size) :
    Calls Tryd.prog 29 #[v] w (Ret w (.int .i64 (chks l))) := by
  rcases hg.rows with ⟨a0, c0, rfl, rfl⟩ | ⟨b, o, cap, rfl, hb, hc⟩
  · exact checks_nil a0 c0 w
  · have HC := hide hc; have HG := hide hg
    clear hc hg
    by_cases hl : 64 < l.length
    · have hch : chks l = 4 := by simp [chks, hl]
      rw [hch]
      go_enter Tryd.func29, Tryd.ntmps29
      go_wp2
      go_ret
      exact ⟨rfl, Below.refl _ _⟩
    · have hch : chks l = firstErr (l.drop 0) := by simp [chks, hl]
      rw [hch]
      clear hch
      go_enter Tryd.func29, Tryd.ntmps29
      go_wp2
      go_loopw [11] (fun i wr => ∃ k : Nat, k ≤ l.length ∧ i = .int .i64 k ∧ Below w.heap.size w wr ∧ Hid (firstErr (l.drop 0) = firstErr (l.drop k))) (fun i _ => l.length - (intOf i).toNat)
      case atStart => exact ⟨0, Nat.zero_le _, rfl, Below.refl _ _, hide rfl⟩
      case round =>
        obtain ⟨k, hk, rfl, hbw, hf⟩ := hrel
        by_cases hlt : k < l.length
        · obtain ⟨x1, x2, x3, x4, x5, x6⟩ := HC.out k hlt
          have rb : ∀ p, wr.cell? ⟨b, p, none⟩ = w.cell? ⟨b, p, none⟩ := fun p => hbw.cell (p := ⟨b, p, none⟩) (by simp; omega)
          have r1 := (rb _).trans x1; have r2 := (rb _).trans x2; have r3 := (rb _).trans x3; have r4 := (rb _).trans x4; have r5 := (rb _).trans x5; have r6 := (rb _).trans x6
          have hs := hbw.size
          have e3 : (k : Int) < l.length := by omega
          have hst := firstErr_at l k hlt
          have hbb : b < wr.heap.size := by omega
          obtain ⟨ga, gc, hgv⟩ := SlAt.form (HG.out.2 k hlt)
          have hgk := HG.out.2 k hlt
          rw [hgv] at r6 hgk
          have HS := hide hst; have HBW := hide hbw; have HGK := hide hgk
          clear rb x1 x2 x3 x4 x5 x6 hst hbw hgv hgk
          go_wp2_with fail
          go_at_call 45
          refine (check_any (bAt l k).wd (bAt l k).dp (bAt l k).ln (bAt l k).ct (bAt l k).cs (.slice ga (bAt l k).gs.length gc) (bAt l k).gs B _ (HGK.out.below (HBW.out.alloc hs _) hB) (by simp; omega)).mono ?_
          rintro e w2 ⟨rfl, hb2⟩
          have hb3 := HBW.out.trans ((heap1 wr _).2.2.trans (hb2.mono (by simp)) |>.mono hs)
          rw [show chk (bAt l k).wd (bAt l k).dp (bAt l k).ln (bAt l k).ct (bAt l k).cs (bAt l k).gs = (bAt l k).chk from rfl]
          by_cases hz : (bAt l k).chk = 0
          · have hg2 := HS.out
            rw [if_pos hz] at hg2
            have HG2 := hide (hf.out.trans hg2); have HB3 := hide hb3
            rw [hz]
            clear hg2 hb3 hb2 hz
            go_wp2
            go_roundw
            case rel => exact ⟨k + 1, by omega, by go_num, HB3.out, HG2⟩
            case measure => simp [intOf]; omega
          · have hg2 := HS.out
            rw [if_neg hz] at hg2
            have HG2 := hide (hf.out.trans hg2); have HB3 := hide hb3
            have hzz : ((bAt l k).chk != 0) = true := by simpa using hz
            clear hg2 hb3 hb2 hz
            go_wp2
            go_ret
            exact ⟨by rw [HG2.out]; rfl, HB3.out⟩
        · obtain rfl : k = l.length := by omega
          go_wp2
          go_ret
          have hfin : firstErr (l.drop 0) = 0 := by rw [hf.out]; simp [firstErr]
          exact ⟨by rw [hfin]; rfl, hbw⟩
end Go.Proofs.YtfljmbdnnjjmoaaDoor
