/-
  Take, the program's and the reference's: the walks.
-/
import Derived.Test.YtfljmbdnnjjmoaaDoorR4
namespace Go.Proofs.YtfljmbdnnjjmoaaDoor
open Go.RowKit Go.KP Go.Shelf

def Br.count (b : Br) (c : Int) : Br := ⟨b.wd, b.dp, b.ln, c, b.cs, b.gv, b.gs⟩
theorem bcells_set : ∀ (l : List Br) (i : Nat) (c : Int), i < l.length → bcells (l.set i ((bAt l i).count c)) = (bcells l).set (i * 6 + 3) (.int .i64 c) := by
  intro l
  induction l with
  | nil => intro i c h; simp at h
  | cons b r ih =>
    intro i c h
    cases i with
    | zero => simp [bcells, Br.cells, bAt, Br.count]
    | succ i =>
      have := ih i c (by simpa using h)
      have e : ∀ (x : Br) (r : List Br), bcells (x :: r) = .int .i64 x.wd :: .int .i64 x.dp :: .int .i64 x.ln :: .int .i64 x.ct :: .int .i64 x.cs :: x.gv :: bcells r := fun _ _ => rfl
      have eb : bAt (b :: r) (i + 1) = bAt r i := by simp [bAt]
      rw [eb, List.set_cons_succ, e, e, this, show (i + 1) * 6 + 3 = i * 6 + 3 + 1 + 1 + 1 + 1 + 1 + 1 by omega]
      simp only [List.set_cons_succ]
theorem bAt_set (l : List Br) (i j : Nat) (b : Br) (hi : i < l.length) : bAt (l.set i b) j = if i = j then b else bAt l j := by
  unfold bAt
  by_cases h : i = j
  · subst h
    simp [hi]
  · rw [List.getElem?_set_ne h, if_neg h]
/-- A count in a row of its own is set. -/
theorem bars_set {base B g cap : Nat} {w : World} {l : List Br} {v : Value} (hown : w.ownsRow base 24 6 (.slice (some ⟨g, 0, none⟩) l.length cap) l.length (bcells l)) (hbars : BarsAt B w v l) (hB : B ≤ base) {i : Nat} (hi : i < l.length) (c : Int) :
    BarsAt w.heap.size (w.setCell ⟨g, i * 6 + 3, none⟩ (.int .i64 c)) (.slice (some ⟨g, 0, none⟩) l.length cap) (l.set i ((bAt l i).count c)) := by
  have hg := hown.lt g rfl
  have hb : Below B w (w.setCell ⟨g, i * 6 + 3, none⟩ (.int .i64 c)) := (Below.refl _ _).setCell (p := ⟨g, i * 6 + 3, none⟩) (by simp; omega) _
  refine ⟨⟨by rw [bcells_length], .inr ⟨g, 0, cap, by simp, hg.2, fun j u hu => ?_⟩⟩, fun j hj => ?_⟩
  · rw [bcells_set l i c hi] at hu
    have hcell : ∀ j u, (bcells l)[j]? = some u → w.cell? ⟨g, 0 + j, none⟩ = some u := fun j u hu => by
      have := hown.cells (g := g) rfl j u hu
      rwa [Addr.add_lit] at this
    by_cases hj : j = i * 6 + 3
    · subst hj
      have hlt : i * 6 + 3 < (bcells l).length := by rw [bcells_length]; omega
      rw [List.getElem?_set_self hlt] at hu
      cases hu
      have h1 := hcell (i * 6 + 3) _ (bcells_at l i hi).2.2.2.1
      rw [Nat.zero_add] at h1 ⊢
      exact World.cell?_setCell_same _ _ _ h1
    · rw [List.getElem?_set_ne (Ne.symm hj)] at hu
      rw [World.cell?_setCell_other _ _ _ _ (by intro h; injection h with _ h2 _; omega)]
      exact hcell j u hu
  · have hj2 : j < l.length := by simpa using hj
    rw [bAt_set l i j _ hi]
    by_cases h : i = j
    · subst h
      rw [if_pos rfl]
      exact ((hbars.2 i hi).below hb (Nat.le_refl _)).mono (by omega)
    · rw [if_neg h]
      exact ((hbars.2 j hj2).below hb (Nat.le_refl _)).mono (by omega)

def takeErr (l : List Br) (i : Int) : Int := if chks l = 0 then (if i < 0 ∨ (l.length : Int) ≤ i then 2 else if (bAt l i.toNat).ct = 0 then 22 else 0) else 1
def takeL (l : List Br) (i : Int) : List Br := if takeErr l i = 0 then l.set i.toNat ((bAt l i.toNat).count ((bAt l i.toNat).ct - 1)) else []
def TakeAt (l : List Br) (i : Int) (r : Value) (w' : World) : Prop := ∃ m, r = .tuple #[m, .int .i64 (takeErr l i)] ∧ BarsAt w'.heap.size w' m (takeL l i)
theorem bars_nil (B : Nat) (w : World) : BarsAt B w (.slice none 0 0) [] := ⟨SlAt.nil _ _ _, fun i hi => by simp at hi⟩
theorem take_fail {l : List Br} {i e : Int} (h : takeErr l i = e) (hne : e ≠ 0) (w : World) : TakeAt l i (.tuple #[.slice none 0 0, .int .i64 e]) w := by
  refine ⟨_, by rw [h], ?_⟩
  unfold takeL
  rw [h, if_neg hne]
  exact bars_nil _ _

set_option maxRecDepth 100000 in
set_option maxHeartbeats 1000000 in
theorem take_any (v : Value) (l : List Br) (i : Int) (B : Nat) (w : World) (hg : BarsAt B w v l) (hB : B ≤ w.heap.size) (hl : l.length ≤ 65536) :
    Calls Tryd.prog 27 #[v, .int .i64 i] w (RetEx w (TakeAt l i)) := by
  obtain ⟨ga, gc, hv⟩ := SlAt.form hg.1
  subst hv
  have HC := hide (checks_any (.slice ga l.length gc) l B w hg hB)
  have HG := hide hg
  clear hg
  by_cases hz : chks l = 0
  · have hzz : (chks l != 0) = false := by simp [hz]
    by_cases hneg : i < 0
    · have hfin := take_fail (l := l) (i := i) (e := 2) (by simp [takeErr, hz, hneg]) (by decide)
      have HF := hide hfin
      clear hz hfin
      go_enter Tryd.func27, Tryd.ntmps27
      go_wp2_with (go_at_call 29; refine HC.out.mono ?_; rintro e w1 ⟨rfl, hb1⟩; have HB1 := hide hb1; clear hb1)
      go_ret2
      exact ⟨_, rfl, HB1.out, HF.out _⟩
    · by_cases hge : (l.length : Int) ≤ i
      · have hfin := take_fail (l := l) (i := i) (e := 2) (by simp [takeErr, hz, hge]) (by decide)
        have HF := hide hfin
        clear hz hfin
        go_enter Tryd.func27, Tryd.ntmps27
        go_wp2_with (go_at_call 29; refine HC.out.mono ?_; rintro e w1 ⟨rfl, hb1⟩; have HB1 := hide hb1; clear hb1)
        go_ret2
        exact ⟨_, rfl, HB1.out, HF.out _⟩
      · obtain ⟨k, rfl⟩ : ∃ k : Nat, (k : Int) = i := ⟨i.toNat, Int.toNat_of_nonneg (by omega)⟩
        have hk : k < l.length := by omega
        have hkk : (k : Int) < (l.length : Int) := by omega
        rcases HG.out.rows with ⟨_, _, _, h0⟩ | ⟨b, o, cap, hv, hb, hc⟩
        · rw [h0] at hk
          simp at hk
        · cases hv
          obtain ⟨x1, x2, x3, x4, x5, x6⟩ := hc k hk
          have hcb := (chk_head (b := bAt l k) ((chks_zero.1 hz).2 k hk)).2.2.2.1
          obtain ⟨ct, hct⟩ : ∃ ct, ct = (bAt l k).ct := ⟨_, rfl⟩
          rw [← hct] at x4 hcb
          have hl64 := (chks_zero.1 hz).1
          have hte : takeErr l k = if ct = 0 then 22 else 0 := by
            unfold takeErr
            rw [if_pos hz, if_neg (by omega), Int.toNat_natCast, ← hct]
          obtain ⟨hc0, hc1⟩ := hcb
          have HCT := hide hct; have HTE := hide hte; have X4 := hide x4
          clear hc x1 x2 x3 x5 x6 hct hte hz x4 hneg
          by_cases hcz : ct = 0
          · have hfin := take_fail (l := l) (i := k) (e := 22) (by rw [HTE.out, if_pos hcz]) (by decide)
            have HF := hide hfin
            have hcb : (ct == 0) = true := by simpa using hcz
            clear hfin hcz
            go_enter Tryd.func27, Tryd.ntmps27
            go_wp2_with (go_at_call 29; go_must (refine HC.out.mono ?_; rintro e w1 ⟨rfl, hb1⟩; have HB1 := hide hb1; have y4 := (hb1.cell (p := ⟨b, o + k * 6 + 3, none⟩) (show b < w.heap.size by omega)).trans X4.out; have hlt : b < w1.heap.size := Nat.lt_of_lt_of_le (show b < w.heap.size by omega) hb1.size; clear hb1))
            go_ret2
            exact ⟨_, rfl, HB1.out, HF.out _⟩
          · have hcb : (ct == 0) = false := by simpa using hcz
            have hte0 : takeErr l k = 0 := by rw [HTE.out, if_neg hcz]
            have HT0 := hide hte0
            have hsub : IntKind.i64.wrap (ct - 1) = ct - 1 := IntWalk.i64_in _ (by omega)
            clear hcz hte0
            go_enter Tryd.func27, Tryd.ntmps27
            go_wp2_with (go_at_call 29; go_must (refine HC.out.mono ?_; rintro e w1 ⟨rfl, hb1⟩; have HB1 := hide hb1; have y4 := (hb1.cell (p := ⟨b, o + k * 6 + 3, none⟩) (show b < w.heap.size by omega)).trans X4.out; have hlt : b < w1.heap.size := Nat.lt_of_lt_of_le (show b < w.heap.size by omega) hb1.size; clear hb1))
            have HB1s := HB1.out.size
            refine (cloneBars_any (.slice (some ⟨b, o, none⟩) l.length gc) l B w1 (HG.out.below HB1.out hB) (by omega) hl).mono ?_
            rintro e w2 ⟨v2, rfl, hown2, hb2⟩
            obtain ⟨a2, c2, hv2⟩ := owns_form hown2
            subst hv2
            rcases hown2.2 with ⟨_, h0⟩ | ⟨g, cap2, cur, hv, hg, hh, hcap2, hmax2, hsz2, htk2⟩
            · omega
            · cases hv
              have hcell := hown2.cells (g := g) rfl _ _ (bcells_at l k hk).2.2.2.1
              rw [Addr.add_lit, Nat.zero_add, ← HCT.out] at hcell
              have hfz : w2.frozen? ⟨g, k * 6 + 3, none⟩ = false := by simp [World.frozen?, hh]
              have hlg := lt_blk hh
              have HB2 := hide (HB1.out.trans (hb2.mono HB1s)); have HO2 := hide hown2; have HB12 := hide hb2
              clear hb2 hown2 hh htk2 y4
              go_wp2_with fail
              go_ret2
              refine ⟨_, rfl, HB2.out.setCell (p := ⟨g, k * 6 + 3, none⟩) (by simp; omega) _, _, by rw [HT0.out]; rfl, ?_⟩
              have h1 := bars_set (B := B) HO2.out ((HG.out.below HB1.out hB).below HB12.out (by omega)) (by omega) hk (ct - 1)
              unfold takeL
              rw [if_pos HT0.out, Int.toNat_natCast, ← HCT.out]
              have hsz : (w2.setCell ⟨g, k * 6 + 3, none⟩ (.int .i64 (ct - 1))).heap.size = w2.heap.size := by simp [World.setCell]
              rw [hsz]
              exact h1
  · have hzz : (chks l != 0) = true := by simpa using hz
    have hfin := take_fail (l := l) (i := i) (e := 1) (by simp [takeErr, hz]) (by decide)
    have HF := hide hfin
    clear hz hfin
    go_enter Tryd.func27, Tryd.ntmps27
    go_wp2_with (go_at_call 29; refine HC.out.mono ?_; rintro e w1 ⟨rfl, hb1⟩; have HB1 := hide hb1; clear hb1)
    go_ret2
    exact ⟨_, rfl, HB1.out, HF.out _⟩
theorem madeRow (w1 : World) : (w1.alloc (.cells #[] 24)).ownsRow w1.heap.size 24 6 (.slice (some ⟨w1.heap.size, 0, none⟩) 0 0) 0 [] := World.ownsRow_made w1 #[] 0 (Nat.le_refl _) (by simp [maxLen]) (by simp)
theorem news_past {w w1 : World} {b o : Nat} {xs : List Value} (hb : Below w.heap.size w w1) (hlt : b < w.heap.size) (hc : ∀ j u, xs[j]? = some u → w.cell? ⟨b, o + j, none⟩ = some u) (ob : Obj) :
    ∀ j u, xs[j]? = some u → (w1.alloc ob).cell? ((⟨b, o, none⟩ : Addr).add j) = some u := fun j u hu => by
  rw [Addr.add_lit]
  exact (World.cell?_alloc_past _ _ _ (Nat.lt_of_lt_of_le hlt hb.size)).trans ((hb.cell (p := ⟨b, o + j, none⟩) hlt).trans (hc j u hu))
theorem bars_own {base : Nat} {w : World} {v : Value} {l : List Br} (h : w.ownsRow base 24 6 v l.length (bcells l)) (hpos : 0 < l.length) :
    ∃ g cap, v = .slice (some ⟨g, 0, none⟩) l.length cap ∧ base ≤ g ∧ g < w.heap.size ∧ ∀ k, k < l.length → w.cell? ⟨g, k * 6 + 3, none⟩ = some (.int .i64 (bAt l k).ct) ∧ w.frozen? ⟨g, k * 6 + 3, none⟩ = false := by
  rcases h.2 with ⟨_, h0⟩ | ⟨g, cap2, cur, hv, hg, hh, _⟩
  · omega
  · refine ⟨g, cap2, hv, hg, lt_blk hh, fun k hk => ⟨?_, by simp [World.frozen?, hh]⟩⟩
    have hcell := h.cells (g := g) (by rw [hv]; rfl) _ _ (bcells_at l k hk).2.2.2.1
    rwa [Addr.add_lit, Nat.zero_add] at hcell
theorem some_ge {n k : Nat} (h : (some n : Option Nat) = some k) : n ≤ k := by
  cases h
  exact Nat.le_refl _
set_option maxRecDepth 100000 in
set_option maxHeartbeats 1000000 in
theorem rtake_any (v : Value) (l : List Br) (i : Int) (B : Nat) (w : World) (hg : BarsAt B w v l) (hB : B ≤ w.heap.size) (hl : l.length ≤ 65536) :
    Calls Tryd.prog 28 #[v, .int .i64 i] w (RetEx w (TakeAt l i)) := by
  obtain ⟨ga, gc, hv⟩ := SlAt.form hg.1
  subst hv
  have HC := hide (rchecks_any (.slice ga l.length gc) l B w hg hB)
  have HG := hide hg
  clear hg
  by_cases hz : chks l = 0
  · have hzz : (chks l != 0) = false := by simp [hz]
    by_cases hneg : i < 0
    · have hfin := take_fail (l := l) (i := i) (e := 2) (by simp [takeErr, hz, hneg]) (by decide)
      have HF := hide hfin
      clear hz hfin
      go_enter Tryd.func28, Tryd.ntmps28
      go_wp2_with (go_at_call 30; refine HC.out.mono ?_; rintro e w1 ⟨rfl, hb1⟩; have HB1 := hide hb1; clear hb1)
      go_ret2
      exact ⟨_, rfl, HB1.out, HF.out _⟩
    · by_cases hge : (l.length : Int) ≤ i
      · have hfin := take_fail (l := l) (i := i) (e := 2) (by simp [takeErr, hz, hge]) (by decide)
        have HF := hide hfin
        clear hz hfin
        go_enter Tryd.func28, Tryd.ntmps28
        go_wp2_with (go_at_call 30; refine HC.out.mono ?_; rintro e w1 ⟨rfl, hb1⟩; have HB1 := hide hb1; clear hb1)
        go_ret2
        exact ⟨_, rfl, HB1.out, HF.out _⟩
      · obtain ⟨k, rfl⟩ : ∃ k : Nat, (k : Int) = i := ⟨i.toNat, Int.toNat_of_nonneg (by omega)⟩
        have hk : k < l.length := by omega
        have hkk : (k : Int) < (l.length : Int) := by omega
        rcases HG.out.rows with ⟨_, _, _, h0⟩ | ⟨b, o, cap, hv, hb, hc⟩
        · rw [h0] at hk
          simp at hk
        · cases hv
          obtain ⟨x1, x2, x3, x4, x5, x6⟩ := hc k hk
          have hcellAll : ∀ j u, (bcells l)[j]? = some u → w.cell? ⟨b, o + j, none⟩ = some u := by
            rcases HG.out.1.cases with ⟨_, _, _, h0, _⟩ | ⟨b', o', cap', hv', _, hc'⟩
            · omega
            · cases hv'
              exact hc'
          have HCELL := hide hcellAll
          clear hcellAll
          have hcb := (chk_head (b := bAt l k) ((chks_zero.1 hz).2 k hk)).2.2.2.1
          obtain ⟨ct, hct⟩ : ∃ ct, ct = (bAt l k).ct := ⟨_, rfl⟩
          rw [← hct] at x4 hcb
          have hl64 := (chks_zero.1 hz).1
          have hte : takeErr l k = if ct = 0 then 22 else 0 := by
            unfold takeErr
            rw [if_pos hz, if_neg (by omega), Int.toNat_natCast, ← hct]
          obtain ⟨hc0, hc1⟩ := hcb
          have HCT := hide hct; have HTE := hide hte; have X4 := hide x4
          clear hc x1 x2 x3 x5 x6 hct hte hz x4 hneg
          by_cases hcz : ct = 0
          · have hfin := take_fail (l := l) (i := k) (e := 22) (by rw [HTE.out, if_pos hcz]) (by decide)
            have HF := hide hfin
            have hcb : (ct == 0) = true := by simpa using hcz
            clear hfin hcz
            go_enter Tryd.func28, Tryd.ntmps28
            go_wp2_with (go_at_call 30; go_must (refine HC.out.mono ?_; rintro e w1 ⟨rfl, hb1⟩; have HB1 := hide hb1; have y4 := (hb1.cell (p := ⟨b, o + k * 6 + 3, none⟩) (show b < w.heap.size by omega)).trans X4.out; have hlt : b < w1.heap.size := Nat.lt_of_lt_of_le (show b < w.heap.size by omega) hb1.size; clear hb1))
            go_ret2
            exact ⟨_, rfl, HB1.out, HF.out _⟩
          · have hcb : (ct == 0) = false := by simpa using hcz
            have hte0 : takeErr l k = 0 := by rw [HTE.out, if_neg hcz]
            have HT0 := hide hte0
            have hsub : IntKind.i64.wrap (ct - 1) = ct - 1 := IntWalk.i64_in _ (by omega)
            clear hcz hte0
            go_enter Tryd.func28, Tryd.ntmps28
            obtain ⟨i0, hi, hz0, hz1, hz2⟩ := info_parts info24
            have H1 := hide (bcells_one HG.out)
            go_wp2_with (first
              | (go_at_call 30; go_must (refine HC.out.mono ?_; rintro e w1 ⟨rfl, hb1⟩; have HB1 := hide hb1; have y4 := (hb1.cell (p := ⟨b, o + k * 6 + 3, none⟩) (show b < w.heap.size by omega)).trans X4.out; have hlt : b < w1.heap.size := Nat.lt_of_lt_of_le (show b < w.heap.size by omega) hb1.size; clear hb1); have HM := hide (madeRow w1); have HCL := hide (news_past HB1.out (show b < w.heap.size by omega) HCELL.out (.cells #[] 24)))
              | (at_builtin; go_must (refine wpList_append_own _ rfl (.tmp 24) (.tmp 25) 47 rfl w1.heap.size 24 i0 _ 6 64 Tryd.underlying47 hi hz0 hz1 hz2 rfl (by decide) _ _ _ rfl HM.out ⟨b, o, none⟩ l.length gc (bcells l) rfl (bcells_length l) HCL.out H1.out (by simp only [maxLen]; omega) (by omega) (by simp) ?_); intro v2 w2 hown2 hg2 hiff; clear hiff; have hb2 : Below w1.heap.size w1 w2 := (((Below.refl _ _).alloc (Nat.le_refl _) _).grown hg2 (by simp) (fun k hk => some_ge hk)); simp only [List.nil_append, Nat.zero_add] at hown2; obtain ⟨g, c2, hv2, hg, hlg, hall⟩ := bars_own hown2 (Nat.lt_of_le_of_lt (Nat.zero_le k) hk); subst hv2; obtain ⟨hcell, hfz⟩ := hall k hk; rw [← HCT.out] at hcell; have HO2 := hide hown2; have HB12 := hide hb2; have HB2 := hide (HB1.out.trans (hb2.mono HB1.out.size)); have HB1s := HB1.out.size; clear hown2 hb2 hg2 hall HM HCL)
              | fail)
            go_ret2
            refine ⟨_, rfl, HB2.out.setCell (p := ⟨g, k * 6 + 3, none⟩) (by simp; omega) _, _, by rw [HT0.out]; rfl, ?_⟩
            have h1 := bars_set (B := B) HO2.out ((HG.out.below HB1.out hB).below HB12.out (by omega)) (by omega) hk (ct - 1)
            unfold takeL
            rw [if_pos HT0.out, Int.toNat_natCast, ← HCT.out]
            have hsz : (w2.setCell ⟨g, k * 6 + 3, none⟩ (.int .i64 (ct - 1))).heap.size = w2.heap.size := by simp [World.setCell]
            rw [hsz]
            exact h1
  · have hzz : (chks l != 0) = true := by simpa using hz
    have hfin := take_fail (l := l) (i := i) (e := 1) (by simp [takeErr, hz]) (by decide)
    have HF := hide hfin
    clear hz hfin
    go_enter Tryd.func28, Tryd.ntmps28
    go_wp2_with (go_at_call 30; refine HC.out.mono ?_; rintro e w1 ⟨rfl, hb1⟩; have HB1 := hide hb1; clear hb1)
    go_ret2
    exact ⟨_, rfl, HB1.out, HF.out _⟩
end Go.Proofs.YtfljmbdnnjjmoaaDoor
