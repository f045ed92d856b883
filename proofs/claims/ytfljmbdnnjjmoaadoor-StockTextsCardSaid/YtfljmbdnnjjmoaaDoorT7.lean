/-
  A line of a bar, the reference's reader: the walk.
-/
import Derived.Test.YtfljmbdnnjjmoaaDoorT6
import Derived.Deep.RegionHeld3
import Derived.Deep.RegionLaw
import Derived.Deep.AppendLies
import Derived.Deep.DrawnRows
namespace Go.Proofs.YtfljmbdnnjjmoaaDoor
open Go.RowKit Go.KP Go.Shelf

def lead (k : Nat) (l : List UInt8) : List UInt8 := if k = 0 then 32 :: l else l
def icells (ns : List Int) : List Value := ns.map (Value.int .i64)
theorem zero_cells {wr : World} {b : Nat} (h : wr.heap[b]? = some zeroBar) :
    (wr.cell? ⟨b, 0, none⟩ = some (.int .i64 0) ∧ wr.cell? ⟨b, 1, none⟩ = some (.int .i64 0) ∧ wr.cell? ⟨b, 2, none⟩ = some (.int .i64 0) ∧ wr.cell? ⟨b, 3, none⟩ = some (.int .i64 0) ∧ wr.cell? ⟨b, 4, none⟩ = some (.int .i64 0) ∧ wr.cell? ⟨b, 5, none⟩ = some (.slice none 0 0)) ∧
    (wr.frozen? ⟨b, 0, none⟩ = false ∧ wr.frozen? ⟨b, 1, none⟩ = false ∧ wr.frozen? ⟨b, 2, none⟩ = false ∧ wr.frozen? ⟨b, 3, none⟩ = false ∧ wr.frozen? ⟨b, 4, none⟩ = false ∧ wr.frozen? ⟨b, 5, none⟩ = false) := by
  have h0 := fun o => cell_blk h o
  have h2 := fun o => froz_blk h o
  exact ⟨⟨h0 0, h0 1, h0 2, h0 3, h0 4, h0 5⟩, ⟨h2 0, h2 1, h2 2, h2 3, h2 4, h2 5⟩⟩
theorem exit65 {R : Ending → World → Prop} {a : Act} {W : World} {b0 : Nat} {v0 v1 v2 v3 v4 v5 : Value} {q : Bool} (hb : W.heap[b0]? = some (.cells #[v0, v1, v2, v3, v4, v5] 24 (0, 0)))
    (h2 : a.tmps[2]? = some (.pointer (some ⟨b0, 0, none⟩))) (h3 : a.tmps[3]? = some (.bool q)) (hd : a.defers = []) (hR : R (.returned (.tuple #[.agg #[v0, v1, v2, v3, v4, v5], .bool q])) W) : bodyPost Tryd.prog Tryd.f65 R .ret a W := by
  have hcell := fun o => cell_blk hb o
  refine bodyPost_ret ?_ hd hR
  simp [results, go_sem, hcell, h2, h3]
theorem bytes_len (s : ByteArray) : s.data.toList.length = s.size := by rw [Array.length_toList]; rfl
theorem empty_yes {s : ByteArray} (h : s.size = 0) : s.toList.isEmpty = true := by
  rw [ByteArray.toList_eq, List.eq_nil_of_length_eq_zero ((bytes_len s).trans h)]
  rfl
theorem empty_no {s : ByteArray} (h : ¬ s.size = 0) : s.toList.isEmpty = false := by
  rw [ByteArray.toList_eq]
  cases hx : s.data.toList with
  | nil =>
    have h1 := bytes_len s
    rw [hx] at h1
    exact absurd h1.symm h
  | cons a r => rfl
theorem bytes_cons {s : ByteArray} (h : ¬ s.size = 0) : ∃ hp : 0 < s.size, s.data.toList = s[0] :: (s.extract 1 s.size).data.toList := by
  have hp : 0 < s.size := by omega
  refine ⟨hp, ?_⟩
  have h1 : (s.extract 1 s.size).data.toList = s.data.toList.drop 1 := Lib.extract_to_end s 1
  rw [h1]
  cases hx : s.data.toList with
  | nil =>
    have h1 := bytes_len s
    rw [hx] at h1
    exact absurd h1.symm h
  | cons a r =>
    have h2 := by_at (s := s) (j := 0) (x := a) (by rw [hx]; rfl) hp
    rw [h2]
    rfl
/-- The blocks of a line that the reference reads: the result, the bar. -/
structure LineB (w : World) (nb : Nat) (wr : World) (ns : List Int) (gv : Value) : Prop where
  res : wr.heap[w.heap.size]? = some zeroBar
  bar : wr.heap[nb]? = some (.cells (FA ns gv) 24 (0, 0))
  below : Below w.heap.size w wr
  lt : w.heap.size < nb
  size : nb < wr.heap.size
theorem LineB.on {w : World} {nb : Nat} {wr : World} {ns : List Int} {gv : Value} {w2 : World} (h : LineB w nb wr ns gv) (hb : Below wr.heap.size wr w2) : LineB w nb w2 ns gv := by
  have hs := h.size
  have hl := h.lt
  have hs2 := hb.size
  exact ⟨below_blk hb h.res (by omega), below_blk hb h.bar (by omega), h.below.trans (hb.mono (by omega)), hl, by omega⟩
theorem LineB.grew {w : World} {nb : Nat} {wr : World} {ns : List Int} {gv : Value} {w2 : World} {row : Option Nat} {o : Obj} (h : LineB w nb wr ns gv) (hg : (wr.alloc o).drew.grownBy w2 row) (hr : ∀ r, row = some r → nb < r) : LineB w nb w2 ns gv := by
  have hs := h.size
  have hl := h.lt
  have hsz := hg.size
  have e : (wr.alloc o).drew.heap.size = wr.heap.size + 1 := by simp
  have key : ∀ k, k ≤ nb → w2.heap[k]? = wr.heap[k]? := fun k hk => (hg.block k (by omega) (fun e2 => by have := hr k e2.symm; omega)).trans (Below.heap_alloc _ _ _ (by omega))
  exact ⟨(key _ (by omega)).trans h.res, (key _ (Nat.le_refl _)).trans h.bar, ((h.below.alloc (by omega) o).drew).grown hg (by omega) (fun k hk => by have := hr k hk; omega), hl, by omega⟩
theorem LineB.gaps {w : World} {nb : Nat} {wr : World} {ns : List Int} {gv : Value} (h : LineB w nb wr ns gv) (v : Value) : LineB w nb (wr.setCell ⟨nb, 5, none⟩ v) ns v := by
  have hl := h.lt
  exact ⟨(setCell_other (by omega)).trans h.res, blk_set h.bar, h.below.setCell (p := ⟨nb, 5, none⟩) (by simp; omega) _, hl, by rw [setCell_size]; exact h.size⟩
theorem LineB.field5 {w : World} {nb : Nat} {wr : World} {ns : List Int} {gv : Value} (h : LineB w nb wr ns gv) : wr.cell? ⟨nb, 5, none⟩ = some gv ∧ wr.frozen? ⟨nb, 5, none⟩ = false := ⟨cell_blk h.bar 5, froz_blk h.bar 5⟩
theorem LineB.cells {w : World} {nb : Nat} {wr : World} {ns : List Int} {gv : Value} (h : LineB w nb wr ns gv) :
    wr.cell? ⟨nb, 0, none⟩ = some (.int .i64 (ns.getD 0 0)) ∧ wr.cell? ⟨nb, 1, none⟩ = some (.int .i64 (ns.getD 1 0)) ∧ wr.cell? ⟨nb, 2, none⟩ = some (.int .i64 (ns.getD 2 0)) ∧ wr.cell? ⟨nb, 3, none⟩ = some (.int .i64 (ns.getD 3 0)) ∧ wr.cell? ⟨nb, 4, none⟩ = some (.int .i64 (ns.getD 4 0)) ∧ wr.cell? ⟨nb, 5, none⟩ = some gv := by
  have h1 := fun o => cell_blk h.bar o
  exact ⟨h1 0, h1 1, h1 2, h1 3, h1 4, h1 5⟩
theorem barRes_some2 {l : List UInt8} {w w' : World} {ns : List Int} {gs : List (Int × Int)} {gv : Value} {base : Nat} (hn : ns.length = 5) (h : barL l = some (ns, gs)) (hb0 : w.heap.size ≤ base) (hg : w'.ownsRow base 31 2 gv gs.length (pcells gs)) (hb : Below w.heap.size w w') :
    BarRes l w (.returned (.tuple #[barV (ns.getD 0 0) (ns.getD 1 0) (ns.getD 2 0) (ns.getD 3 0) (ns.getD 4 0) gv, .bool true])) w' := by
  obtain ⟨a, c, hv⟩ := owns_form hg
  refine ⟨_, _, _, _, _, gv, by rw [h]; rfl, ⟨a, _, c, hv⟩, (fun ns2 gs2 hh => ?_), hb⟩
  rw [h] at hh
  injection hh with hh
  injection hh with h1 h2
  subst h1; subst h2
  refine ⟨?_, owns_mono hg hb0⟩
  match ns, hn with
  | [_, _, _, _, _], _ => rfl
theorem barS0_nil : ∀ (l : List UInt8) (p : List Int × List (Int × Int)), barS 0 l = some p → p.1 = [] := by
  intro l p h
  have key : ∀ ws, barW 0 ws = some p → p.1 = [] := by
    intro ws h
    simp only [barW] at h
    cases hm : mapO gapW ws with
    | none => rw [hm] at h; cases h
    | some g =>
      rw [hm] at h
      simp only [Option.map_some] at h
      injection h with h
      rw [← h]
  cases l with
  | nil => exact key _ h
  | cons c r =>
    simp only [barS] at h
    by_cases hc : c = 32
    · rw [if_pos hc] at h
      exact key _ h
    · rw [if_neg hc] at h
      cases h
theorem barS0_pre (l : List UInt8) (ns : List Int) : (barS 0 l).map (preN ns) = (barS 0 l).map (fun p => (ns, [] ++ p.2)) := by
  cases h : barS 0 l with
  | none => rfl
  | some p =>
    have := barS0_nil l p h
    simp [preN, this]
set_option maxRecDepth 100000 in
set_option maxHeartbeats 4000000 in
theorem line_any (s : ByteArray) (hl : s.size ≤ 1000000) (B : Nat) (w : World) (hT : PT B w) (hB : B ≤ w.heap.size) :
    Calls Tryd.prog 65 #[.string s] w (BarRes s.data.toList w) := by
  have HT := hide hT
  clear hT
  obtain ⟨g0, gs, gb⟩ := heap1 w zeroBar
  have HG0 := hide g0; have HGB := hide gb
  obtain ⟨i0, hi0, hz0, hz1, hz2⟩ := info_parts info3
  clear g0 gb gs
  go_enter Tryd.func65, Tryd.ntmps65
  go_wp2_with fail
  go_loopw [0, 4, 5] (fun t v i wr => ∃ (k : Nat) (sr : ByteArray) (ns : List Int), k ≤ 5 ∧ i = .int .i64 k ∧ t = .string sr ∧ sr.size ≤ s.size ∧ Hid (ns.length = k ∧ barL s.data.toList = (barS (5 - k) (lead k sr.data.toList)).map (preN ns) ∧ wr.ownsRow (w.heap.size + 1) 3 1 v k (icells ns) ∧ wr.heap[w.heap.size]? = some zeroBar ∧ Below w.heap.size w wr)) (fun _ _ i _ => 5 - (intOf i).toNat)
  case atStart =>
    refine ⟨0, s, [], by omega, rfl, rfl, Nat.le_refl _, rfl, ?_, World.ownsRow_nil _ _ _ _, HG0.out, HGB.out⟩
    rw [barL_eq]
    show barS 5 (32 :: s.data.toList) = (barS 5 (32 :: s.data.toList)).map (preN [])
    cases barS 5 (32 :: s.data.toList) <;> rfl
  case round =>
    obtain ⟨k, sr, ns, hk, rfl, rfl, hsr, hin⟩ := hrel
    have hsz := lt_blk hin.out.2.2.2.1
    by_cases hlt : k < 5
    · have e3 : (k : Int) < 5 := by omega
      obtain ⟨⟨r0, r1, r2, r3, r4, r5⟩, f0, f1, f2, f3, f4, f5⟩ := zero_cells hin.out.2.2.2.1
      have HZ := hide hin.out.2.2.2.1
      obtain ⟨sr2, hs2, hmode⟩ : ∃ sr2 : ByteArray, sr2.size ≤ sr.size ∧ ((¬ 0 < k ∧ sr2 = sr ∧ barL s.data.toList = (barS (5 - k) (32 :: sr2.data.toList)).map (preN ns)) ∨
          (0 < k ∧ ¬ sr.size = 0 ∧ sr2 = sr.extract 1 sr.size ∧ (∃ hp : 0 < sr.size, ((sr[0].toNat : Int) != 32) = false) ∧ barL s.data.toList = (barS (5 - k) (32 :: sr2.data.toList)).map (preN ns)) ∨
          (0 < k ∧ sr.size = 0 ∧ barL s.data.toList = none) ∨ (0 < k ∧ ¬ sr.size = 0 ∧ (∃ hp : 0 < sr.size, ((sr[0].toNat : Int) != 32) = true) ∧ barL s.data.toList = none)) := by
        by_cases hk0 : 0 < k
        · have hbl : barL s.data.toList = (barS (5 - k) sr.data.toList).map (preN ns) := by
            rw [hin.out.2.1]
            unfold lead
            rw [if_neg (by omega)]
          by_cases h0 : sr.size = 0
          · refine ⟨sr, Nat.le_refl _, .inr (.inr (.inl ⟨hk0, h0, ?_⟩))⟩
            rw [hbl, List.eq_nil_of_length_eq_zero ((bytes_len sr).trans h0), show 5 - k = (4 - k) + 1 by omega]
            rfl
          · obtain ⟨hp, hc⟩ := bytes_cons h0
            by_cases h32 : sr[0] = 32
            · refine ⟨sr.extract 1 sr.size, by simp, .inr (.inl ⟨hk0, h0, rfl, ⟨hp, by rw [h32]; rfl⟩, ?_⟩)⟩
              rw [hbl, hc, h32]
            · refine ⟨sr, Nat.le_refl _, .inr (.inr (.inr ⟨hk0, h0, ⟨hp, ?_⟩, ?_⟩))⟩
              · have h1 : sr[0].toNat ≠ 32 := fun h => h32 (UInt8.toNat_inj.1 h)
                simp
                omega
              · rw [hbl, hc, barS_bad (not_stops (ntb_ne h32))]
                rfl
        · refine ⟨sr, Nat.le_refl _, .inl ⟨hk0, rfl, ?_⟩⟩
          rw [hin.out.2.1]
          unfold lead
          rw [if_pos (by omega)]
      rcases hmode with ⟨hk0, hex, hbl⟩ | ⟨hk0, h0, hex, ⟨hp, h32⟩, hbl⟩ | ⟨hk0, h0, hbl⟩ | ⟨hk0, h0, ⟨hp, h32⟩, hbl⟩
      case inr.inr.inl =>
        have hemp := empty_yes h0
        have HN := hide hbl
        have hk1 : (0 : Int) < (k : Int) := by omega
        clear h0 hbl
        go_wp2_with fail
        exact exit65 (set6 HZ.out _ _ _ _ _ _).1 rfl rfl rfl (barRes_none HN.out ⟨_, _, _, rfl⟩ (hin.out.2.2.2.2.trans (set6 HZ.out _ _ _ _ _ _).2))
      case inr.inr.inr =>
        have hemp := empty_no h0
        have HN := hide hbl
        have hk1 : (0 : Int) < (k : Int) := by omega
        clear h0 hbl
        go_wp2_with fail
        exact exit65 (set6 HZ.out _ _ _ _ _ _).1 rfl rfl rfl (barRes_none HN.out ⟨_, _, _, rfl⟩ (hin.out.2.2.2.2.trans (set6 HZ.out _ _ _ _ _ _).2))
      case' inl =>
        have HBL := hide hbl
        have HEX := hide hex
        have hk1 : ¬ (0 : Int) < (k : Int) := by omega
        clear hbl hex
        go_wp2_with fail
        rw [← HEX.out]
      case' inr.inl =>
        have HBL := hide hbl
        have HEX := hide hex
        have hemp := empty_no h0
        have hk1 : (0 : Int) < (k : Int) := by omega
        clear hbl hex h0
        go_wp2_with fail
        rw [← HEX.out]
      all_goals
        have HRN := hide (rnumber_any sr2 (by omega) B wr (HT.out.on (hin.out.2.2.2.2.mono hB)) (Nat.le_trans hB hin.out.2.2.2.2.size))
        refine HRN.out.mono ?_
        rintro e w2 ⟨rfl, hb2⟩
        obtain ⟨v, hv⟩ : ∃ v, v = (rnumL sr2.data.toList).1 := ⟨_, rfl⟩
        obtain ⟨i, hi⟩ : ∃ i, i = (rnumL sr2.data.toList).2 := ⟨_, rfl⟩
        rw [← hv, ← hi]
        have hZ2 := below_blk hb2 hin.out.2.2.2.1 hsz
        have HB2 := hide (hin.out.2.2.2.2.trans (hb2.mono hin.out.2.2.2.2.size))
        have HO2 := hide (owns_stay hin.out.2.2.1 (fun r hr => hb2.block r (owns_lt hin.out.2.2.1 r hr)))
        have hs2w := hb2.size
        have HV := hide hv; have HI := hide hi; have HZ2 := hide hZ2; have HNL := hide hin.out.1
        clear HRN hv hi hb2 hZ2 r0 r1 r2 r3 r4 r5 f0 f1 f2 f3 f4 f5
        by_cases hi0v : i = 0
        · obtain ⟨⟨r0, r1, r2, r3, r4, r5⟩, f0, f1, f2, f3, f4, f5⟩ := zero_cells HZ2.out
          have hq : (((i : Nat) : Int) == 0) = true := by rw [hi0v]; rfl
          have HN := hide (show barL s.data.toList = none by
            rw [HBL.out, show 5 - k = (4 - k) + 1 by omega, barS_num, num_none (by rw [← HI.out]; exact hi0v)]
            rfl)
          clear hi0v
          go_wp2_with fail
          exact exit65 (set6 HZ2.out _ _ _ _ _ _).1 rfl rfl rfl (barRes_none HN.out ⟨_, _, _, rfl⟩ (HB2.out.trans (set6 HZ2.out _ _ _ _ _ _).2))
        · have hq : (((i : Nat) : Int) == 0) = false := by simpa using hi0v
          obtain ⟨a, z, ha1, ha2, ha3, _, _⟩ := rnumL_pos (r := sr2.data.toList) (v := v) (i := i) (by rw [HV.out, HI.out]) (by omega)
          have hisz : i ≤ sr2.size := by
            rw [← bytes_len, ha1, List.length_append]
            omega
          have HST := hide (num_step (r := sr2.data.toList) (v := v) (i := i) (4 - k) (by rw [HV.out, HI.out]) (by omega))
          obtain ⟨va, vc, hvf⟩ := owns_form HO2.out
          rw [hvf] at HO2 ⊢
          have HOW := hide (show (w2.alloc (.cells #[.int .i64 v] 3)).drew.ownsRow (w.heap.size + 1) 3 1 (.slice va k vc) k (icells ns) from HO2.out.alloc _)
          have HNW := hide (show ∀ j u, ([.int .i64 v] : List Value)[j]? = some u → (w2.alloc (.cells #[.int .i64 v] 3)).drew.cell? ((⟨w2.heap.size, 0, none⟩ : Addr).add j) = some u from World.news_of_block (cs := #[.int .i64 v]) (t := 3) (fr := (0, 0)) (heap_alloc_new w2 _))
          have l0 : (0 : Int) ≤ (i : Int) := by omega
          have l1 : (i : Int) ≤ sr2.size := by omega
          clear hi0v ha1 ha2 ha3 hvf
          go_wp2_with fail
          go_region_held3 (fun _ => True) (trivial)
            (first
              | (refine step_append_lies _ ?_ (.tmp 36) (.tmp 38) 34 ?_ (w.heap.size + 1) 3 i0 _ 1 8 Tryd.underlying34 hi0 hz0 hz1 hz2 rfl ?_ (.slice va k vc) k (icells ns) ?_ HOW.out ⟨w2.heap.size, 0, none⟩ 1 1 [.int .i64 v] ?_ ?_ HNW.out ?_ ?_ ?_ ?_ ?_ (w2.heap.size + 1) ?_ ?_
                 · rfl
                 · rfl
                 · omega
                 · rfl
                 · rfl
                 · rfl
                 · simp [Value.oneCell']
                 · omega
                 · simp only [maxLen]; omega
                 · omega
                 · simp; omega
                 · simp
                 intro gg cap w3 hown hgrow hat hlt3
                 have HOWN := hide hown; have HGR := hide hgrow
                 clear hown hgrow hat)
              | fail)
          go_wp2_with fail
          go_roundw
          case rel =>
            refine ⟨k + 1, sr2.extract i sr2.size, ns ++ [(v : Int)], by omega, by go_num, rfl, by simp; omega, by rw [List.length_append, HNL.out]; rfl, ?_, by simpa [icells] using HOWN.out, ?_, ?_⟩
            · have e1 : (sr2.extract i sr2.size).data.toList = sr2.data.toList.drop i := Lib.extract_to_end sr2 i
              rw [HBL.out, show 5 - k = (4 - k) + 1 by omega, HST.out, show 5 - (k + 1) = 4 - k by omega]
              unfold lead
              rw [if_neg (by omega), e1, Option.map_map]
              congr 1
              funext p
              simp [preN, consN]
            · exact (HGR.out.block _ (by simp; omega) (owns_ne HO2.out (by omega))).trans ((Below.heap_alloc _ _ _ (by omega)).trans HZ2.out)
            · exact ((HB2.out.alloc (by omega) _).drew).grown HGR.out (by simp; omega) (owns_ge HO2.out (by omega))
          case measure => simp [intOf]; omega
    · have e3 : ¬ (k : Int) < 5 := by omega
      obtain ⟨wo, hwo⟩ : ∃ wo, wo = wr := ⟨_, rfl⟩
      subst hwo
      have hk5 : k = 5 := by omega
      have hn5 : ns.length = 5 := hin.out.1.trans hk5
      obtain ⟨n0, n1, n2, n3, n4, hns⟩ : ∃ n0 n1 n2 n3 n4, ns = [n0, n1, n2, n3, n4] := by
        match ns, hn5 with
        | [_, _, _, _, _], _ => exact ⟨_, _, _, _, _, rfl⟩
      have HB0 := hide (show barL s.data.toList = (barS 0 sr.data.toList).map (preN ns) by
        rw [hin.out.2.1, show 5 - k = 0 by omega]
        unfold lead
        rw [if_neg (by omega)])
      obtain ⟨va, vc, hvf⟩ := owns_form hin.out.2.2.1
      subst hvf
      obtain ⟨g, hvf, hg1, hg2, hcl⟩ : ∃ g, va = some ⟨g, 0, none⟩ ∧ w.heap.size + 1 ≤ g ∧ g < wo.heap.size ∧ (∀ i u, (icells ns)[i]? = some u → wo.cell? ⟨g, i, none⟩ = some u) := by
        have ho := hin.out.2.2.1
        rcases ho.2 with ⟨h1, h2⟩ | ⟨g, cap, cur, hv, hg, hh, _⟩
        · omega
        · injection hv with hv1 hv2 hv3
          refine ⟨g, hv1, hg, lt_blk hh, fun i u hu => ?_⟩
          have := ho.cells (g := g) (by rw [hv1]; rfl) i u hu
          rw [Addr.add_lit] at this
          simpa using this
      subst hvf
      have c0 := hcl 0 (.int .i64 n0) (by rw [hns]; rfl)
      have c1 := hcl 1 (.int .i64 n1) (by rw [hns]; rfl)
      have c2 := hcl 2 (.int .i64 n2) (by rw [hns]; rfl)
      have c3 := hcl 3 (.int .i64 n3) (by rw [hns]; rfl)
      have c4 := hcl 4 (.int .i64 n4) (by rw [hns]; rfl)
      have HNS := hide hns; have HN5 := hide hn5; have HK5 := hide hk5; have HZ := hide hin.out.2.2.2.1; have HBW := hide hin.out.2.2.2.2
      have hk4 : (4 : Int) < (k : Int) := by omega
      have hk3 : (3 : Int) < (k : Int) := by omega
      have hk2 : (2 : Int) < (k : Int) := by omega
      have hk1 : (1 : Int) < (k : Int) := by omega
      have hk0 : (0 : Int) < (k : Int) := by omega
      have hk0n : 0 < k := by omega
      clear hin hcl hns hn5 hk5
      go_wp2_with fail
      go_region_held3 (fun w' => w'.cell? ⟨g, 0, none⟩ = some (.int .i64 n0) ∧ w'.cell? ⟨g, 1, none⟩ = some (.int .i64 n1) ∧ w'.cell? ⟨g, 2, none⟩ = some (.int .i64 n2) ∧ w'.cell? ⟨g, 3, none⟩ = some (.int .i64 n3) ∧ w'.cell? ⟨g, 4, none⟩ = some (.int .i64 n4)) (first | go_keep) (fail)
      go_wp2_with fail
      have HNB := hide (show (wo.alloc (.cells #[.int .i64 n0, .int .i64 n1, .int .i64 n2, .int .i64 n3, .int .i64 n4, .slice none 0 0] 24)).heap[wo.heap.size]? = some (.cells (FA ns (.slice none 0 0)) 24 (0, 0)) from by rw [HNS.out]; exact heap_alloc_new wo _)
      obtain ⟨i1, hi1, hy0, hy1, hy2⟩ := info_parts info31
      have ltw : w.heap.size < wo.heap.size := hsz
      clear c0 c1 c2 c3 c4 hk0 hk1 hk2 hk3 hk4 hi0 hz0 hz1 hz2
      go_loopw [0] (fun t wr => ∃ (sr : ByteArray) (gs : List (Int × Int)) (gv : Value), t = .string sr ∧ gs.length + sr.size ≤ 1000000 ∧ Hid (barL s.data.toList = (barS 0 sr.data.toList).map (fun p => (ns, gs ++ p.2)) ∧ wr.ownsRow (wo.heap.size + 1) 31 2 gv gs.length (pcells gs) ∧ LineB w wo.heap.size wr ns gv)) (fun t _ => szOf t)
      case atStart =>
        refine ⟨sr, [], .slice none 0 0, rfl, by simp; omega, ?_, ?_⟩
        · rw [HB0.out]
          exact barS0_pre _ _
        · exact ⟨World.ownsRow_nil _ _ _ _, (Below.heap_alloc _ _ _ ltw).trans HZ.out, HNB.out, (HBW.out.alloc (by omega) _).drew, ltw, by simp⟩
      case round =>
        obtain ⟨sr, gs, gv, rfl, hlen, hin⟩ := hrel
        obtain ⟨⟨r0, r1, r2, r3, r4, r5⟩, f0, f1, f2, f3, f4, f5⟩ := zero_cells hin.out.2.2.res
        have hsz2 := hin.out.2.2.size
        by_cases h0 : sr.size = 0
        · have hemp := empty_yes h0
          have HBF := hide (show barL s.data.toList = some (ns, gs) by
            rw [hin.out.1, List.eq_nil_of_length_eq_zero ((bytes_len sr).trans h0)]
            simp [barS, barW, mapO])
          obtain ⟨a5, c5v, hgv⟩ := owns_form hin.out.2.1
          subst hgv
          have HLF := hide hin.out.2.2; have HOF := hide hin.out.2.1
          clear hin h0
          obtain ⟨b0, b1, b2, b3, b4, b5⟩ := HLF.out.cells
          go_wp2_with fail
          exact exit65 (set6 HLF.out.res _ _ _ _ _ _).1 rfl rfl rfl (barRes_some2 HN5.out HBF.out (Nat.le_succ_of_le (Nat.le_of_lt ltw)) (owns_stay HOF.out (fun r hr => set6_other (fun h => by have := (HOF.out.lt r hr).1; omega) _ _ _ _ _ _)) (HLF.out.below.trans (set6 HLF.out.res _ _ _ _ _ _).2))
        · have hemp := empty_no h0
          obtain ⟨hp, hc⟩ := bytes_cons h0
          obtain ⟨a5, l5, c5v, hgv⟩ : ∃ a l c, gv = .slice a l c := by
            obtain ⟨a, c, h⟩ := owns_form hin.out.2.1
            exact ⟨a, _, c, h⟩
          by_cases h32 : sr[0] = 32
          case neg =>
            have hq : ((sr[0].toNat : Int) != 32) = true := by
              have h1 : sr[0].toNat ≠ 32 := fun h => h32 (UInt8.toNat_inj.1 h)
              simp
              omega
            have HN := hide (show barL s.data.toList = none by rw [hin.out.1, hc, barS_bad (not_stops (ntb_ne h32))]; rfl)
            have HLF := hide hin.out.2.2; have HOF := hide hin.out.2.1
            clear hin h0 hc h32
            go_wp2_with fail
            exact exit65 (set6 HLF.out.res _ _ _ _ _ _).1 rfl rfl rfl (barRes_none HN.out ⟨_, _, _, rfl⟩ (HLF.out.below.trans (set6 HLF.out.res _ _ _ _ _ _).2))
          case pos =>
            have hq : ((sr[0].toNat : Int) != 32) = false := by rw [h32]; rfl
            obtain ⟨s1, hs1⟩ : ∃ s1, s1 = sr.extract 1 sr.size := ⟨_, rfl⟩
            have hs1z : s1.size + 1 ≤ sr.size := by rw [hs1]; simp; omega
            have HBL := hide (show barL s.data.toList = (barS 0 (32 :: s1.data.toList)).map (fun p => (ns, gs ++ p.2)) by rw [hin.out.1, hc, h32, hs1])
            have HEX := hide hs1
            have HL := hide hin.out.2.2; have HO := hide hin.out.2.1
            have HRN := hide (rnumber_any s1 (by omega) B wr (HT.out.on (HL.out.below.mono hB)) (Nat.le_trans hB HL.out.below.size))
            have hpos : 0 < sr.size := by omega
            clear hin h0 hc h32 hs1
            go_wp2_with fail
            rw [← HEX.out]
            refine HRN.out.mono ?_
            rintro e w2 ⟨rfl, hb2⟩
            obtain ⟨x, hx⟩ : ∃ x, x = (rnumL s1.data.toList).1 := ⟨_, rfl⟩
            obtain ⟨i, hi⟩ : ∃ i, i = (rnumL s1.data.toList).2 := ⟨_, rfl⟩
            rw [← hx, ← hi]
            have HL2 := hide (HL.out.on hb2); have HO2 := hide (owns_stay HO.out (fun r hr => hb2.block r (owns_lt HO.out r hr)))
            have hs2w := hb2.size
            have HX := hide hx; have HI := hide hi
            clear HRN hx hi hb2 r0 r1 r2 r3 r4 r5 f0 f1 f2 f3 f4 f5
            obtain ⟨⟨r0, r1, r2, r3, r4, r5⟩, f0, f1, f2, f3, f4, f5⟩ := zero_cells HL2.out.res
            have hcase : (i = 0 ∧ barS 0 (32 :: s1.data.toList) = none) ∨ (¬ i = 0 ∧ i = s1.size ∧ barS 0 (32 :: s1.data.toList) = none) ∨ (¬ i = 0 ∧ ∃ h : i < s1.size, (((s1[i]'h).toNat : Int) != 45) = true ∧ barS 0 (32 :: s1.data.toList) = none) ∨
                (¬ i = 0 ∧ ∃ h : i < s1.size, (((s1[i]'h).toNat : Int) != 45) = false ∧ s1.data.toList[i]? = some 45) := by
              by_cases hi0 : i = 0
              · exact .inl ⟨hi0, gap_none (.inl (by rw [← HI.out]; exact hi0))⟩
              have hle : i ≤ s1.size := by
                obtain ⟨a, z, ha1, _, ha3, _, _⟩ := rnumL_pos (r := s1.data.toList) (v := x) (i := i) (by rw [HX.out, HI.out]) (by omega)
                rw [← bytes_len, ha1, List.length_append]
                omega
              by_cases hi1 : i = s1.size
              · refine .inr (.inl ⟨hi0, hi1, gap_none (.inr (.inl ?_))⟩)
                rw [← HI.out, List.getElem?_eq_none (by rw [bytes_len]; omega)]
                simp
              have hlt : i < s1.size := by omega
              have hat : s1.data.toList[i]? = some (s1[i]'hlt) := by
                have h1 : s1.data.toList[i]? = some s1.data[i] := by simp
                exact h1
              by_cases h45 : s1[i]'hlt = 45
              · exact .inr (.inr (.inr ⟨hi0, hlt, by rw [h45]; rfl, by rw [hat, h45]⟩))
              · refine .inr (.inr (.inl ⟨hi0, hlt, ?_, gap_none (.inr (.inl ?_))⟩))
                · have h1 : (s1[i]'hlt).toNat ≠ 45 := fun h => h45 (UInt8.toNat_inj.1 h)
                  simp
                  omega
                · rw [← HI.out, hat]
                  intro h
                  injection h with h
                  exact h45 h
            rcases hcase with ⟨hi0, hn⟩ | ⟨hi0, hi1, hn⟩ | ⟨hi0, hlt, hq45, hn⟩ | ⟨hi0, hlt, hq45, h45⟩
            case inl =>
              have HN := hide (show barL s.data.toList = none by rw [HBL.out, hn]; rfl)
              have hz : (((i : Nat) : Int) == 0) = true := by rw [hi0]; rfl
              clear hn hi0
              go_wp2_with fail
              exact exit65 (set6 HL2.out.res _ _ _ _ _ _).1 rfl rfl rfl (barRes_none HN.out ⟨_, _, _, rfl⟩ (HL2.out.below.trans (set6 HL2.out.res _ _ _ _ _ _).2))
            case inr.inl =>
              have HN := hide (show barL s.data.toList = none by rw [HBL.out, hn]; rfl)
              have hz : (((i : Nat) : Int) == 0) = false := by simpa using hi0
              have hz2 : (((i : Nat) : Int) == (s1.size : Int)) = true := by rw [hi1]; simp
              clear hn hi0 hi1
              go_wp2_with fail
              exact exit65 (set6 HL2.out.res _ _ _ _ _ _).1 rfl rfl rfl (barRes_none HN.out ⟨_, _, _, rfl⟩ (HL2.out.below.trans (set6 HL2.out.res _ _ _ _ _ _).2))
            case inr.inr.inl =>
              have HN := hide (show barL s.data.toList = none by rw [HBL.out, hn]; rfl)
              have hz : (((i : Nat) : Int) == 0) = false := by simpa using hi0
              have hz2 : (((i : Nat) : Int) == (s1.size : Int)) = false := by simp; omega
              have l0 : (0 : Int) ≤ (i : Int) := by omega
              have l1 : (i : Int) < s1.size := by omega
              clear hn hi0
              go_wp2_with fail
              exact exit65 (set6 HL2.out.res _ _ _ _ _ _).1 rfl rfl rfl (barRes_none HN.out ⟨_, _, _, rfl⟩ (HL2.out.below.trans (set6 HL2.out.res _ _ _ _ _ _).2))
            case inr.inr.inr =>
              have hz : (((i : Nat) : Int) == 0) = false := by simpa using hi0
              have hz2 : (((i : Nat) : Int) == (s1.size : Int)) = false := by simp; omega
              have l0 : (0 : Int) ≤ (i : Int) := by omega
              have l1 : (i : Int) < s1.size := by omega
              have hi0p : 0 < i := by omega
              obtain ⟨s2, hs2⟩ : ∃ s2, s2 = s1.extract (i + 1) s1.size := ⟨_, rfl⟩
              have hs2z : s2.size + (i + 1) ≤ s1.size := by rw [hs2]; simp; omega
              have hs2l : s2.data.toList = s1.data.toList.drop (i + 1) := by rw [hs2]; exact Lib.extract_to_end s1 (i + 1)
              have HEX2 := hide hs2; have HS2L := hide hs2l; have H45 := hide h45
              have HRN := hide (rnumber_any s2 (by omega) B w2 (HT.out.on (HL2.out.below.mono hB)) (Nat.le_trans hB HL2.out.below.size))
              clear hi0 hs2 hs2l h45
              go_wp2_with fail
              rw [← HEX2.out]
              refine HRN.out.mono ?_
              rintro e w3 ⟨rfl, hb3⟩
              obtain ⟨y, hy⟩ : ∃ y, y = (rnumL s2.data.toList).1 := ⟨_, rfl⟩
              obtain ⟨j, hj⟩ : ∃ j, j = (rnumL s2.data.toList).2 := ⟨_, rfl⟩
              rw [← hy, ← hj]
              have HL3 := hide (HL2.out.on hb3); have HO3 := hide (owns_stay HO2.out (fun r hr => hb3.block r (owns_lt HO2.out r hr)))
              have hs3w := hb3.size
              have HY := hide hy; have HJ := hide hj
              clear HRN hy hj hb3 r0 r1 r2 r3 r4 r5 f0 f1 f2 f3 f4 f5
              by_cases hj0 : j = 0
              · obtain ⟨⟨r0, r1, r2, r3, r4, r5⟩, f0, f1, f2, f3, f4, f5⟩ := zero_cells HL3.out.res
                have HN := hide (show barL s.data.toList = none by
                  rw [HBL.out, gap_none (.inr (.inr (by rw [← HI.out, ← HS2L.out, ← HJ.out]; exact hj0)))]
                  rfl)
                have hzj : (((j : Nat) : Int) == 0) = true := by rw [hj0]; rfl
                clear hj0
                go_wp2_with fail
                exact exit65 (set6 HL3.out.res _ _ _ _ _ _).1 rfl rfl rfl (barRes_none HN.out ⟨_, _, _, rfl⟩ (HL3.out.below.trans (set6 HL3.out.res _ _ _ _ _ _).2))
              · have hzj : (((j : Nat) : Int) == 0) = false := by simpa using hj0
                have hjle : j ≤ s2.size := by
                  obtain ⟨a, z, ha1, _, ha3, _, _⟩ := rnumL_pos (r := s2.data.toList) (v := y) (i := j) (by rw [HY.out, HJ.out]) (by omega)
                  rw [← bytes_len, ha1, List.length_append]
                  omega
                have m0 : (0 : Int) ≤ (j : Int) := by omega
                have m1 : (j : Int) ≤ s2.size := by omega
                have HSTEP := hide (gap_step (r := s1.data.toList) (x := x) (y := y) (i := i) (j := j) (by rw [HX.out, HI.out]) hi0p H45.out (by rw [← HS2L.out, HY.out, HJ.out]) (by omega))
                have hlg : w.heap.size < w3.heap.size := by have := HL3.out.size; omega
                have hlb := HL3.out.size
                obtain ⟨gp, gq⟩ := HL3.out.field5
                subst hgv
                have HOW := hide (show (w3.alloc (.cells #[.int .i64 x, .int .i64 y] 31)).drew.ownsRow (wo.heap.size + 1) 31 2 (.slice a5 l5 c5v) gs.length (pcells gs) from HO3.out.alloc _)
                have HNW := hide (show ∀ j u, ([.int .i64 x, .int .i64 y] : List Value)[j]? = some u → (w3.alloc (.cells #[.int .i64 x, .int .i64 y] 31)).drew.cell? ((⟨w3.heap.size, 0, none⟩ : Addr).add j) = some u from World.news_of_block (cs := #[.int .i64 x, .int .i64 y]) (t := 31) (fr := (0, 0)) (heap_alloc_new w3 _))
                clear hj0
                go_wp2_with fail
                go_region_law
                  (first
                    | (refine step_append_lies _ ?_ (.tmp 100) (.tmp 104) 22 ?_ (wo.heap.size + 1) 31 i1 _ 2 16 Tryd.underlying22 hi1 hy0 hy1 hy2 rfl ?_ (.slice a5 l5 c5v) gs.length (pcells gs) ?_ HOW.out ⟨w3.heap.size, 0, none⟩ 1 1 [.int .i64 x, .int .i64 y] ?_ ?_ HNW.out ?_ ?_ ?_ ?_ ?_ (w3.heap.size + 1) ?_ ?_
                       · rfl
                       · rfl
                       · omega
                       · rfl
                       · rfl
                       · rfl
                       · simp [Value.oneCell']
                       · omega
                       · simp only [maxLen]; omega
                       · omega
                       · simp; omega
                       · simp
                       intro gg cap2 w4 hown hgrow hat hlt3
                       have HL4 := hide (HL3.out.grew hgrow (fun r hr => (HO3.out.lt r hr).1))
                       have HOWN := hide hown
                       have q5 := (HL4.out.field5).1
                       have q6 := (HL4.out.field5).2
                       clear hown hgrow hat)
                    | fail)
                all_goals
                  simp only [Act.put, List.setIfInBounds_toArray, List.set_cons_zero, List.getElem_toArray, List.getElem_cons_zero, List.getElem_cons_succ]
                  go_wp2_with fail
                  go_roundw
                  case rel =>
                    refine ⟨s2.extract j s2.size, gs ++ [((x : Int), (y : Int))], _, rfl, by simp; omega, ?_, ?_, HL4.out.gaps _⟩
                    · have e1 : (s2.extract j s2.size).data.toList = s2.data.toList.drop j := Lib.extract_to_end s2 j
                      rw [HBL.out, HSTEP.out, e1, HS2L.out, Option.map_map]
                      congr 1
                      funext p
                      simp [consG]
                    · rw [pcells_append, List.length_append]
                      exact owns_stay (by simpa [pcells] using HOWN.out) (fun r hr => setCell_other (fun h => by have := (HOWN.out.lt r hr).1; omega))
                  case measure => simp [szOf]; omega
end Go.Proofs.YtfljmbdnnjjmoaaDoor
