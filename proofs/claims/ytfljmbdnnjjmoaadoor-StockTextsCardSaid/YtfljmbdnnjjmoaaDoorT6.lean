/-
  Texts of bars, the program's reader: the walk.
-/
import Derived.Test.YtfljmbdnnjjmoaaDoorT5
import Derived.Maps.AppendAt
namespace Go.Proofs.YtfljmbdnnjjmoaaDoor
open Go.RowKit Go.KP Go.Shelf

def szOf : Value → Nat | .string b => b.size | _ => 0
/-- A row of bars that is being built: each bar's gaps lie in a row of their own. -/
structure BuildSt (base : Nat) (wr : World) (v : Value) (L : List Br) : Prop where
  own : wr.ownsRow base 24 6 v L.length (bcells L)
  gaps : ∀ i, i < L.length → wr.ownsRow base 31 2 (bAt L i).gv (bAt L i).gs.length (pcells (bAt L i).gs)
  apart : ∀ i, i < L.length → ∀ g, (bAt L i).gv.ownBlock = some g → v.ownBlock ≠ some g
theorem BuildSt.nil (base : Nat) (wr : World) : BuildSt base wr (.slice none 0 0) [] := ⟨World.ownsRow_nil _ _ _ _, fun i hi => by simp at hi, fun i hi => by simp at hi⟩
theorem BuildSt.on {base : Nat} {wr w2 : World} {v : Value} {L : List Br} (h : BuildSt base wr v L) (hb : Below wr.heap.size wr w2) : BuildSt base w2 v L :=
  ⟨owns_stay h.own (fun r hr => hb.block r (owns_lt h.own r hr)), fun i hi => owns_stay (h.gaps i hi) (fun r hr => hb.block r (owns_lt (h.gaps i hi) r hr)), h.apart⟩
theorem BuildSt.bars {base : Nat} {wr : World} {v : Value} {L : List Br} (h : BuildSt base wr v L) : BarsAt wr.heap.size wr v L := ⟨SlAt.of_owns h.own, fun i hi => SlAt.of_owns (h.gaps i hi)⟩
/-- One bar more: its gaps lie in a row that is there and is not the row of bars. -/
theorem BuildSt.snoc {base : Nat} {w4 w5 : World} {v v5 : Value} {L : List Br} {b : Br} (h : BuildSt base w4 v L) (hg : w4.ownsRow base 31 2 b.gv b.gs.length (pcells b.gs)) (hap : ∀ g, b.gv.ownBlock = some g → v.ownBlock ≠ some g)
    (hown : w5.ownsRow base 24 6 v5 (L ++ [b]).length (bcells (L ++ [b]))) (hgr : w4.grownBy w5 v.ownBlock) (hbl : v5.ownBlock = v.ownBlock ∨ v5.ownBlock = some w4.heap.size) : BuildSt base w5 v5 (L ++ [b]) := by
  have key : ∀ i, i < (L ++ [b]).length → w4.ownsRow base 31 2 (bAt (L ++ [b]) i).gv (bAt (L ++ [b]) i).gs.length (pcells (bAt (L ++ [b]) i).gs) ∧ ∀ g, (bAt (L ++ [b]) i).gv.ownBlock = some g → v.ownBlock ≠ some g := by
    intro i hi
    by_cases h1 : i < L.length
    · have e : bAt (L ++ [b]) i = bAt L i := by unfold bAt; rw [List.getElem?_append_left h1]
      rw [e]
      exact ⟨h.gaps i h1, h.apart i h1⟩
    · have h2 : i = L.length := by simp at hi; omega
      have e : bAt (L ++ [b]) i = b := by unfold bAt; rw [h2]; simp
      rw [e]
      exact ⟨hg, hap⟩
  refine ⟨hown, fun i hi => ?_, fun i hi g hgb => ?_⟩
  · obtain ⟨k1, k2⟩ := key i hi
    exact owns_stay k1 (fun r hr => hgr.block r (owns_lt k1 r hr) (fun e => k2 r hr e.symm))
  · obtain ⟨k1, k2⟩ := key i hi
    rcases hbl with e | e
    · rw [e]
      exact k2 g hgb
    · rw [e]
      have := owns_lt k1 g hgb
      intro h3
      injection h3 with h3
      omega

set_option maxRecDepth 100000 in
set_option maxHeartbeats 2000000 in
theorem parse_any (s : ByteArray) (hl : s.size ≤ 1000000) (B : Nat) (w : World) (hT : PT B w) (hB : B ≤ w.heap.size) :
    Calls Tryd.prog 41 #[.string s] w (RetEx w (ParseAt s.data.toList)) := by
  have HT := hide hT
  clear hT
  by_cases hbig : 65536 < s.size
  · have HF := hide (parse_fail (l := s.data.toList) (e := 4) (by unfold parsedE; rw [if_pos (by rw [Array.length_toList]; exact hbig)]) (by decide))
    go_enter Tryd.func41, Tryd.ntmps41
    go_wp2_with fail
    go_ret2
    exact ⟨_, rfl, Below.refl _ _, HF.out _⟩
  · have hpe : parsedE s.data.toList = match textL s.data.toList with | none => 3 | some bs => chks (bs.map toBr) := by
      unfold parsedE
      rw [if_neg (by rw [Array.length_toList]; exact hbig)]
      cases textL s.data.toList <;> rfl
    have HPE := hide hpe
    clear hpe
    go_enter Tryd.func41, Tryd.ntmps41
    go_wp2_with fail
    go_loopw [0, 4] (fun t v wr => ∃ (sr : ByteArray) (L : List Br) (bs : List (List Int × List (Int × Int))), t = .string sr ∧ L.length + sr.size ≤ 65536 ∧ sr.size ≤ s.size ∧ Hid (textL s.data.toList = (textL sr.data.toList).map (fun r => bs ++ r) ∧ AlikeAll L (bs.map toBr) ∧ BuildSt w.heap.size wr v L ∧ Below w.heap.size w wr)) (fun t _ _ => szOf t)
    case atStart =>
      refine ⟨s, [], [], rfl, by simp; omega, Nat.le_refl _, ?_, ⟨rfl, fun i hi => by simp at hi⟩, BuildSt.nil _ _, Below.refl _ _⟩
      cases textL s.data.toList <;> rfl
    case round =>
      obtain ⟨sr, L, bs, rfl, hlen, hsr, hin⟩ := hrel
      obtain ⟨va, vc, hvf⟩ := owns_form hin.out.2.2.1.own
      subst hvf
      by_cases h0 : sr.size = 0
      · have he : sr = ⟨#[]⟩ := by
          apply bytes_inj
          apply List.eq_nil_of_length_eq_zero
          rw [Array.length_toList]
          exact h0
        have hemp : sr.toList.isEmpty = true := by rw [he, ByteArray.toList_eq]; rfl
        have htx : textL s.data.toList = some bs := by
          rw [hin.out.1, he]
          simp [textL_nil]
        have HPE2 := hide (show parsedE s.data.toList = chks L by rw [HPE.out, htx, alike_chks hin.out.2.1])
        have HC := hide (checks_any _ L wr.heap.size wr hin.out.2.2.1.bars (Nat.le_refl _))
        have HTX := hide htx
        clear h0 he htx
        go_wp2_with fail
        refine HC.out.mono ?_
        rintro e w1 ⟨rfl, hb1⟩
        have HB1 := hide hb1
        clear hb1
        by_cases hz : chks L = 0
        · have hzz : (chks L != 0) = false := by simp [hz]
          go_wp2_with fail
          go_ret2
          refine ⟨_, rfl, hin.out.2.2.2.trans (HB1.out.mono hin.out.2.2.2.size), _, L, by rw [HPE2.out, hz]; rfl, ((hin.out.2.2.1.on HB1.out).bars), ?_⟩
          unfold parsedL
          rw [if_pos (HPE2.out.trans hz), HTX.out]
          exact hin.out.2.1
        · have hzz : (chks L != 0) = true := by simpa using hz
          go_wp2_with fail
          go_ret2
          exact ⟨_, rfl, hin.out.2.2.2.trans (HB1.out.mono hin.out.2.2.2.size), parse_fail HPE2.out hz _⟩
      · have hemp : sr.toList.isEmpty = false := by
          rw [ByteArray.toList_eq]
          cases hx : sr.data.toList with
          | nil =>
            have h1 : sr.data.toList.length = 0 := by rw [hx]; rfl
            rw [Array.length_toList] at h1
            exact absurd h1 h0
          | cons a r => rfl
        have hne : sr.data.toList ≠ [] := fun h => by
          have h1 : sr.data.toList.length = 0 := by rw [h]; rfl
          rw [Array.length_toList] at h1
          exact absurd h1 h0
        have HCUT := hide (cut_any 10 sr (by omega) B wr (HT.out.on (hin.out.2.2.2.mono hB)))
        have hcl := cut_len 10 sr.data.toList
        have hco := cut_one 10 sr.data.toList
        have HCO := hide hco; have HNE := hide hne
        clear hco hne
        go_wp2_with fail
        refine HCUT.out.mono ?_
        rintro e w2 ⟨rfl, hb2⟩
        obtain ⟨sl, hsl⟩ : ∃ sl : ByteArray, sl = ⟨(Lib.cut sr.data.toList [10]).1.toArray⟩ := ⟨_, rfl⟩
        obtain ⟨st, hst⟩ : ∃ st : ByteArray, st = ⟨(Lib.cut sr.data.toList [10]).2.1.toArray⟩ := ⟨_, rfl⟩
        obtain ⟨bi, hbi⟩ : ∃ bi, bi = (Lib.cut sr.data.toList [10]).2.2 := ⟨_, rfl⟩
        have hwl : sr.data.toList.length = sr.size := by rw [Array.length_toList]; rfl
        have hsl2 : (Lib.cut sr.data.toList [10]).1 = sl.data.toList := by rw [hsl]
        have hst2 : (Lib.cut sr.data.toList [10]).2.1 = st.data.toList := by rw [hst]
        have hls : sl.size ≤ 1000000 := by
          have : sl.data.toList.length = sl.size := by rw [Array.length_toList]; rfl
          rw [hsl2] at hcl
          omega
        have hstep : textL sr.data.toList = if bi = true then (match barL sl.data.toList with | none => none | some b => (textL st.data.toList).map fun x => b :: x) else none := by
          have hco := HCO.out
          by_cases hm : (10 : UInt8) ∈ sr.data.toList
          · rw [if_pos hm] at hco
            rw [hbi, ← hsl2, ← hst2, hco, textL_line hm]
            simp only [if_true]
            cases barL (List.takeWhile (ntb 10) sr.data.toList) <;> rfl
          · rw [if_neg hm] at hco
            rw [hbi, hco, textL_end HNE.out hm]
            simp
        have hstl : st.size < sr.size ∨ bi = false := by
          have hco := HCO.out
          by_cases hm : (10 : UInt8) ∈ sr.data.toList
          · left
            rw [if_pos hm] at hco
            obtain ⟨r, hr⟩ := dw_some 10 _ hm
            have h1 : st.data.toList.length = st.size := by rw [Array.length_toList]; rfl
            rw [hco, hr] at hst2
            have h2 := congrArg List.length (dw_drop (ntb 10) sr.data.toList)
            rw [hr, List.length_drop, List.length_cons] at h2
            have h3 := congrArg List.length hst2
            simp at h3
            omega
          · right
            rw [if_neg hm] at hco
            rw [hbi, hco]
        rw [← hsl, ← hst, ← hbi]
        have HSTEP := hide hstep; have HSTL := hide hstl
        have B2 := hide (hin.out.2.2.2.trans (hb2.mono hin.out.2.2.2.size)); have S2 := hide (hin.out.2.2.1.on hb2)
        have hs2 := hb2.size
        have hs0 := hin.out.2.2.2.size
        have HPB := hide (parseBar_any sl hls B w2 (HT.out.on (B2.out.mono hB)) (by omega))
        have HSL := hide hsl2; have HST := hide hst2; have HBI := hide hbi; have HTX := hide hin.out.1; have HAL := hide hin.out.2.1
        clear hsl hst hbi hwl hsl2 hst2 hcl hb2 HCUT hin hstep hstl
        go_wp2_with fail
        refine HPB.out.mono ?_
        rintro e w3 ⟨n0, n1, n2, n3, n4, gv, rfl, ⟨ga, gl, gc, rfl⟩, hbar, hb3⟩
        have B3 := hide (B2.out.trans (hb3.mono (by omega))); have S3 := hide (S2.out.on hb3)
        have hs3 := hb3.size
        have HBAR := hide hbar
        obtain ⟨bo, hbo⟩ : ∃ bo, bo = (barL sl.data.toList).isSome := ⟨_, rfl⟩
        rw [← hbo]
        have HBO := hide hbo
        clear hbar hb3 hbo HPB
        by_cases hall : (bi && bo) = true
        · obtain ⟨rfl, rfl⟩ : bi = true ∧ bo = true := by simpa using hall
          obtain ⟨⟨ns, gs⟩, hb⟩ : ∃ b, barL sl.data.toList = some b := Option.isSome_iff_exists.1 HBO.out.symm
          obtain ⟨hns, hgown⟩ := HBAR.out ns gs hb
          obtain ⟨br, hbr⟩ : ∃ br : Br, br = ⟨n0, n1, n2, n3, n4, .slice ga gl gc, gs⟩ := ⟨_, rfl⟩
          have hcells : bcells (L ++ [br]) = bcells L ++ [.int .i64 n0, .int .i64 n1, .int .i64 n2, .int .i64 n3, .int .i64 n4, .slice ga gl gc] := by
            rw [hbr]
            simp [bcells, Br.cells]
          have hlt : st.size < sr.size := HSTL.out.resolve_right (by simp)
          have HCE := hide hcells; have HBR := hide hbr; have HGO := hide hgown; have HNS := hide hns
          have HTX2 := hide (show textL s.data.toList = (textL st.data.toList).map (fun r => (bs ++ [(ns, gs)]) ++ r) by
            rw [HTX.out, HSTEP.out, if_pos rfl, hb]
            cases textL st.data.toList <;> simp)
          obtain ⟨o, ho⟩ : ∃ o : Obj, o = .cells #[.int .i64 n0, .int .i64 n1, .int .i64 n2, .int .i64 n3, .int .i64 n4, .slice ga gl gc] 24 := ⟨_, rfl⟩
          have HNW := hide (show ∀ j u, ([.int .i64 n0, .int .i64 n1, .int .i64 n2, .int .i64 n3, .int .i64 n4, .slice ga gl gc] : List Value)[j]? = some u → ((w3.alloc (.cells #[.int .i64 n0, .int .i64 n1, .int .i64 n2, .int .i64 n3, .int .i64 n4, .slice ga gl gc] 24)).alloc (.cells #[.int .i64 n0, .int .i64 n1, .int .i64 n2, .int .i64 n3, .int .i64 n4, .slice ga gl gc] 24)).cell? ((⟨w3.heap.size + 1, 0, none⟩ : Addr).add j) = some u from by
            have := World.news_of_block (cs := #[.int .i64 n0, .int .i64 n1, .int .i64 n2, .int .i64 n3, .int .i64 n4, .slice ga gl gc]) (t := 24) (fr := (0, 0)) (heap_alloc_new (w3.alloc (.cells #[.int .i64 n0, .int .i64 n1, .int .i64 n2, .int .i64 n3, .int .i64 n4, .slice ga gl gc] 24)) (.cells #[.int .i64 n0, .int .i64 n1, .int .i64 n2, .int .i64 n3, .int .i64 n4, .slice ga gl gc] 24))
            simpa using this)
          have HOW := hide ((S3.out.own.alloc (.cells #[.int .i64 n0, .int .i64 n1, .int .i64 n2, .int .i64 n3, .int .i64 n4, .slice ga gl gc] 24)).alloc (.cells #[.int .i64 n0, .int .i64 n1, .int .i64 n2, .int .i64 n3, .int .i64 n4, .slice ga gl gc] 24))
          obtain ⟨i0, hi0, hz0, hz1, hz2⟩ := info_parts info24
          clear hns hgown hbr hcells hb ho hall
          go_wp2_with (at_builtin; go_must (refine wpList_append_own_at _ rfl (.tmp 33) (.tmp 35) 47 rfl w.heap.size 24 i0 _ 6 64 Tryd.underlying47 hi0 hz0 hz1 hz2 rfl (by decide) (.slice va L.length vc) _ _ rfl HOW.out ⟨w3.heap.size + 1, 0, none⟩ 1 1 [.int .i64 n0, .int .i64 n1, .int .i64 n2, .int .i64 n3, .int .i64 n4, .slice ga gl gc] rfl rfl HNW.out (by simp [Value.oneCell']) (by simp only [maxLen]; omega) (by omega) (by simp; omega) ?_); intro v1 w5 hown hg1 hiff hbl; clear hiff; obtain ⟨a6, c6, hv6⟩ := owns_form hown; subst hv6; have HOW5 := hide hown; have HGR := hide hg1; have HBL := hide hbl; clear hown hg1 hbl)
          go_roundw
          case rel =>
            have hS : BuildSt w.heap.size ((w3.alloc (.cells #[.int .i64 n0, .int .i64 n1, .int .i64 n2, .int .i64 n3, .int .i64 n4, .slice ga gl gc] 24)).alloc (.cells #[.int .i64 n0, .int .i64 n1, .int .i64 n2, .int .i64 n3, .int .i64 n4, .slice ga gl gc] 24)) (.slice va L.length vc) L := S3.out.on (((Below.refl _ w3).alloc (Nat.le_refl _) _).alloc (by simp) _)
            have hap : ∀ g, br.gv.ownBlock = some g → (Value.slice va L.length vc).ownBlock ≠ some g := fun g hg h2 => by
              rw [HBR.out] at hg
              have h3 := (HGO.out.lt g hg).1
              have h4 := owns_lt S2.out.own g h2
              omega
            have hgg : ((w3.alloc (.cells #[.int .i64 n0, .int .i64 n1, .int .i64 n2, .int .i64 n3, .int .i64 n4, .slice ga gl gc] 24)).alloc (.cells #[.int .i64 n0, .int .i64 n1, .int .i64 n2, .int .i64 n3, .int .i64 n4, .slice ga gl gc] 24)).ownsRow w.heap.size 31 2 br.gv br.gs.length (pcells br.gs) := by
              rw [HBR.out]
              exact owns_mono ((HGO.out.alloc _).alloc _) (by omega)
            refine ⟨st, L ++ [br], bs ++ [(ns, gs)], rfl, by simp; omega, by omega, HTX2.out, ?_, hS.snoc hgg hap (by rw [HCE.out]; simpa using HOW5.out) HGR.out HBL.out, ((B3.out.alloc (by omega) _).alloc (by simp; omega) _).grown HGR.out (by simp; omega) (owns_ge S3.out.own (Nat.le_refl _))⟩
            rw [List.map_append]
            refine alike_snoc HAL.out ?_
            rw [HBR.out, HNS.out]
            exact ⟨rfl, rfl, rfl, rfl, rfl, rfl⟩
          case measure => simp [szOf]; omega
        · have hnone : textL s.data.toList = none := by
            rw [HTX.out, HSTEP.out]
            cases hb : bi with
            | false => simp
            | true =>
              have h1 : bo = false := by
                cases hq : bo with
                | false => rfl
                | true => rw [hb, hq] at hall; exact absurd rfl hall
              rw [HBO.out] at h1
              cases hx : barL sl.data.toList with
              | none => simp
              | some v => rw [hx] at h1; cases h1
          have HF := hide (parse_fail (l := s.data.toList) (e := 3) (by rw [HPE.out, hnone]) (by decide))
          clear hnone
          cases bi <;> cases bo <;> first
            | exact absurd rfl hall
            | (clear hall; go_wp2_with fail; go_ret2; exact ⟨_, rfl, B3.out.alloc (by omega) _, HF.out _⟩)
end Go.Proofs.YtfljmbdnnjjmoaaDoor
