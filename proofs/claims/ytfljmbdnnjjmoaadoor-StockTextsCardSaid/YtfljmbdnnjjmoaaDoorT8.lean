/-
  Texts of bars, the reference's reader: the walk.
-/
import Derived.Test.YtfljmbdnnjjmoaaDoorT7
namespace Go.Proofs.YtfljmbdnnjjmoaaDoor
open Go.RowKit Go.KP Go.Shelf

theorem line_at {l : List UInt8} {f k : Nat} (hfk : f ≤ k) (h : ∀ j, f ≤ j → j < k → l[j]? ≠ some 10) (hk : l[k]? = some 10) :
    textL (l.drop f) = match barL ((l.drop f).take (k - f)) with | none => none | some b => (textL (l.drop (k + 1))).map fun x => b :: x := by
  obtain ⟨hlt, hat⟩ := List.getElem?_eq_some_iff.1 hk
  have e1 : (l.drop f).drop (k - f) = 10 :: l.drop (k + 1) := by
    rw [List.drop_drop, show f + (k - f) = k by omega, List.drop_eq_getElem_cons hlt, hat]
  have e2 : l.drop f = (l.drop f).take (k - f) ++ 10 :: l.drop (k + 1) := by
    rw [← e1, List.take_append_drop]
  have hn : ∀ x ∈ (l.drop f).take (k - f), ntb 10 x = true := by
    intro x hx
    obtain ⟨j, hj, rfl⟩ := List.mem_iff_getElem.1 hx
    refine ntb_ne (fun he => ?_)
    have hjl : j < k - f := by
      rw [List.length_take] at hj
      omega
    refine h (f + j) (by omega) (by omega) ?_
    rw [← he]
    simp
  obtain ⟨t1, t2⟩ := twa hn (z := 10 :: l.drop (k + 1)) (.inr ⟨10, _, rfl, ntb_eq 10⟩)
  rw [← e2] at t1 t2
  rw [textL_line (by rw [e2]; simp), t1, t2]
  rfl
set_option maxRecDepth 100000 in
set_option maxHeartbeats 4000000 in
theorem rparse_any (s : ByteArray) (hl : s.size ≤ 1000000) (B : Nat) (w : World) (hT : PT B w) (hB : B ≤ w.heap.size) :
    Calls Tryd.prog 42 #[.string s] w (RetEx w (ParseAt s.data.toList)) := by
  have HT := hide hT
  clear hT
  by_cases hbig : 65536 < s.size
  · have HF := hide (parse_fail (l := s.data.toList) (e := 4) (by unfold parsedE; rw [if_pos (by rw [Array.length_toList]; exact hbig)]) (by decide))
    go_enter Tryd.func42, Tryd.ntmps42
    go_wp2_with fail
    go_ret2
    exact ⟨_, rfl, Below.refl _ _, HF.out _⟩
  · have hpe : parsedE s.data.toList = match textL s.data.toList with | none => 3 | some bs => chks (bs.map toBr) := by
      unfold parsedE
      rw [if_neg (by rw [Array.length_toList]; exact hbig)]
      cases textL s.data.toList <;> rfl
    have HPE := hide hpe
    clear hpe
    go_enter Tryd.func42, Tryd.ntmps42
    go_wp2_with fail
    go_loopw [4, 5, 6] (fun v fr i wr => ∃ (f k : Nat) (L : List Br) (bs : List (List Int × List (Int × Int))), fr = .int .i64 f ∧ i = .int .i64 k ∧ f ≤ k ∧ k ≤ s.size ∧ L.length ≤ f ∧ Hid (textL s.data.toList = (textL (s.data.toList.drop f)).map (fun r => bs ++ r) ∧ (∀ j, f ≤ j → j < k → s.data.toList[j]? ≠ some 10) ∧ AlikeAll L (bs.map toBr) ∧ BuildSt w.heap.size wr v L ∧ Below w.heap.size w wr)) (fun _ _ i _ => s.size - (intOf i).toNat)
    case atStart =>
      refine ⟨0, 0, [], [], rfl, rfl, Nat.le_refl _, Nat.zero_le _, Nat.le_refl _, ?_, fun j h1 h2 => by omega, ⟨rfl, fun i hi => by simp at hi⟩, BuildSt.nil _ _, Below.refl _ _⟩
      rw [List.drop_zero]
      cases textL s.data.toList <;> rfl
    case round =>
      obtain ⟨f, k, L, bs, rfl, rfl, hfk, hks, hLf, hin⟩ := hrel
      obtain ⟨va, vc, hvf⟩ := owns_form hin.out.2.2.2.1.own
      subst hvf
      by_cases hlt : k < s.size
      · have e3 : (k : Int) < s.size := by omega
        have hat : s.data.toList[k]? = some (s[k]'hlt) := by
          have h1 : s.data.toList[k]? = some s.data[k] := by simp
          exact h1
        by_cases h10 : s[k]'hlt = 10
        case neg =>
          have hq : (((s[k]'hlt).toNat : Int) != 10) = true := by
            have h1 : (s[k]'hlt).toNat ≠ 10 := fun h => h10 (UInt8.toNat_inj.1 h)
            simp
            omega
          have HNX := hide (show ∀ j, f ≤ j → j < k + 1 → s.data.toList[j]? ≠ some 10 from fun j h1 h2 => by
            rcases Nat.lt_or_ge j k with h3 | h3
            · exact hin.out.2.1 j h1 h3
            · obtain rfl : j = k := by omega
              rw [hat]
              intro h
              injection h with h
              exact h10 h)
          clear hat h10
          go_wp2_with fail
          go_roundw
          case rel => exact ⟨f, k + 1, L, bs, rfl, by go_num, by omega, by omega, hLf, hin.out.1, HNX.out, hin.out.2.2.1, hin.out.2.2.2.1, hin.out.2.2.2.2⟩
          case measure => simp [intOf]; omega
        case pos =>
          have hq : (((s[k]'hlt).toNat : Int) != 10) = false := by rw [h10]; rfl
          obtain ⟨sl, hsl⟩ : ∃ sl, sl = s.extract f k := ⟨_, rfl⟩
          have hsl2 : sl.data.toList = (s.data.toList.drop f).take (k - f) := by
            rw [hsl]
            exact Lib.extract_data s f k
          have hls : sl.size ≤ 1000000 := by rw [hsl]; simp; omega
          have hstep := line_at hfk hin.out.2.1 (by rw [hat, h10])
          rw [← hsl2] at hstep
          have HSTEP := hide hstep
          have hf1 : (f : Int) ≤ k := by omega
          have hf0 : (0 : Int) ≤ f := by omega
          have hs0 := hin.out.2.2.2.2.size
          have HPB := hide (line_any sl hls B wr (HT.out.on (hin.out.2.2.2.2.mono hB)) (by omega))
          have HEX := hide hsl
          clear hat h10 hsl hsl2 hstep
          go_wp2_with fail
          rw [← HEX.out]
          refine HPB.out.mono ?_
          rintro e w3 ⟨n0, n1, n2, n3, n4, gv, rfl, ⟨ga, gl, gc, rfl⟩, hbar, hb3⟩
          have B3 := hide (hin.out.2.2.2.2.trans (hb3.mono (by omega))); have S3 := hide (hin.out.2.2.2.1.on hb3)
          have hs3 := hb3.size
          have HBAR := hide hbar
          obtain ⟨bo, hbo⟩ : ∃ bo, bo = (barL sl.data.toList).isSome := ⟨_, rfl⟩
          rw [← hbo]
          have HBO := hide hbo; have HTX := hide hin.out.1; have HAL := hide hin.out.2.2.1; have S0 := hide hin.out.2.2.2.1
          clear hbar hb3 hbo HPB hin
          cases bo with
          | true =>
            obtain ⟨⟨ns, gs⟩, hb⟩ : ∃ b, barL sl.data.toList = some b := Option.isSome_iff_exists.1 HBO.out.symm
            obtain ⟨hns, hgown⟩ := HBAR.out ns gs hb
            obtain ⟨br, hbr⟩ : ∃ br : Br, br = ⟨n0, n1, n2, n3, n4, .slice ga gl gc, gs⟩ := ⟨_, rfl⟩
            have hcells : bcells (L ++ [br]) = bcells L ++ [.int .i64 n0, .int .i64 n1, .int .i64 n2, .int .i64 n3, .int .i64 n4, .slice ga gl gc] := by
              rw [hbr]
              simp [bcells, Br.cells]
            have HCE := hide hcells; have HBR := hide hbr; have HGO := hide hgown; have HNS := hide hns
            have HTX2 := hide (show textL s.data.toList = (textL (s.data.toList.drop (k + 1))).map (fun r => (bs ++ [(ns, gs)]) ++ r) by
              rw [HTX.out, HSTEP.out, hb]
              cases textL (s.data.toList.drop (k + 1)) <;> simp)
            have HNW := hide (show ∀ j u, ([.int .i64 n0, .int .i64 n1, .int .i64 n2, .int .i64 n3, .int .i64 n4, .slice ga gl gc] : List Value)[j]? = some u → ((w3.alloc (.cells #[.int .i64 n0, .int .i64 n1, .int .i64 n2, .int .i64 n3, .int .i64 n4, .slice ga gl gc] 24)).alloc (.cells #[.int .i64 n0, .int .i64 n1, .int .i64 n2, .int .i64 n3, .int .i64 n4, .slice ga gl gc] 24)).cell? ((⟨w3.heap.size + 1, 0, none⟩ : Addr).add j) = some u from by
              have := World.news_of_block (cs := #[.int .i64 n0, .int .i64 n1, .int .i64 n2, .int .i64 n3, .int .i64 n4, .slice ga gl gc]) (t := 24) (fr := (0, 0)) (heap_alloc_new (w3.alloc (.cells #[.int .i64 n0, .int .i64 n1, .int .i64 n2, .int .i64 n3, .int .i64 n4, .slice ga gl gc] 24)) (.cells #[.int .i64 n0, .int .i64 n1, .int .i64 n2, .int .i64 n3, .int .i64 n4, .slice ga gl gc] 24))
              simpa using this)
            have HOW := hide ((S3.out.own.alloc (.cells #[.int .i64 n0, .int .i64 n1, .int .i64 n2, .int .i64 n3, .int .i64 n4, .slice ga gl gc] 24)).alloc (.cells #[.int .i64 n0, .int .i64 n1, .int .i64 n2, .int .i64 n3, .int .i64 n4, .slice ga gl gc] 24))
            obtain ⟨i0, hi0, hz0, hz1, hz2⟩ := info_parts info24
            clear hns hgown hbr hcells hb
            go_wp2_with (at_builtin; go_must (refine wpList_append_own_at _ rfl (.tmp 33) (.tmp 35) 47 rfl w.heap.size 24 i0 _ 6 64 Tryd.underlying47 hi0 hz0 hz1 hz2 rfl (by decide) (.slice va L.length vc) _ _ rfl HOW.out ⟨w3.heap.size + 1, 0, none⟩ 1 1 [.int .i64 n0, .int .i64 n1, .int .i64 n2, .int .i64 n3, .int .i64 n4, .slice ga gl gc] rfl rfl HNW.out (by simp [Value.oneCell']) (by simp only [maxLen]; omega) (by omega) (by simp; omega) ?_); intro v1 w5 hown hg1 hiff hbl; clear hiff; obtain ⟨a6, c6, hv6⟩ := owns_form hown; subst hv6; have HOW5 := hide hown; have HGR := hide hg1; have HBL := hide hbl; clear hown hg1 hbl)
            go_roundw
            case rel =>
              have hS : BuildSt w.heap.size ((w3.alloc (.cells #[.int .i64 n0, .int .i64 n1, .int .i64 n2, .int .i64 n3, .int .i64 n4, .slice ga gl gc] 24)).alloc (.cells #[.int .i64 n0, .int .i64 n1, .int .i64 n2, .int .i64 n3, .int .i64 n4, .slice ga gl gc] 24)) (.slice va L.length vc) L := S3.out.on (((Below.refl _ w3).alloc (Nat.le_refl _) _).alloc (by simp) _)
              have hap : ∀ g, br.gv.ownBlock = some g → (Value.slice va L.length vc).ownBlock ≠ some g := fun g hg h2 => by
                rw [HBR.out] at hg
                have h3 := (HGO.out.lt g hg).1
                have h4 := owns_lt S0.out.own g h2
                omega
              have hgg : ((w3.alloc (.cells #[.int .i64 n0, .int .i64 n1, .int .i64 n2, .int .i64 n3, .int .i64 n4, .slice ga gl gc] 24)).alloc (.cells #[.int .i64 n0, .int .i64 n1, .int .i64 n2, .int .i64 n3, .int .i64 n4, .slice ga gl gc] 24)).ownsRow w.heap.size 31 2 br.gv br.gs.length (pcells br.gs) := by
                rw [HBR.out]
                exact owns_mono ((HGO.out.alloc _).alloc _) (by omega)
              refine ⟨k + 1, k + 1, L ++ [br], bs ++ [(ns, gs)], by go_num, by go_num, Nat.le_refl _, by omega, by simp; omega, HTX2.out, fun j h1 h2 => by omega, ?_, hS.snoc hgg hap (by rw [HCE.out]; simpa using HOW5.out) HGR.out HBL.out, ((B3.out.alloc (by omega) _).alloc (by simp; omega) _).grown HGR.out (by simp; omega) (owns_ge S3.out.own (Nat.le_refl _))⟩
              rw [List.map_append]
              refine alike_snoc HAL.out ?_
              rw [HBR.out, HNS.out]
              exact ⟨rfl, rfl, rfl, rfl, rfl, rfl⟩
            case measure => simp [intOf]; omega
          | false =>
            have hnone : textL s.data.toList = none := by
              rw [HTX.out, HSTEP.out]
              cases hx : barL sl.data.toList with
              | none => simp
              | some v => have := HBO.out; rw [hx] at this; cases this
            have HF := hide (parse_fail (l := s.data.toList) (e := 3) (by rw [HPE.out, hnone]) (by decide))
            clear hnone
            go_wp2_with fail
            go_ret2
            exact ⟨_, rfl, B3.out.alloc (by omega) _, HF.out _⟩
      · have e3 : ¬ (k : Int) < s.size := by omega
        by_cases hfs : f < s.size
        · have hfs2 : (f : Int) < s.size := by omega
          have hnone : textL s.data.toList = none := by
            rw [hin.out.1, textL_end]
            · rfl
            · intro h
              have := congrArg List.length h
              rw [List.length_drop, bytes_len] at this
              simp at this
              omega
            · intro h
              obtain ⟨j, hj, he⟩ := List.mem_iff_getElem.1 h
              rw [List.length_drop, bytes_len] at hj
              refine hin.out.2.1 (f + j) (by omega) (by omega) ?_
              rw [← he, List.getElem_drop]
              exact List.getElem?_eq_getElem _
          have HF := hide (parse_fail (l := s.data.toList) (e := 3) (by rw [HPE.out, hnone]) (by decide))
          clear hnone
          go_wp2_with fail
          go_ret2
          exact ⟨_, rfl, hin.out.2.2.2.2, HF.out _⟩
        · have hfs2 : ¬ (f : Int) < s.size := by omega
          have htx : textL s.data.toList = some bs := by
            rw [hin.out.1, List.drop_eq_nil_of_le (by rw [bytes_len]; omega)]
            simp [textL_nil]
          have HPE2 := hide (show parsedE s.data.toList = chks L by rw [HPE.out, htx, alike_chks hin.out.2.2.1])
          have HC := hide (rchecks_any _ L wr.heap.size wr hin.out.2.2.2.1.bars (Nat.le_refl _))
          have HTX := hide htx
          clear htx
          go_wp2_with fail
          refine HC.out.mono ?_
          rintro e w1 ⟨rfl, hb1⟩
          have HB1 := hide hb1
          clear hb1
          by_cases hz : chks L = 0
          · have hzz : (chks L != 0) = false := by simp [hz]
            go_wp2_with fail
            go_ret2
            refine ⟨_, rfl, hin.out.2.2.2.2.trans (HB1.out.mono hin.out.2.2.2.2.size), _, L, by rw [HPE2.out, hz]; rfl, ((hin.out.2.2.2.1.on HB1.out).bars), ?_⟩
            unfold parsedL
            rw [if_pos (HPE2.out.trans hz), HTX.out]
            exact hin.out.2.2.1
          · have hzz : (chks L != 0) = true := by simpa using hz
            go_wp2_with fail
            go_ret2
            exact ⟨_, rfl, hin.out.2.2.2.2.trans (HB1.out.mono hin.out.2.2.2.2.size), parse_fail HPE2.out hz _⟩
end Go.Proofs.YtfljmbdnnjjmoaaDoor
