/-
  Texts of the integers, laid together: Rv, Rw, Ru, L10, L5, L11, Rx.
-/
import Derived.Test.YthkioajalhglfaaGreatDoorZ10
import Derived.Test.YthkioajalhglfaaGreatDoorZ11
import Derived.Test.YthkioajalhglfaaGreatDoorZ13
namespace Go.Proofs.YthkioajalhglfaaGreatDoor
open Go.RowKit Go.KP Go.KI Go.Shelf
attribute [local go_sem] Oper.semAt_some

/-- What the reference's read returns: its sign is the text's. -/
def RNumS (m : Bool) (z : Int) (n : Nat) (w : World) (e : Ending) (w2 : World) : Prop := ∃ (v : Value) (l : List Nat), e = .returned (numV m v) ∧ Below w.heap.size w w2 ∧ OwnL w.heap.size w2 v l ∧ Norm 1000000 l ∧ valS m (lv 1000000 l) = z ∧ l.length ≤ n
set_option maxRecDepth 100000 in
set_option maxHeartbeats 8000000 in
theorem rread_full (s : ByteArray) (c1 : chkI s.data.toList = 0) (w : World) :
    Calls Tryz.prog 45 #[.string s] w (RNumS (decide (s.data.toList.head? = some 45)) (valI s.data.toList) 60 w) := by
  obtain ⟨i0, hi0, hz0, hz1, hz2⟩ := info_parts info3
  obtain ⟨mi, hmi⟩ : ∃ mi, mi = decide (s.data.toList.head? = some 45) := ⟨_, rfl⟩
  rw [← hmi]
  have HV := hide (valI_S s.data.toList)
  rw [← hmi] at HV
  have hpos := chk_pos c1
  have hlen := (chk_digs c1).2
  rw [bytes_len] at hpos hlen
  have hne : s.data.toList ≠ [] := fun e => by have := bytes_len s; rw [e] at this; simp at this; omega
  obtain ⟨hp, hh⟩ := bytes_head hne
  have hp0 : (0 : Int) < (s.size : Int) := by omega
  have h45 : ((s[0].toNat : Int) == 45) = mi := by
    rw [hmi, hh]
    by_cases h : s[0] = 45
    · rw [h]; rfl
    · have : s[0].toNat ≠ 45 := fun e => h (UInt8.toNat_inj.1 e)
      have h2 : ((s[0].toNat : Int) == 45) = false := by
        simp only [beq_eq_false_iff_ne, ne_eq]
        omega
      rw [h2]
      simp [h]
  have HDG := hide (chk_digs c1).1
  obtain ⟨ds, hds⟩ : ∃ ds, ds = digs s.data.toList := ⟨_, rfl⟩
  have hd := digs_drop s.data.toList
  rw [← hds] at HDG HV hd
  have hdl : ds.length ≤ 300 := by
    have h1 := fits_len.1 (chk_ok c1).2
    have h2 := digs_itoa (valI s.data.toList)
    rw [← (chk_ok c1).1, ← hds] at h2
    rw [h2]
    exact h1
  obtain ⟨t, ht⟩ : ∃ t : ByteArray, t.data.toList = ds := ⟨strB ds, strB_list _⟩
  have htl : t.size = ds.length := by rw [← bytes_len, ht]
  have htT : mi = true → s.extract 1 s.size = t := fun h => by
    rw [h] at hmi
    apply bytes_eq
    rw [ht, hd, if_pos (of_decide_eq_true hmi.symm)]
    simp
    exact List.take_of_length_le (by rw [List.length_tail, bytes_len]; exact Nat.le_refl _)
  have htF : mi = false → s = t := fun h => by
    rw [h] at hmi
    apply bytes_eq
    rw [ht, hd, if_neg (of_decide_eq_false hmi.symm)]
    rfl
  have HTT := hide htT; have HTF := hide htF; have HT := hide ht
  obtain ⟨D, hD⟩ : ∃ D, D = t.size := ⟨_, rfl⟩
  have hDl : D ≤ 300 := by omega
  have HD := hide hD; have HDD := hide (show ds.length = D by omega)
  clear hmi hne hh c1 hd hds hlen hdl ht htl htT htF hpos hD
  go_enter Tryz.func45, Tryz.ntmps45
  cases mi
  · have HST := hide (HTF.out rfl)
    clear HTT HTF
    go_wp2_with fail
    have hst := HST.out
    subst hst
    have HSZ := hide (show s.size = D from HD.out.symm)
    obtain ⟨p0, p1, ps, pb⟩ := heap2 w (.cells #[.bool false, .slice none 0 0] 55) (.cells #[.bool false, .slice none 0 0] 55)
    obtain ⟨w0, hw0⟩ : ∃ w0, (w.alloc (.cells #[.bool false, .slice none 0 0] 55)).alloc (.cells #[.bool false, .slice none 0 0] 55) = w0 := ⟨_, rfl⟩
    rw [hw0] at p0 p1 ps pb ⊢
    have P0 := hide p0; have P1 := hide p1; have PB := hide pb; have PS := hide ps
    clear p0 p1 ps pb hw0 h45
    go_loopw [4] (fun e wr => ∃ k : Nat, e = .int .i64 ((D : Int) - 6 * (k : Int)) ∧ 6 * k ≤ D + 5 ∧ Hid (∃ (v : Value) (L : List Nat), wr.heap[w.heap.size]? = some (.cells #[.bool false, .slice none 0 0] 55 (0, 0)) ∧ wr.heap[w.heap.size + 1]? = some (.cells #[.bool false, v] 55 (0, 0)) ∧ Below w.heap.size w wr ∧ OwnL (w.heap.size + 2) wr v L ∧ L.length = k ∧ Lt 1000000 L ∧ lv 1000000 L = dv (ds.drop (D - 6 * k)))) (fun e _ => (intOf e).toNat)
    case atStart => exact ⟨0, by have := HSZ.out; first | rfl | (congr 1 <;> omega), by omega, .slice none 0 0, [], P0.out, P1.out, PB.out, OwnL.nil _ _, rfl, fun z hz => by simp at hz, by
      rw [List.drop_of_length_le (by have := HDD.out; omega)]; rfl⟩
    case round =>
      obtain ⟨k, rfl, hk6, hin⟩ := hrel
      obtain ⟨v, L, r0, r1, rb, ro, rl, rt, rv⟩ := hin.out
      obtain ⟨va, vc, hvf, hcap, _⟩ := ro.form
      rw [rl] at hvf hcap
      subst hvf
      have hwr : w.heap.size + 2 ≤ wr.heap.size := by
        have h1 := lt_blk r1
        omega
      by_cases hlt : 6 * k < D
      · obtain ⟨E, hE⟩ : ∃ E, E = D - 6 * k := ⟨_, rfl⟩
        have hEi : (D : Int) - 6 * (k : Int) = (E : Int) := by omega
        obtain ⟨lo, hlo⟩ : ∃ lo, lo = E - 6 := ⟨_, rfl⟩
        have hmax : max (0 : Int) ((E : Int) - 6) = (lo : Int) := by omega
        have hE0 : (0 : Int) < (E : Int) := by omega
        have hEl : (E : Int) ≤ 300 := by omega
        rw [hEi]
        have R0 := hide r0; have R1 := hide r1; have RB := hide rb; have RO := hide ro; have RL := hide rl; have RT := hide rt; have RV := hide rv
        have HE := hide hE; have HLO := hide hlo
        have hloE : lo ≤ E := by omega
        have hED : E ≤ D := by omega
        clear r0 r1 rb ro rl rt rv hin hE hlo hEi
        go_wp2_with fail
        clear hmax
        obtain ⟨wo, hwo⟩ : ∃ wo, wo = wr := ⟨_, rfl⟩
        subst hwo
        go_loopw [5, 6] (fun nn i wr2 => ∃ j A : Nat, lo ≤ j ∧ j ≤ E ∧ i = .int .i64 j ∧ nn = .int .i64 A ∧ Hid (A = dv ((ds.drop lo).take (j - lo))) ∧ wr2 = wo) (fun _ i _ => E - (intOf i).toNat)
        case atStart => exact ⟨lo, 0, Nat.le_refl _, hloE, rfl, rfl, by rw [Nat.sub_self]; rfl, rfl⟩
        case round =>
          obtain ⟨j, A, hj1, hj2, rfl, rfl, hA, hww⟩ := hrel
          obtain rfl := hww.symm
          have hAb := dv_take_lt HDG.out lo (j - lo)
          rw [← hA.out] at hAb
          by_cases hlt2 : j < E
          · have hji : (j : Int) < (E : Int) := by omega
            have hj0 : (0 : Int) ≤ (j : Int) := by omega
            have hjt : j < s.size := by have := HD.out; omega
            have hjti : (j : Int) < (s.size : Int) := by omega
            obtain ⟨y, hyv⟩ : ∃ y : Nat, y = (s[j]'hjt).toNat := ⟨_, rfl⟩
            have hyv2 : (s[j]'hjt).toNat = y := hyv.symm
            have hat : ds[j]? = some (s[j]'hjt) := by
              rw [← HT.out]
              have h1 : s.data.toList[j]? = some s.data[j] := by simp
              exact h1
            have hdg := isDg_iff.1 (HDG.out _ (List.mem_of_getElem? hat))
            rw [hyv2] at hdg
            have hnew := dv_take_succ ds hj1 hat
            rw [hyv2, ← hA.out] at hnew
            have hp5 : (10 : Nat) ^ (j - lo) ≤ 10 ^ 5 := Nat.pow_le_pow_right (by omega) (by have := HLO.out; omega)
            have hA5 : A < 100000 := Nat.lt_of_lt_of_le hAb hp5
            have HN := hide hnew.symm
            have y0 : (48 : Int) ≤ (y : Int) := by omega
            have y1 : (y : Int) ≤ 57 := by omega
            have a1 : (A : Int) < 100000 := by omega
            have HC := hide (show 10 * (A : Int) + ((y : Int) - 48) = ((A * 10 + (y - 48) : Nat) : Int) by omega)
            clear hat hyv hdg hnew hA hAb hp5 hA5
            go_wp2_with fail
            go_roundw
            case rel => exact ⟨j + 1, A * 10 + (y - 48), by omega, by omega, by go_num, by rw [← HC.out], HN, trivial⟩
            case measure => simp [intOf]; omega
          · obtain rfl : j = E := by omega
            have hji : ((j : Int) < (j : Int)) = False := eq_false (by omega)
            have hp6 : (10 : Nat) ^ (j - lo) ≤ 10 ^ 6 := Nat.pow_le_pow_right (by omega) (by have := HLO.out; omega)
            have hAl : A < 1000000 := Nat.lt_of_lt_of_le hAb hp6
            have HAL := hide hAl
            have HAE := hide hA.out
            have q1 := cell_blk R1.out 1
            have qf := froz_blk R1.out 1
            have HOW := hide (show (wo.alloc (.cells #[.int .i64 A] 3)).ownsRow (w.heap.size + 2) 3 1 (.slice va k vc) k (icells L) by
              have h := RO.out
              unfold OwnL at h
              rw [RL.out] at h
              exact h.alloc _)
            have HNW := hide (show ∀ j u, ([.int .i64 A] : List Value)[j]? = some u → (wo.alloc (.cells #[.int .i64 A] 3)).cell? ((⟨wo.heap.size, 0, none⟩ : Addr).add j) = some u from World.news_of_block (cs := #[.int .i64 A]) (t := 3) (fr := (0, 0)) (heap_alloc_new wo _))
            clear hA hAb hp6 hAl hlt2
            go_wp2_with (at_builtin; go_must (refine wpList_append_own _ rfl (.tmp 37) (.tmp 39) 46 rfl (w.heap.size + 2) 3 i0 _ 1 8 Tryz.underlying46 hi0 hz0 hz1 hz2 rfl (by decide) (.slice va k vc) _ _ rfl HOW.out ⟨wo.heap.size, 0, none⟩ 1 1 [.int .i64 A] rfl rfl HNW.out (by simp [Value.oneCell']) (by simp only [maxLen]; omega) (by omega) (by simp; omega) ?_); intro v1 w5 hown hg1 hiff; clear hiff; obtain ⟨va1, vc1, hvf⟩ := owns_form hown; subst hvf; have HOW5 := hide hown; have HB5 := hide (show Below (w.heap.size + 2) wo w5 from ((Below.refl (w.heap.size + 2) wo).alloc hwr _).grown hg1 (by simp; omega) (owns_ge RO.out (Nat.le_refl _))); clear hown hg1 q1 qf; have R1' := hide (below_blk HB5.out R1.out (by omega)); have R0' := hide (below_blk HB5.out R0.out (by omega)); have qf := froz_blk R1'.out 1; have qc5 := cell_blk R1'.out 1; have ql := lt_blk R1'.out)
            go_roundw
            case rel =>
              refine ⟨k + 1, by have := HE.out; have := HLO.out; congr 1; omega, by have := HE.out; omega, .slice va1 (k + 1) vc1, L ++ [A], (setCell_other (by omega)).trans R0'.out, ?_, (RB.out.trans (HB5.out.mono (by omega))).setCell (p := ⟨w.heap.size + 1, 1, none⟩) (by simp) _, ?_, by rw [List.length_append, RL.out]; rfl, ?_, ?_⟩
              · have h := R1'.out
                simp only [World.setCell, Array.getElem?_modify, h]
                rfl
              · refine OwnL.other ?_ (p := ⟨w.heap.size + 1, 1, none⟩) (by simp) _
                show World.ownsRow _ _ _ _ _ (L ++ [A]).length (icells (L ++ [A]))
                rw [List.length_append, RL.out, icells_append]
                exact HOW5.out
              · intro z hz
                rcases List.mem_append.1 hz with h | h
                · exact RT.out z h
                · simp only [List.mem_singleton] at h
                  rw [h]
                  exact HAL.out
              · rw [lv_snoc, RL.out, RV.out]
                have h1 := dv_cut ds (lo := lo) (e := j) hj1 (by rw [HDD.out]; exact hED)
                have e1 : D - 6 * (k + 1) = lo := by have := HE.out; have := HLO.out; omega
                have e2 : D - 6 * k = j := HE.out.symm
                have e3 : (1000000 : Nat) ^ k = 10 ^ (ds.length - j) := by
                  rw [show (1000000 : Nat) = 10 ^ 6 by decide, ← Nat.pow_mul]
                  congr 1
                  have := HE.out
                  have := HDD.out
                  omega
                rw [e1, e2, h1, ← HAE.out, e3, Nat.mul_comm A, Nat.add_comm]
            case measure => simp [intOf]; omega
      · have hEi : ((0 : Int) < (D : Int) - 6 * (k : Int)) = False := eq_false (by omega)
        have HT2 := hide (fun W (h : OwnL (w.heap.size + 2) W (.slice va k vc) L) => rtrim_any va vc L W.heap.size W (by rw [rl]; exact h.at_) (by omega) (by omega))
        rw [rl] at HT2
        have HT3 := hide (HT2.out wr ro)
        have q1 := cell_blk r1 1
        have q0 := cell_blk r1 0
        have qf := froz_blk r1 1
        have ql := lt_blk r1
        have z0 := cell_blk r0 0
        have z1 := cell_blk r0 1
        have zf := froz_blk r0 0
        have zg := froz_blk r0 1
        have zl := lt_blk r0
        have R0 := hide r0; have R1 := hide r1; have RB := hide rb; have RO := hide ro; have RL := hide rl; have RT := hide rt; have RV := hide rv
        have hk60 : k ≤ 60 := by omega
        clear r0 r1 rb ro rl rt rv hin HT2
        go_wp2_with fail
        refine HT3.out.mono ?_
        rintro e w1 ⟨rfl, rfl⟩
        go_wp2_with fail
        obtain ⟨Wa, hWa⟩ : ∃ Wa, Wa = wr.setCell ⟨w.heap.size + 1, 1, none⟩ (.slice va (trimTo L k) vc) := ⟨_, rfl⟩
        rw [← hWa]
        have A0 : Wa.heap[w.heap.size]? = some (.cells #[.bool false, .slice none 0 0] 55 (0, 0)) := by rw [hWa]; exact (setCell_other (by omega)).trans R0.out
        have AB : Below w.heap.size w Wa := by rw [hWa]; exact RB.out.setCell (p := ⟨w.heap.size + 1, 1, none⟩) (by simp) _
        have AO : OwnL (w.heap.size + 2) Wa (.slice va k vc) L := by rw [hWa]; exact RO.out.other (p := ⟨w.heap.size + 1, 1, none⟩) (by simp) _
        obtain ⟨s1, s2⟩ := set2 A0 (.bool false) (.slice va (trimTo L k) vc)
        refine exit_rread s1 rfl rfl ?_
        refine ⟨_, trimL L, rfl, AB.trans s2, ?_, trimL_norm RT.out, ?_, ?_⟩
        · have h1 := (((AO.other (p := ⟨w.heap.size, 0, none⟩) (by simp) (.bool false)).other (p := ⟨w.heap.size, 1, none⟩) (by simp) (.slice va (trimTo L k) vc)).cut (k := trimTo L k) (by have := trimTo_le L k; rw [RL.out]; exact this)).mono (show w.heap.size ≤ w.heap.size + 2 by omega)
          unfold trimL
          rw [RL.out]
          exact h1
        · rw [trimL_lv, RV.out, show D - 6 * k = 0 by omega, List.drop_zero, HV.out]
        · rw [trimL_len]
          have := trimTo_le L L.length
          have := RL.out
          omega
  · have HST := hide (HTT.out rfl)
    clear HTT HTF
    go_wp2_with fail
    have hst := HST.out
    have hsz : s.size - 1 = D := by
      rw [HD.out, ← hst]
      simp
    rw [hst, hsz]
    clear hst hsz
    have HSZ := hide (show D = D from rfl)
    obtain ⟨p0, p1, ps, pb⟩ := heap2 w (.cells #[.bool false, .slice none 0 0] 55) (.cells #[.bool true, .slice none 0 0] 55)
    obtain ⟨w0, hw0⟩ : ∃ w0, (w.alloc (.cells #[.bool false, .slice none 0 0] 55)).alloc (.cells #[.bool true, .slice none 0 0] 55) = w0 := ⟨_, rfl⟩
    rw [hw0] at p0 p1 ps pb ⊢
    have P0 := hide p0; have P1 := hide p1; have PB := hide pb; have PS := hide ps
    clear p0 p1 ps pb hw0 h45
    go_loopw [4] (fun e wr => ∃ k : Nat, e = .int .i64 ((D : Int) - 6 * (k : Int)) ∧ 6 * k ≤ D + 5 ∧ Hid (∃ (v : Value) (L : List Nat), wr.heap[w.heap.size]? = some (.cells #[.bool false, .slice none 0 0] 55 (0, 0)) ∧ wr.heap[w.heap.size + 1]? = some (.cells #[.bool true, v] 55 (0, 0)) ∧ Below w.heap.size w wr ∧ OwnL (w.heap.size + 2) wr v L ∧ L.length = k ∧ Lt 1000000 L ∧ lv 1000000 L = dv (ds.drop (D - 6 * k)))) (fun e _ => (intOf e).toNat)
    case atStart => exact ⟨0, by have := HSZ.out; first | rfl | (congr 1 <;> omega), by omega, .slice none 0 0, [], P0.out, P1.out, PB.out, OwnL.nil _ _, rfl, fun z hz => by simp at hz, by
      rw [List.drop_of_length_le (by have := HDD.out; omega)]; rfl⟩
    case round =>
      obtain ⟨k, rfl, hk6, hin⟩ := hrel
      obtain ⟨v, L, r0, r1, rb, ro, rl, rt, rv⟩ := hin.out
      obtain ⟨va, vc, hvf, hcap, _⟩ := ro.form
      rw [rl] at hvf hcap
      subst hvf
      have hwr : w.heap.size + 2 ≤ wr.heap.size := by
        have h1 := lt_blk r1
        omega
      by_cases hlt : 6 * k < D
      · obtain ⟨E, hE⟩ : ∃ E, E = D - 6 * k := ⟨_, rfl⟩
        have hEi : (D : Int) - 6 * (k : Int) = (E : Int) := by omega
        obtain ⟨lo, hlo⟩ : ∃ lo, lo = E - 6 := ⟨_, rfl⟩
        have hmax : max (0 : Int) ((E : Int) - 6) = (lo : Int) := by omega
        have hE0 : (0 : Int) < (E : Int) := by omega
        have hEl : (E : Int) ≤ 300 := by omega
        rw [hEi]
        have R0 := hide r0; have R1 := hide r1; have RB := hide rb; have RO := hide ro; have RL := hide rl; have RT := hide rt; have RV := hide rv
        have HE := hide hE; have HLO := hide hlo
        have hloE : lo ≤ E := by omega
        have hED : E ≤ D := by omega
        clear r0 r1 rb ro rl rt rv hin hE hlo hEi
        go_wp2_with fail
        clear hmax
        obtain ⟨wo, hwo⟩ : ∃ wo, wo = wr := ⟨_, rfl⟩
        subst hwo
        go_loopw [5, 6] (fun nn i wr2 => ∃ j A : Nat, lo ≤ j ∧ j ≤ E ∧ i = .int .i64 j ∧ nn = .int .i64 A ∧ Hid (A = dv ((ds.drop lo).take (j - lo))) ∧ wr2 = wo) (fun _ i _ => E - (intOf i).toNat)
        case atStart => exact ⟨lo, 0, Nat.le_refl _, hloE, rfl, rfl, by rw [Nat.sub_self]; rfl, rfl⟩
        case round =>
          obtain ⟨j, A, hj1, hj2, rfl, rfl, hA, hww⟩ := hrel
          obtain rfl := hww.symm
          have hAb := dv_take_lt HDG.out lo (j - lo)
          rw [← hA.out] at hAb
          by_cases hlt2 : j < E
          · have hji : (j : Int) < (E : Int) := by omega
            have hj0 : (0 : Int) ≤ (j : Int) := by omega
            have hjt : j < t.size := by have := HD.out; omega
            have hjti : (j : Int) < (t.size : Int) := by omega
            obtain ⟨y, hyv⟩ : ∃ y : Nat, y = (t[j]'hjt).toNat := ⟨_, rfl⟩
            have hyv2 : (t[j]'hjt).toNat = y := hyv.symm
            have hat : ds[j]? = some (t[j]'hjt) := by
              rw [← HT.out]
              have h1 : t.data.toList[j]? = some t.data[j] := by simp
              exact h1
            have hdg := isDg_iff.1 (HDG.out _ (List.mem_of_getElem? hat))
            rw [hyv2] at hdg
            have hnew := dv_take_succ ds hj1 hat
            rw [hyv2, ← hA.out] at hnew
            have hp5 : (10 : Nat) ^ (j - lo) ≤ 10 ^ 5 := Nat.pow_le_pow_right (by omega) (by have := HLO.out; omega)
            have hA5 : A < 100000 := Nat.lt_of_lt_of_le hAb hp5
            have HN := hide hnew.symm
            have y0 : (48 : Int) ≤ (y : Int) := by omega
            have y1 : (y : Int) ≤ 57 := by omega
            have a1 : (A : Int) < 100000 := by omega
            have HC := hide (show 10 * (A : Int) + ((y : Int) - 48) = ((A * 10 + (y - 48) : Nat) : Int) by omega)
            clear hat hyv hdg hnew hA hAb hp5 hA5
            go_wp2_with fail
            go_roundw
            case rel => exact ⟨j + 1, A * 10 + (y - 48), by omega, by omega, by go_num, by rw [← HC.out], HN, trivial⟩
            case measure => simp [intOf]; omega
          · obtain rfl : j = E := by omega
            have hji : ((j : Int) < (j : Int)) = False := eq_false (by omega)
            have hp6 : (10 : Nat) ^ (j - lo) ≤ 10 ^ 6 := Nat.pow_le_pow_right (by omega) (by have := HLO.out; omega)
            have hAl : A < 1000000 := Nat.lt_of_lt_of_le hAb hp6
            have HAL := hide hAl
            have HAE := hide hA.out
            have q1 := cell_blk R1.out 1
            have qf := froz_blk R1.out 1
            have HOW := hide (show (wo.alloc (.cells #[.int .i64 A] 3)).ownsRow (w.heap.size + 2) 3 1 (.slice va k vc) k (icells L) by
              have h := RO.out
              unfold OwnL at h
              rw [RL.out] at h
              exact h.alloc _)
            have HNW := hide (show ∀ j u, ([.int .i64 A] : List Value)[j]? = some u → (wo.alloc (.cells #[.int .i64 A] 3)).cell? ((⟨wo.heap.size, 0, none⟩ : Addr).add j) = some u from World.news_of_block (cs := #[.int .i64 A]) (t := 3) (fr := (0, 0)) (heap_alloc_new wo _))
            clear hA hAb hp6 hAl hlt2
            go_wp2_with (at_builtin; go_must (refine wpList_append_own _ rfl (.tmp 37) (.tmp 39) 46 rfl (w.heap.size + 2) 3 i0 _ 1 8 Tryz.underlying46 hi0 hz0 hz1 hz2 rfl (by decide) (.slice va k vc) _ _ rfl HOW.out ⟨wo.heap.size, 0, none⟩ 1 1 [.int .i64 A] rfl rfl HNW.out (by simp [Value.oneCell']) (by simp only [maxLen]; omega) (by omega) (by simp; omega) ?_); intro v1 w5 hown hg1 hiff; clear hiff; obtain ⟨va1, vc1, hvf⟩ := owns_form hown; subst hvf; have HOW5 := hide hown; have HB5 := hide (show Below (w.heap.size + 2) wo w5 from ((Below.refl (w.heap.size + 2) wo).alloc hwr _).grown hg1 (by simp; omega) (owns_ge RO.out (Nat.le_refl _))); clear hown hg1 q1 qf; have R1' := hide (below_blk HB5.out R1.out (by omega)); have R0' := hide (below_blk HB5.out R0.out (by omega)); have qf := froz_blk R1'.out 1; have qc5 := cell_blk R1'.out 1; have ql := lt_blk R1'.out)
            go_roundw
            case rel =>
              refine ⟨k + 1, by have := HE.out; have := HLO.out; congr 1; omega, by have := HE.out; omega, .slice va1 (k + 1) vc1, L ++ [A], (setCell_other (by omega)).trans R0'.out, ?_, (RB.out.trans (HB5.out.mono (by omega))).setCell (p := ⟨w.heap.size + 1, 1, none⟩) (by simp) _, ?_, by rw [List.length_append, RL.out]; rfl, ?_, ?_⟩
              · have h := R1'.out
                simp only [World.setCell, Array.getElem?_modify, h]
                rfl
              · refine OwnL.other ?_ (p := ⟨w.heap.size + 1, 1, none⟩) (by simp) _
                show World.ownsRow _ _ _ _ _ (L ++ [A]).length (icells (L ++ [A]))
                rw [List.length_append, RL.out, icells_append]
                exact HOW5.out
              · intro z hz
                rcases List.mem_append.1 hz with h | h
                · exact RT.out z h
                · simp only [List.mem_singleton] at h
                  rw [h]
                  exact HAL.out
              · rw [lv_snoc, RL.out, RV.out]
                have h1 := dv_cut ds (lo := lo) (e := j) hj1 (by rw [HDD.out]; exact hED)
                have e1 : D - 6 * (k + 1) = lo := by have := HE.out; have := HLO.out; omega
                have e2 : D - 6 * k = j := HE.out.symm
                have e3 : (1000000 : Nat) ^ k = 10 ^ (ds.length - j) := by
                  rw [show (1000000 : Nat) = 10 ^ 6 by decide, ← Nat.pow_mul]
                  congr 1
                  have := HE.out
                  have := HDD.out
                  omega
                rw [e1, e2, h1, ← HAE.out, e3, Nat.mul_comm A, Nat.add_comm]
            case measure => simp [intOf]; omega
      · have hEi : ((0 : Int) < (D : Int) - 6 * (k : Int)) = False := eq_false (by omega)
        have HT2 := hide (fun W (h : OwnL (w.heap.size + 2) W (.slice va k vc) L) => rtrim_any va vc L W.heap.size W (by rw [rl]; exact h.at_) (by omega) (by omega))
        rw [rl] at HT2
        have HT3 := hide (HT2.out wr ro)
        have q1 := cell_blk r1 1
        have q0 := cell_blk r1 0
        have qf := froz_blk r1 1
        have ql := lt_blk r1
        have z0 := cell_blk r0 0
        have z1 := cell_blk r0 1
        have zf := froz_blk r0 0
        have zg := froz_blk r0 1
        have zl := lt_blk r0
        have R0 := hide r0; have R1 := hide r1; have RB := hide rb; have RO := hide ro; have RL := hide rl; have RT := hide rt; have RV := hide rv
        have hk60 : k ≤ 60 := by omega
        clear r0 r1 rb ro rl rt rv hin HT2
        go_wp2_with fail
        refine HT3.out.mono ?_
        rintro e w1 ⟨rfl, rfl⟩
        go_wp2_with fail
        obtain ⟨Wa, hWa⟩ : ∃ Wa, Wa = wr.setCell ⟨w.heap.size + 1, 1, none⟩ (.slice va (trimTo L k) vc) := ⟨_, rfl⟩
        rw [← hWa]
        have A0 : Wa.heap[w.heap.size]? = some (.cells #[.bool false, .slice none 0 0] 55 (0, 0)) := by rw [hWa]; exact (setCell_other (by omega)).trans R0.out
        have AB : Below w.heap.size w Wa := by rw [hWa]; exact RB.out.setCell (p := ⟨w.heap.size + 1, 1, none⟩) (by simp) _
        have AO : OwnL (w.heap.size + 2) Wa (.slice va k vc) L := by rw [hWa]; exact RO.out.other (p := ⟨w.heap.size + 1, 1, none⟩) (by simp) _
        obtain ⟨s1, s2⟩ := set2 A0 (.bool true) (.slice va (trimTo L k) vc)
        refine exit_rread s1 rfl rfl ?_
        refine ⟨_, trimL L, rfl, AB.trans s2, ?_, trimL_norm RT.out, ?_, ?_⟩
        · have h1 := (((AO.other (p := ⟨w.heap.size, 0, none⟩) (by simp) (.bool true)).other (p := ⟨w.heap.size, 1, none⟩) (by simp) (.slice va (trimTo L k) vc)).cut (k := trimTo L k) (by have := trimTo_le L k; rw [RL.out]; exact this)).mono (show w.heap.size ≤ w.heap.size + 2 by omega)
          unfold trimL
          rw [RL.out]
          exact h1
        · rw [trimL_lv, RV.out, show D - 6 * k = 0 by omega, List.drop_zero, HV.out]
        · rw [trimL_len]
          have := trimTo_le L L.length
          have := RL.out
          omega
end Go.Proofs.YthkioajalhglfaaGreatDoor
namespace Go.KI
theorem root_at {n R : Nat} (h : rootN n ≤ R) (h2 : R * R ≤ n) : rootN n = R := by
  refine rootN_eq h2 ?_
  obtain ⟨_, g2⟩ := rootN_spec n
  exact Nat.lt_of_lt_of_le g2 (Nat.mul_le_mul (by omega) (by omega))
theorem newton_lt {n R : Nat} (h : n < R * R) : (R + n / R) / 2 < R := by
  have hR : 0 < R := by
    rcases Nat.eq_zero_or_pos R with h0 | h0
    · rw [h0] at h; omega
    · exact h0
  have h1 : n / R < R := (Nat.div_lt_iff_lt_mul hR).2 h
  omega
end Go.KI
namespace Go.Proofs.YthkioajalhglfaaGreatDoor
open Go.RowKit Go.KP Go.KI Go.Shelf
attribute [local go_sem] Oper.semAt_some

theorem norm2 : Norm 1000000 [2] := ⟨fun z hz => by simp only [List.mem_singleton] at hz; omega, .inr (by simp [lat])⟩
theorem row2 {w : World} : LimbAt (w.alloc (.cells #[.int .i64 2] 3)).heap.size (w.alloc (.cells #[.int .i64 2] 3)) (.slice (some ⟨w.heap.size, 0, none⟩) ([2] : List Nat).length 1) [2] := row_limbs (heap_alloc_new w (rowO [2])) (by simp [maxLen])
set_option maxRecDepth 100000 in
set_option maxHeartbeats 8000000 in
theorem rRoot_good (s : ByteArray) (n : Nat) (w : World) (c1 : chkI s.data.toList = 0) (hn : valI s.data.toList = (n : Int)) :
    Calls Tryz.prog 22 #[.string s] w (Ret w (pairV (Lib.itoa ((rootN n : Nat) : Int)) 0)) := by
  have l1 := (chk_digs c1).2
  rw [bytes_len] at l1
  have HC := hide (rcheck_any s (by omega) w)
  rw [c1] at HC
  have HRD := hide (fun w => rread_full s c1 w)
  have hsi := (chk_ok c1).1
  rw [hn] at hsi
  rw [show decide (s.data.toList.head? = some 45) = false from decide_eq_false (fun h => by
    rw [hsi] at h
    have := (head_itoa _).1 h
    omega), hn] at HRD
  have hlt : n < 10 ^ s.size := by
    have h := short_val (n := s.size) c1 (by rw [bytes_len]; exact Nat.le_refl _) (by have := chk_pos c1; rw [bytes_len] at this; exact this)
    rw [hn, Int.natAbs_natCast] at h
    exact h
  obtain ⟨hh, hhh⟩ : ∃ h, h = (s.size + 1) / 2 := ⟨_, rfl⟩
  have HST := hide (root_start (k := hh) hlt (by omega))
  have hhi : ((s.size : Int) + 1) / 2 = (hh : Int) := by omega
  have hh2 : hh ≤ 200 := by omega
  have hsl : s.size ≤ 301 := l1
  clear c1 l1 hn hsi hlt hhh
  go_enter Tryz.func22, Tryz.ntmps22
  go_wp2_with fail
  refine HC.out.mono ?_
  rintro e w1 ⟨rfl, hb1⟩
  have HB1 := hide hb1
  clear hb1 HC
  go_wp2_with fail
  refine (HRD.out _).mono ?_
  rintro e w2 ⟨vx, lx, rfl, hb2, ox, nx, qx, kx⟩
  obtain ⟨ax, cx, hvf, _, _⟩ := ox.form
  subst hvf
  have H3 := hide (heap1 w2 (bigO false (.slice ax lx.length cx)))
  have HB3 := hide (HB1.out.trans ((hb2.mono HB1.out.size).trans (H3.out.2.2.mono (Nat.le_trans HB1.out.size hb2.size))))
  have OX := hide ((ox.keep H3.out.2.2).mono (Nat.zero_le _)); have NX := hide nx
  have QX := hide (show lv 1000000 lx = n by
    have h : ((lv 1000000 lx : Nat) : Int) = (n : Int) := qx
    omega)
  have hnw0 : w.heap.size ≤ w2.heap.size := Nat.le_trans HB1.out.size hb2.size
  obtain ⟨w3, hw3⟩ : ∃ w3, w2.alloc (bigO false (.slice ax lx.length cx)) = w3 := ⟨_, rfl⟩
  have H4 := hide (show w3.heap[w2.heap.size]? = some (bigO false (.slice ax lx.length cx)) by rw [← hw3]; exact H3.out.1)
  rw [hw3] at HB3 OX
  have HW3 := hide hw3
  clear hb2 ox nx qx HB1 HRD H3 hw3
  have e0 := cell_blk H4.out 0
  go_wp2_with fail
  rw [show w2.alloc (.cells #[.bool false, .slice ax lx.length cx] 55) = w3 from HW3.out]
  clear e0
  obtain ⟨nb, hnb⟩ : ∃ nb, nb = w2.heap.size := ⟨_, rfl⟩
  rw [← hnb] at H4 hnw0 ⊢
  clear hnb HW3
  go_loopw [6, 7] (fun p i wr => ∃ (k : Nat) (t : ByteArray), k ≤ hh ∧ i = .int .i64 k ∧ p = .string t ∧ t.size ≤ 1 + k ∧ Hid (t.data.toList = [49] ++ List.replicate k 48) ∧ wr = w3) (fun _ i _ => hh - (intOf i).toNat)
  case atStart => exact ⟨0, ⟨#[49]⟩, Nat.zero_le _, rfl, rfl, by decide, rfl, rfl⟩
  case round =>
    obtain ⟨k, t, hk, rfl, rfl, hts, htt, rfl⟩ := hrel
    by_cases hlt : k < hh
    · have hki : (k : Int) < (hh : Int) := by omega
      have hov : (9223372036854775807 < t.size + 1) = False := eq_false (by omega)
      have HTT := hide htt.out
      clear htt hlt
      go_wp2_with fail
      go_roundw
      case rel =>
        refine ⟨k + 1, _, by omega, by go_num, rfl, ?_, ?_, trivial⟩
        · rw [ByteArray.size_append]
          have : (⟨#[48]⟩ : ByteArray).size = 1 := rfl
          omega
        · have h := HTT.out
          show (t ++ ⟨#[48]⟩).data.toList = _
          rw [List.replicate_succ', ← List.append_assoc, ← h]
          simp
      case measure => simp [intOf]; omega
    · obtain rfl : k = hh := by omega
      have hki : ((k : Int) < (k : Int)) = False := eq_false (by omega)
      obtain ⟨c2, v2⟩ := start_text k hh2
      have HR2 := hide (fun w => rread_good t (by rw [htt.out]; exact c2) w)
      rw [htt.out, v2] at HR2
      clear hlt htt hts c2 v2
      go_wp2_with fail
      refine (HR2.out _).mono ?_
      rintro e w4 ⟨m1, v1, l1, rfl, hb4, o1, n1, q1, k1⟩
      obtain ⟨a1, g1, hvf, _, _⟩ := o1.form
      subst hvf
      have HB4 := hide (HB3.out.trans (hb4.mono HB3.out.size))
      have H5 := hide (below_blk hb4 H4.out (lt_blk H4.out))
      have OX4 := hide (OX.out.keep hb4)
      have O1 := hide (LimbAt.of_own o1); have N1 := hide n1
      have Q1 := hide (show lv 1000000 l1 = 10 ^ k by
        have h := congrArg Int.natAbs q1
        rw [valS_abs, Int.natAbs_natCast] at h
        exact h)
      clear hb4 o1 n1 q1 HR2 HB3 OX H4
      have hf1 := fun w => rfield_limbs m1 (.slice a1 l1.length g1) w
      go_wp2_with fail
      clear hf1
      have HLE := hide (show rootN n ≤ lv 1000000 l1 by rw [Q1.out]; exact HST.out)
      go_loopw [8] (fun r wr => ∃ (a : Option Addr) (c : Nat) (l : List Nat), r = .slice a l.length c ∧ l.length ≤ 60 ∧ Hid (LimbAt wr.heap.size wr (.slice a l.length c) l ∧ Norm 1000000 l ∧ rootN n ≤ lv 1000000 l ∧ wr.heap[nb]? = some (bigO false (.slice ax lx.length cx)) ∧ OwnL 0 wr (.slice ax lx.length cx) lx ∧ Below w.heap.size w wr)) (fun r wr => lv 1000000 (limbsAt wr r))
      case atStart => exact ⟨a1, g1, l1, rfl, k1, O1.out, N1.out, HLE.out, H5.out, OX4.out, HB4.out⟩
      case round =>
        obtain ⟨ar, cr, r, rfl, hr, hin⟩ := hrel
        obtain ⟨iL, iN, iG, iH, iX, iW⟩ := hin.out
        have e1 := cell_blk iH 1
        have hlt2 := lt_blk iH
        have lxl : lx.length ≤ 60 := kx
        have HT := hide (rtimes_any (.slice ar r.length cr) (.slice ar r.length cr) r r wr.heap.size wr.drew iL iL (Nat.le_refl _) iN.lt iN.lt (by omega) (by omega))
        have HL := hide iL; have HN := hide iN; have HG := hide iG; have HH := hide iH; have HX := hide iX; have HW := hide iW
        clear iL iN iG iH iX iW hin
        go_wp2_with fail
        go_region_held3 (fun w' => w'.cell? ⟨nb, 1, none⟩ = some (.slice ax lx.length cx)) (first | exact e1 | exact d1 | exact x1)
          (first
            | (go_at_call 57
               refine HT.out.mono ?_
               rintro e w5 ⟨l3, ⟨v3, rfl, hb5, o3⟩, n3, q3, k3⟩
               obtain ⟨a3, c3, hvf, _, _⟩ := o3.form
               subst hvf
               have HB5 := hide (show Below wr.heap.size wr w5 from below_ahead hb5)
               have d1 : w5.cell? ⟨nb, 1, none⟩ = some (.slice ax lx.length cx) := cell_blk (below_blk HB5.out HH.out hlt2) 1
               have O3 := hide (LimbAt.of_own o3); have N3 := hide n3; have Q3 := hide q3
               clear hb5 o3 n3 q3)
            | (go_at_call 56
               refine (rsize_any (.slice a3 l3.length c3) (.slice ax lx.length cx) l3 lx w5.heap.size w5 O3.out (.of_own (HX.out.keep HB5.out)) (Nat.le_refl _) N3.out NX.out (by omega)).mono ?_
               rintro e w6 ⟨r2, rfl, hr2, hb6⟩
               have HB6 := hide (show Below wr.heap.size wr w6 from HB5.out.trans (hb6.mono HB5.out.size))
               have x1 : w6.cell? ⟨nb, 1, none⟩ = some (.slice ax lx.length cx) := cell_blk (below_blk HB6.out HH.out hlt2) 1
               have HR2 := hide hr2
               clear hb6 hr2)
            | fail)
        have HW6 := hide (HW.out.trans (HB6.out.mono HW.out.size))
        have HH6 := hide (below_blk HB6.out HH.out hlt2)
        have HX6 := hide (HX.out.keep HB6.out)
        have HL6 := hide ((HL.out.below HB6.out (Nat.le_refl _)).mono HB6.out.size)
        have hlt6 := lt_blk HH6.out
        have hs6 := HB6.out.size
        have HC := hide (show CmpRes r2 (lv 1000000 r * lv 1000000 r) n by have h := HR2.out; rw [Q3.out, QX.out] at h; exact h)
        obtain ⟨wo, hwo⟩ : ∃ wo, wo = w6 := ⟨_, rfl⟩
        rw [← hwo] at HW6 HH6 HX6 HL6 hlt6 hs6 x1 ⊢
        clear hwo e1 d1 HB5 HB6 O3 N3 Q3 HH HX HW HT HR2
        by_cases hgt : 0 < r2
        · have hsq : n < lv 1000000 r * lv 1000000 r := by
            have h := HC.out
            unfold CmpRes at h
            rcases Nat.lt_or_ge n (lv 1000000 r * lv 1000000 r) with h1 | h1
            · exact h1
            · exfalso
              rcases Nat.lt_or_eq_of_le h1 with h2 | h2
              · have := h.1.2 h2
                omega
              · have := h.2.2 h2
                omega
          have hrp : 0 < lv 1000000 r := by
            rcases Nat.eq_zero_or_pos (lv 1000000 r) with h | h
            · rw [h] at hsq; omega
            · exact h
          have hrn : r ≠ [] := fun e => by rw [e, lv_nil] at hrp; omega
          have HSQ := hide (newton_lt hsq); have HGE := hide (newton_ge (n := n) hrp)
          have HDV := hide (rdivide_any (.slice ax lx.length cx) (.slice ar r.length cr) lx r wo.heap.size wo (.of_own HX6.out) HL6.out (Nat.le_refl _) NX.out.lt HN.out hrn (by omega) (by omega))
          clear hsq hrp hrn HC
          go_wp2_with fail
          refine HDV.out.mono ?_
          rintro e w7 ⟨vq, vr, q, rr, rfl, hb7, oq, or_, nq, nr, eq, er, lq⟩
          obtain ⟨aq, cq, hvf, _, _⟩ := oq.form
          subst hvf
          have HW7 := hide (HW6.out.trans (hb7.mono HW6.out.size)); have HH7 := hide (below_blk hb7 HH6.out hlt6); have HX7 := hide (HX6.out.keep hb7)
          have HL7 := hide ((HL6.out.below hb7 (Nat.le_refl _)).mono hb7.size)
          have OQ := hide (LimbAt.of_own oq); have NQ := hide nq
          have EQ := hide (show lv 1000000 q = n / lv 1000000 r by rw [eq, QX.out])
          have hlt7 := lt_blk HH7.out
          clear hb7 oq or_ nq nr eq er HDV HW6 HH6 HX6 HL6 x1 hlt6
          go_wp2_with fail
          refine (rplus_any (.slice ar r.length cr) (.slice aq q.length cq) r q w7.heap.size w7 HL7.out OQ.out (Nat.le_refl _) HN.out.lt NQ.out.lt (by omega) (by omega)).mono ?_
          rintro e w8 ⟨l8, ⟨v8, rfl, hb8, o8⟩, n8, q8, k8⟩
          obtain ⟨a8, c8, hvf, _, _⟩ := o8.form
          subst hvf
          have H2 := hide (row2 (w := w8))
          have hb8' := (show Below w7.heap.size w7 (w8.alloc (.cells #[.int .i64 2] 3)) from hb8.alloc hb8.size _)
          have HW8 := hide (HW7.out.trans (hb8'.mono HW7.out.size)); have HH8 := hide (below_blk hb8' HH7.out hlt7); have HX8 := hide (HX7.out.keep hb8')
          have O8 := hide (LimbAt.of_own (o8.keep ((Below.refl _ _).alloc (Nat.le_refl _) (.cells #[.int .i64 2] 3)))); have N8 := hide n8
          have Q8 := hide (show lv 1000000 l8 = lv 1000000 r + n / lv 1000000 r by rw [q8, EQ.out])
          have hk8 : l8.length ≤ 200 := by omega
          clear hb8 hb8' o8 n8 q8 k8 HW7 HH7 HX7 HL7 OQ NQ EQ hlt7
          go_wp2_with fail
          obtain ⟨w9, hw9⟩ : ∃ w9, w8.alloc (.cells #[.int .i64 2] 3) = w9 := ⟨_, rfl⟩
          rw [hw9] at H2 HW8 HH8 HX8 O8 ⊢
          have hlt9 := lt_blk HH8.out
          clear hw9
          refine (rdivide_any (.slice a8 l8.length c8) (.slice (some ⟨w8.heap.size, 0, none⟩) 1 1) l8 [2] w9.heap.size w9 O8.out H2.out (Nat.le_refl _) N8.out.lt norm2 (by simp) (by omega) (by simp)).mono ?_
          rintro e w10 ⟨vq2, vr2, q2, r3, rfl, hb10, oq2, or2, nq2, nr2, eq2, er2, lq2⟩
          obtain ⟨aq2, cq2, hvf, _, _⟩ := oq2.form
          subst hvf
          have HW10 := hide (HW8.out.trans (hb10.mono HW8.out.size)); have HH10 := hide (below_blk hb10 HH8.out hlt9); have HX10 := hide (HX8.out.keep hb10)
          have O10 := hide (LimbAt.of_own oq2); have N10 := hide nq2
          have E10 := hide (show lv 1000000 q2 = (lv 1000000 r + n / lv 1000000 r) / 2 by rw [eq2, Q8.out]; congr 1)
          have hk10 : q2.length ≤ 60 := by
            have h := norm_le_b (b := 1000000) (by omega) nq2 HN.out.lt (by rw [E10.out]; exact Nat.le_of_lt HSQ.out)
            omega
          clear hb10 oq2 or2 nq2 nr2 eq2 er2 lq2 HW8 HH8 HX8 O8 N8 Q8 H2
          go_wp2_with fail
          go_roundw
          case rel => exact ⟨aq2, cq2, q2, rfl, hk10, O10.out, N10.out, by rw [E10.out]; exact HGE.out, HH10.out, HX10.out, HW10.out⟩
          case measure =>
            rw [limbsAt_eq O10.out, limbsAt_eq HL.out, E10.out]
            exact HSQ.out
        · have hsq : lv 1000000 r * lv 1000000 r ≤ n := by
            have h := HC.out
            unfold CmpRes at h
            rcases Nat.lt_or_ge n (lv 1000000 r * lv 1000000 r) with h1 | h1
            · exfalso
              rcases Int.lt_trichotomy r2 0 with h2 | h2 | h2
              · have := h.1.1 h2
                omega
              · have := h.2.1 h2
                omega
              · exact hgt h2
            · exact h1
          have hrt := root_at HG.out hsq
          have hgt1 : decide (0 < r2) = false := decide_eq_false hgt
          rw [hgt1]
          have HWR := hide (rwrite_any false (.slice ar r.length cr) r wo.heap.size wo HL6.out (Nat.le_refl _) HN.out (by omega))
          rw [show valS false (lv 1000000 r) = ((rootN n : Nat) : Int) by rw [hrt]; rfl] at HWR
          clear hsq hrt hgt HC hgt1
          go_wp2_with fail
          refine HWR.out.mono ?_
          rintro e w7 ⟨rfl, hb7⟩
          have HB7 := hide (HW6.out.trans (hb7.mono HW6.out.size))
          clear hb7 HWR
          go_wp2_with fail
          refine bodyPost_ret (results_tmp2 rfl _ _ _) rfl ?_
          exact ⟨rfl, HB7.out⟩
end Go.Proofs.YthkioajalhglfaaGreatDoor
namespace Go.KI
open Go
theorem long_big {l : List Nat} {n : Nat} (h : Norm 1000000 l) (hl : n < l.length) (hn : most ≤ 6 * n) : lim ≤ lv 1000000 l := by
  have hne : l ≠ [] := fun e => by rw [e] at hl; simp at hl
  have h1 := h.ge hne
  have h2 : (1000000 : Nat) ^ n ≤ 1000000 ^ (l.length - 1) := Nat.pow_le_pow_right (by omega) (by omega)
  have h3 : lim ≤ 1000000 ^ n := by
    rw [show (1000000 : Nat) = 10 ^ 6 by decide, ← Nat.pow_mul]
    exact Nat.pow_le_pow_right (by omega) hn
  omega
end Go.KI
namespace Go.Proofs.YthkioajalhglfaaGreatDoor
open Go.RowKit Go.KP Go.KI Go.Shelf
attribute [local go_sem] Oper.semAt_some

theorem norm_one : Norm 1000000 [1] := norm1
set_option maxRecDepth 100000 in
set_option maxHeartbeats 4000000 in
theorem rPower_good (s : ByteArray) (k : Nat) (w : World) (c1 : chkI s.data.toList = 0) (hk : k ≤ 4096) :
    Calls Tryz.prog 24 #[.string s, .int .i64 k] w (Ret w (pairV (resS (valI s.data.toList ^ k)) (resE (valI s.data.toList ^ k)))) := by
  have l1 := (chk_digs c1).2
  rw [bytes_len] at l1
  have HC := hide (rcheck_any s (by omega) w)
  rw [c1] at HC
  have HRD := hide (fun w => rread_good s c1 w)
  obtain ⟨x, hx⟩ : ∃ x, x = valI s.data.toList := ⟨_, rfl⟩
  rw [← hx] at HRD ⊢
  have g1 : ((k : Int) < 0) = False := eq_false (by omega)
  have g2 : ((4096 : Int) < (k : Int)) = False := eq_false (by omega)
  clear c1 l1 hx
  go_enter Tryz.func24, Tryz.ntmps24
  go_wp2_with fail
  refine HC.out.mono ?_
  rintro e w1 ⟨rfl, hb1⟩
  have HB1 := hide hb1
  clear hb1 HC
  go_wp2_with fail
  clear g1 g2
  refine (HRD.out _).mono ?_
  rintro e w2 ⟨mx, vx, lx, rfl, hb2, ox, nx, qx, kx⟩
  obtain ⟨ax, cx, hvf, _, _⟩ := ox.form
  subst hvf
  have HB2 := hide (HB1.out.trans (hb2.mono HB1.out.size))
  have OX := hide ox; have NX := hide nx; have QX := hide qx
  clear hb2 ox nx qx HB1 HRD
  go_wp2_with fail
  have H3 := hide (heap3 w2 (rowO [1]) (bigO mx (.slice ax lx.length cx)) (bigO false (.slice (some ⟨w2.heap.size, 0, none⟩) 1 1)))
  obtain ⟨w3, hw3⟩ : ∃ w3, ((w2.alloc (rowO [1])).alloc (bigO mx (.slice ax lx.length cx))).alloc (bigO false (.slice (some ⟨w2.heap.size, 0, none⟩) 1 1)) = w3 := ⟨_, rfl⟩
  rw [hw3] at H3
  have HW3 := hide hw3
  clear hw3
  rw [show ((w2.alloc (.cells #[.int .i64 1] 3)).alloc (.cells #[.bool mx, .slice ax lx.length cx] 55)).alloc (.cells #[.bool false, .slice (some ⟨w2.heap.size, 0, none⟩) 1 1] 55) = w3 from HW3.out]
  have OX3 := hide ((OX.out.keep H3.out.2.2.2.2).mono (Nat.zero_le _))
  have HB3 := hide (HB2.out.trans (H3.out.2.2.2.2.mono HB2.out.size))
  have O13 := hide (show OwnL 0 w3 (.slice (some ⟨w2.heap.size, 0, none⟩) 1 1) [1] from row_owns H3.out.1 (Nat.zero_le _) (by simp [maxLen]))
  have hnw0 : w.heap.size ≤ w2.heap.size := HB2.out.size
  obtain ⟨nb, hnb⟩ : ∃ nb, nb = w2.heap.size := ⟨_, rfl⟩
  have HNB := hide hnb
  rw [← hnb] at H3 O13 ⊢
  clear hnb OX HB2 HW3
  go_loopw [9] (fun i wr => ∃ n : Nat, n ≤ k ∧ i = .int .i64 n ∧ Hid (∃ (m : Bool) (a : Option Addr) (c : Nat) (l : List Nat), wr.heap[nb + 1]? = some (bigO mx (.slice ax lx.length cx)) ∧ wr.heap[nb + 2]? = some (bigO m (.slice a l.length c)) ∧ OwnL 0 wr (.slice ax lx.length cx) lx ∧ OwnL 0 wr (.slice a l.length c) l ∧ Norm 1000000 l ∧ valS m (lv 1000000 l) = x ^ n ∧ l.length ≤ 52 ∧ Below w.heap.size w wr ∧ w.heap.size ≤ nb)) (fun i _ => k - (intOf i).toNat)
  case atStart => exact ⟨0, Nat.zero_le _, rfl, false, _, _, [1], H3.out.2.1, H3.out.2.2.1, OX3.out, O13.out, norm_one, by rw [Int.pow_zero]; rfl, by simp, HB3.out, by have := HNB.out; omega⟩
  case round =>
    obtain ⟨n, hn, rfl, hin⟩ := hrel
    obtain ⟨m, a, c, l, hx1, ho1, oX, oL, nL, vL, lL, hW, hnw⟩ := hin.out
    have e1 := cell_blk hx1 0
    have e2 := cell_blk hx1 1
    have e3 := cell_blk ho1 0
    have e4 := cell_blk ho1 1
    have s1 := lt_blk hx1
    have s2 := lt_blk ho1
    by_cases hlt : n < k
    · have hl : (n : Int) < (k : Int) := by omega
      have HM := hide (rmul_any m mx a ax c cx l lx wr (.of_own oL) (.of_own oX) nL.lt NX.out.lt (by omega) (by omega))
      have HX1 := hide hx1; have HO1 := hide ho1; have OXX := hide oX; have VL := hide vL; have HWW := hide hW
      clear hx1 ho1 oX oL nL vL hW hin
      go_wp2_with fail
      refine HM.out.mono ?_
      rintro e w4 ⟨m3, v3, l3, rfl, hb4, o3, n3, q3, k3⟩
      obtain ⟨a3, c3, hvf, _, _⟩ := o3.form
      subst hvf
      have HX4 := hide (below_blk hb4 HX1.out s1); have HO4 := hide (below_blk hb4 HO1.out s2)
      have OX4 := hide (OXX.out.keep hb4); have O4 := hide (o3.mono (Nat.zero_le _)); have N4 := hide n3
      have V4 := hide (show valS m3 (lv 1000000 l3) = x ^ (n + 1) by rw [q3, VL.out, QX.out, ← Int.pow_succ])
      have HB4 := hide (HWW.out.trans (hb4.mono HWW.out.size))
      clear hb4 o3 n3 q3 k3 HM OXX HWW HX1 HO1 e1 e2 e3 e4 s1 s2
      have f3 := froz_blk HO4.out 0
      have f4 := froz_blk HO4.out 1
      have e3 := cell_blk HO4.out 0
      have e4 := cell_blk HO4.out 1
      have s2 := lt_blk HO4.out
      by_cases h52 : 52 < l3.length
      · have h52i : (52 : Int) < (l3.length : Int) := by omega
        have HE := hide (show pairV (resS (x ^ k)) (resE (x ^ k)) = .tuple #[.string ⟨#[]⟩, .int .i64 4] by
          have hbig := long_big N4.out h52 (by rw [most_eq]; omega)
          have hnf : ¬ fits (x ^ (n + 1)) := fun h => by
            rw [← V4.out] at h
            unfold fits at h
            rw [valS_abs] at h
            omega
          have hnk : ¬ fits (x ^ k) := fun h => hnf (pow_fits h (by omega))
          rw [pairV, show resS (x ^ k) = [] from if_neg hnk, show resE (x ^ k) = 4 from if_neg hnk]
          rfl)
        clear h52 lL
        go_wp2_with fail
        obtain ⟨y1, y2⟩ := set2 HO4.out (.bool m3) (.slice a3 l3.length c3)
        refine bodyPost_ret (results_tmp2 rfl _ _ _) rfl ?_
        rw [HE.out]
        exact ⟨rfl, HB4.out.trans (y2.mono (by omega))⟩
      · have h52i : ((52 : Int) < (l3.length : Int)) = False := eq_false (by omega)
        have h52n : l3.length ≤ 52 := by omega
        clear h52 lL
        go_wp2_with fail
        obtain ⟨y1, y2⟩ := set2 HO4.out (.bool m3) (.slice a3 l3.length c3)
        go_roundw
        case rel => exact ⟨n + 1, by omega, by go_num, m3, a3, c3, l3, (setCell_other (by omega)).trans ((setCell_other (by omega)).trans HX4.out), y1, OX4.out.setNum HO4.out m3 _, O4.out.setNum HO4.out m3 _, N4.out, V4.out, h52n, HB4.out.trans (y2.mono (by omega)), hnw⟩
        case measure => simp [intOf]; omega
    · obtain rfl : n = k := by omega
      have hl : ((n : Int) < (n : Int)) = False := eq_false (by omega)
      have HR := hide (rresult_any m (.slice a l.length c) l wr.heap.size wr (.of_own oL) (Nat.le_refl _) nL (by omega))
      rw [vL] at HR
      have HWW := hide hW
      clear hlt hx1 ho1 oX oL nL vL hW hin
      go_wp2_with fail
      refine HR.out.mono ?_
      rintro e w4 ⟨rfl, hb4⟩
      have HB4 := hide (HWW.out.trans (hb4.mono HWW.out.size))
      clear hb4 HR
      go_wp2_with fail
      refine bodyPost_ret (results_tmp2 rfl _ _ _) rfl ?_
      exact ⟨rfl, HB4.out⟩
set_option maxRecDepth 100000 in
set_option maxHeartbeats 2000000 in
theorem rPower_bad (s : ByteArray) (k : Int) (hs : s.size ≤ 1000000) (hE : chkI s.data.toList ≠ 0) (w : World) :
    Calls Tryz.prog 24 #[.string s, .int .i64 k] w (Ret w (.tuple #[.string ⟨#[]⟩, .int .i64 (chkI s.data.toList)])) := by
  have H1 := hide (rcheck_any s hs w)
  have hne : (chkI s.data.toList != 0) = true := by simpa using hE
  obtain ⟨E, hEE⟩ : ∃ E, E = chkI s.data.toList := ⟨_, rfl⟩
  rw [← hEE] at H1 hne ⊢
  clear hE hEE
  go_enter Tryz.func24, Tryz.ntmps24
  go_wp2_with fail
  refine H1.out.mono ?_
  rintro e w1 ⟨rfl, hb1⟩
  have HB1 := hide hb1
  clear hb1 H1
  go_wp2_with fail
  refine bodyPost_ret (results_tmp2 rfl _ _ _) rfl ?_
  exact ⟨rfl, HB1.out⟩
set_option maxRecDepth 100000 in
set_option maxHeartbeats 2000000 in
theorem rPower_range (s : ByteArray) (k : Int) (c1 : chkI s.data.toList = 0) (hk : k < 0 ∨ 4096 < k) (w : World) :
    Calls Tryz.prog 24 #[.string s, .int .i64 k] w (Ret w (.tuple #[.string ⟨#[]⟩, .int .i64 2])) := by
  have l1 := (chk_digs c1).2
  rw [bytes_len] at l1
  have H1 := hide (rcheck_any s (by omega) w)
  rw [c1] at H1
  clear c1 l1
  rcases hk with hk | hk
  · go_enter Tryz.func24, Tryz.ntmps24
    go_wp2_with fail
    refine H1.out.mono ?_
    rintro e w1 ⟨rfl, hb1⟩
    have HB1 := hide hb1
    clear hb1 H1
    go_wp2_with fail
    refine bodyPost_ret (results_tmp2 rfl _ _ _) rfl ?_
    exact ⟨rfl, HB1.out⟩
  · have h0 : (k < 0) = False := eq_false (by omega)
    go_enter Tryz.func24, Tryz.ntmps24
    go_wp2_with fail
    refine H1.out.mono ?_
    rintro e w1 ⟨rfl, hb1⟩
    have HB1 := hide hb1
    clear hb1 H1
    go_wp2_with fail
    refine bodyPost_ret (results_tmp2 rfl _ _ _) rfl ?_
    exact ⟨rfl, HB1.out⟩
set_option maxRecDepth 100000 in
set_option maxHeartbeats 2000000 in
theorem Power_bad (s : ByteArray) (k : Int) (hs : s.size ≤ 1000000) (hE : chkI s.data.toList ≠ 0) (w : World) :
    Calls Tryz.prog 23 #[.string s, .int .i64 k] w (Ret w (.tuple #[.string ⟨#[]⟩, .int .i64 (chkI s.data.toList)])) := by
  have H1 := hide (check_any s hs w)
  have hne : (chkI s.data.toList != 0) = true := by simpa using hE
  obtain ⟨E, hEE⟩ : ∃ E, E = chkI s.data.toList := ⟨_, rfl⟩
  rw [← hEE] at H1 hne ⊢
  clear hE hEE
  go_enter Tryz.func23, Tryz.ntmps23
  go_wp2_with fail
  refine H1.out.mono ?_
  rintro e w1 ⟨rfl, hb1⟩
  have HB1 := hide hb1
  clear hb1 H1
  go_wp2_with fail
  refine bodyPost_ret (results_tmp2 rfl _ _ _) rfl ?_
  exact ⟨rfl, HB1.out⟩
set_option maxRecDepth 100000 in
set_option maxHeartbeats 2000000 in
theorem Power_range (s : ByteArray) (k : Int) (c1 : chkI s.data.toList = 0) (hk : k < 0 ∨ 4096 < k) (w : World) :
    Calls Tryz.prog 23 #[.string s, .int .i64 k] w (Ret w (.tuple #[.string ⟨#[]⟩, .int .i64 2])) := by
  have l1 := (chk_digs c1).2
  rw [bytes_len] at l1
  have H1 := hide (check_any s (by omega) w)
  rw [c1] at H1
  clear c1 l1
  rcases hk with hk | hk
  · go_enter Tryz.func23, Tryz.ntmps23
    go_wp2_with fail
    refine H1.out.mono ?_
    rintro e w1 ⟨rfl, hb1⟩
    have HB1 := hide hb1
    clear hb1 H1
    go_wp2_with fail
    refine bodyPost_ret (results_tmp2 rfl _ _ _) rfl ?_
    exact ⟨rfl, HB1.out⟩
  · have h0 : (k < 0) = False := eq_false (by omega)
    go_enter Tryz.func23, Tryz.ntmps23
    go_wp2_with fail
    refine H1.out.mono ?_
    rintro e w1 ⟨rfl, hb1⟩
    have HB1 := hide hb1
    clear hb1 H1
    go_wp2_with fail
    refine bodyPost_ret (results_tmp2 rfl _ _ _) rfl ?_
    exact ⟨rfl, HB1.out⟩
end Go.Proofs.YthkioajalhglfaaGreatDoor
namespace Go.Proofs.YthkioajalhglfaaGreatDoor
open Go.RowKit Go.KP Go.KI Go.Shelf
attribute [local go_sem] Oper.semAt_some

theorem heap_pair (w : World) (a b : ByteArray) (t : TypeId) (i : Nat) (s : ByteArray) (h : [a, b][i]? = some s) : (w.alloc (.cells #[.string a, .string b] t)).cell? ⟨w.heap.size, i, none⟩ = some (.string s) := by
  obtain ⟨g0, _, _⟩ := heap1 w (.cells #[.string a, .string b] t)
  rw [cell_blk g0 i]
  match i with
  | 0 => simpa using h
  | 1 => simpa using h
  | n + 2 => simp at h
theorem cmp_pos {x y : Int} (h : y < x) : Lib.compareInt x y = 1 := by
  unfold Lib.compareInt
  rw [if_neg (by omega)]
  first | rfl | (split <;> omega)
theorem cmp_less {x y : Int} (h : x < y) : Lib.compareInt x y = -1 := by
  unfold Lib.compareInt
  split <;> omega
/-- The signs of a division: the remainder's n, the divisor's m, the two compared d. -/
theorem div_signs (x : Int) {y : Int} (hy : y ≠ 0) : ∃ n m d : Int, Lib.compareInt (x.fmod y) 0 = n ∧ Lib.compareInt y 0 = m ∧ Lib.compareInt (x.fmod y) y = d ∧ (n = 0 ∨ n = m) ∧ d = -m ∧ (m = 1 ∨ m = -1) := by
  rcases Int.lt_or_gt_of_ne hy with hn | hp
  · have h := ((Int.fdiv_fmod_unique' (a := x) (r := x.fmod y) (q := x.fdiv y) hn).1 ⟨rfl, rfl⟩).2
    refine ⟨_, -1, 1, rfl, cmp_less hn, cmp_pos h.1, ?_, rfl, .inr rfl⟩
    by_cases h0 : x.fmod y = 0
    · rw [h0]; exact .inl (cmp_zero.2 rfl)
    · exact .inr (cmp_less (by omega))
  · have h := ((Int.fdiv_fmod_unique (a := x) (r := x.fmod y) (q := x.fdiv y) hp).1 ⟨rfl, rfl⟩).2
    refine ⟨_, 1, -1, rfl, cmp_pos hp, cmp_less h.2, ?_, rfl, .inl rfl⟩
    by_cases h0 : x.fmod y = 0
    · rw [h0]; exact .inl (cmp_zero.2 rfl)
    · exact .inr (cmp_pos (by omega))
theorem Compare_to {s t : ByteArray} {x y c : Int} (h1 : s.data.toList = Lib.itoa x) (h2 : t.data.toList = Lib.itoa y) (f1 : fits x) (f2 : fits y) (hc : Lib.compareInt x y = c) (w : World) :
    Calls Tryz.prog 30 #[.string s, .string t] w (Ret w (.tuple #[.int .i64 c, .int .i64 0])) := by
  rw [← hc]
  exact Compare_good h1 h2 f1 f2 w
set_option maxRecDepth 100000 in
set_option maxHeartbeats 4000000 in
theorem division_any (a b : ByteArray) (B : Nat) (w : World) (hB : B ≤ w.heap.size) (hT : P10 B w) :
    Calls Tryz.prog 10 #[.string a, .string b] w (Ret w (.bool true)) := by
  have HT := hide hT
  have HAW := hide (fun w2 (hb : Below w.heap.size w w2) => awake_any B w2 (Nat.le_trans hB hb.size) (hT.on hb hB))
  clear hT
  have HF := hide (fun t => fine_any w.heap.size [a, b] (w.alloc (.cells #[.string a, .string b] t)) (by simp) (heap_pair w a b t) (by simp))
  obtain ⟨F, hF⟩ : ∃ F, F = decide (∀ s ∈ [a, b], fineS s) := ⟨_, rfl⟩
  rw [← hF] at HF
  have G0 := hide (fun o => (heap1 w o).2.2)
  cases F
  · clear hF
    go_enter Tryz.func10, Tryz.ntmps10
    go_wp2_with fail
    refine (HF.out _).mono ?_
    rintro e w1 ⟨rfl, hb1⟩
    have HB1 := hide ((G0.out _).trans (hb1.mono (G0.out _).size))
    clear hb1 HF G0
    go_wp2_with fail
    refine (HAW.out _ HB1.out).mono ?_
    rintro e w2 ⟨rfl, hb2⟩
    have HB2 := hide (HB1.out.trans (hb2.mono HB1.out.size))
    clear hb2 HAW HB1
    go_wp2_with fail
    go_ret
    exact ⟨rfl, HB2.out⟩
  · have hf := of_decide_eq_true hF.symm
    have fa := hf a (by simp)
    have fb := hf b (by simp)
    clear hF hf
    by_cases hz : b.data.toList = [48]
    · have K1 := hide (fun w => Divide_zero fa.2 hz w)
      have hq : (b.toList == [48]) = true := by rw [ByteArray.toList_eq]; simpa using hz
      clear hz fa fb
      go_enter Tryz.func10, Tryz.ntmps10
      go_wp2_with fail
      refine (HF.out _).mono ?_
      rintro e w1 ⟨rfl, hb1⟩
      have HB1 := hide ((G0.out _).trans (hb1.mono (G0.out _).size))
      clear hb1 HF G0
      go_wp2_with fail
      refine (K1.out _).mono ?_
      rintro e w2 ⟨rfl, hb2⟩
      have HB2 := hide (HB1.out.trans (hb2.mono HB1.out.size))
      clear hb2 K1 HB1
      go_wp2_with fail
      refine (HAW.out _ HB2.out).mono ?_
      rintro e w3 ⟨rfl, hb3⟩
      have HB3 := hide (HB2.out.trans (hb3.mono HB2.out.size))
      clear hb3 HAW HB2
      go_wp2_with fail
      go_ret
      exact ⟨rfl, HB3.out⟩
    · have hq : (b.toList == [48]) = false := by rw [ByteArray.toList_eq]; simpa using hz
      have hy := chk_nz fb.2 hz
      have ea := (chk_ok fa.2).1
      have eb := (chk_ok fb.2).1
      have fx := (chk_ok fa.2).2
      have fy := (chk_ok fb.2).2
      obtain ⟨x, hx⟩ : ∃ x, x = valI a.data.toList := ⟨_, rfl⟩
      obtain ⟨y, hyy⟩ : ∃ y, y = valI b.data.toList := ⟨_, rfl⟩
      rw [← hx] at ea fx
      rw [← hyy] at eb fy hy
      have mk : ∀ u : Int, ∃ s : ByteArray, s.data.toList = Lib.itoa u := fun u => ⟨strB _, strB_list _⟩
      obtain ⟨q, e1⟩ := mk (x.fdiv y)
      obtain ⟨r, e2⟩ := mk (x.fmod y)
      obtain ⟨p, e3⟩ := mk (x.fdiv y * y)
      obtain ⟨n, m, d, k1, k2, k3, k4, k5, k6⟩ := div_signs x hy
      have hfm := Int.mul_fdiv_add_fmod x y
      have hmm : x.fdiv y * y + x.fmod y = x := by rw [Int.mul_comm]; exact hfm
      have fq : fits (x.fdiv y) := fits_of_le fx (fdiv_natAbs_le hy)
      have fr : fits (x.fmod y) := fits_of_le fy (Nat.le_of_lt (fmod_natAbs_lt hy))
      have va := fine_val fa
      have vb := fine_val fb
      rw [← hx] at va
      rw [← hyy] at vb
      have fp : fits (x.fdiv y * y) := by
        refine fits_small (n := 200) (by rw [most_eq]; omega) ?_
        have h1 := fmod_natAbs_lt (x := x) hy
        have h2 : (10 : Nat) ^ 80 + 10 ^ 80 ≤ 10 ^ 200 := by
          have h3 : (10 : Nat) ^ 81 ≤ 10 ^ 200 := Nat.pow_le_pow_right (by omega) (by omega)
          have h4 : (10 : Nat) ^ 81 = 10 ^ 80 * 10 := Nat.pow_succ ..
          omega
        have h5 : (x.fdiv y * y).natAbs ≤ x.natAbs + (x.fmod y).natAbs := by
          have : x.fdiv y * y = x - x.fmod y := by omega
          rw [this]
          omega
        omega
      have K1 := hide (fun B w => Divide_to ea eb e1 e2 fx fy hy B w)
      have K2 := hide (fun B w => Mul_to e1 eb e3 fq fy fp B w)
      have K3 := hide (fun B w => Add_to e3 e2 (r := a) (by rw [hmm]; exact ea) fp fr (by rw [hmm]; exact fx) B w)
      have K4 := hide (fun w => Compare_to (t := ⟨#[48]⟩) e2 itoa_zero.symm fr fits_zero k1 w)
      have K5 := hide (fun w => Compare_to (t := ⟨#[48]⟩) eb itoa_zero.symm fy fits_zero k2 w)
      have K6 := hide (fun w => Compare_to e2 eb fr fy k3 w)
      have hmx : ∀ w : World, (Builtin.max_ #[24, 24, 24, 24, 24, 24] 24 #[.int .i64 0, .int .i64 0, .int .i64 0, .int .i64 0, .int .i64 0, .int .i64 0]).run Tryz.prog w = .ok (.int .i64 0) w := fun _ => by kernel_rfl
      have ta : (a.toList == a.toList) = true := beq_self_eq_true _
      clear ea eb e1 e2 e3 k1 k2 k3 hfm hmm fq fr fp fx fy fa fb hz hy hx hyy mk va vb
      subst k5
      rcases k6 with rfl | rfl <;> rcases k4 with rfl | rfl
      all_goals
        go_enter Tryz.func10, Tryz.ntmps10
        go_wp2_with fail
        refine (HF.out _).mono ?_
        rintro e w1 ⟨rfl, hb1⟩
        have HB1 := hide ((G0.out _).trans (hb1.mono (G0.out _).size))
        clear hb1 HF G0
        go_wp2_with fail
        refine (K1.out B _ (Nat.le_trans hB HB1.out.size) (HT.out.on HB1.out hB)).mono ?_
        rintro e w2 ⟨rfl, hb2⟩
        have HB2 := hide (HB1.out.trans (hb2.mono HB1.out.size))
        clear hb2 K1 HB1
        go_wp2_with fail
        refine (K2.out B _ (Nat.le_trans hB HB2.out.size) (HT.out.on HB2.out hB)).mono ?_
        rintro e w3 ⟨rfl, hb3⟩
        have HB3 := hide (HB2.out.trans (hb3.mono HB2.out.size))
        clear hb3 K2 HB2
        go_wp2_with fail
        refine (K3.out B _ (Nat.le_trans hB HB3.out.size) (HT.out.on HB3.out hB)).mono ?_
        rintro e w4 ⟨rfl, hb4⟩
        have HB4 := hide (HB3.out.trans (hb4.mono HB3.out.size))
        clear hb4 K3 HB3
        go_wp2_with fail
        refine (K4.out _).mono ?_
        rintro e w5 ⟨rfl, hb5⟩
        have HB5 := hide (HB4.out.trans (hb5.mono HB4.out.size))
        clear hb5 K4 HB4
        go_wp2_with fail
        refine (K5.out _).mono ?_
        rintro e w6 ⟨rfl, hb6⟩
        have HB6 := hide (HB5.out.trans (hb6.mono HB5.out.size))
        clear hb6 K5 HB5
        go_wp2_with fail
        refine (K6.out _).mono ?_
        rintro e w7 ⟨rfl, hb7⟩
        have HB7 := hide (HB6.out.trans (hb7.mono HB6.out.size))
        clear hb7 K6 HB6
        go_wp2_with fail
        refine (HAW.out _ HB7.out).mono ?_
        rintro e w8 ⟨rfl, hb8⟩
        have HB8 := hide (HB7.out.trans (hb8.mono HB7.out.size))
        clear hb8 HAW HB7
        go_wp2_with fail
        go_ret
        exact ⟨rfl, HB8.out⟩
end Go.Proofs.YthkioajalhglfaaGreatDoor
namespace Go.Proofs.YthkioajalhglfaaGreatDoor
open Go.RowKit Go.KP Go.KI Go.Shelf
attribute [local go_sem] Oper.semAt_some

theorem heap_one (w : World) (a : ByteArray) (t : TypeId) (i : Nat) (s : ByteArray) (h : [a][i]? = some s) : (w.alloc (.cells #[.string a] t)).cell? ⟨w.heap.size, i, none⟩ = some (.string s) := by
  obtain ⟨g0, _, _⟩ := heap1 w (.cells #[.string a] t)
  rw [cell_blk g0 i]
  match i with
  | 0 => simpa using h
  | n + 1 => simp at h
theorem err_cases (z : Int) : (fits z ∧ resE z = 0 ∧ resS z = Lib.itoa z) ∨ (¬ fits z ∧ resE z = 4 ∧ resS z = []) := by
  by_cases h : fits z
  · exact .inl ⟨h, if_pos h, if_pos h⟩
  · exact .inr ⟨h, if_neg h, if_neg h⟩
set_option maxRecDepth 100000 in
set_option maxHeartbeats 4000000 in
theorem powers_any (a : ByteArray) (i j : Nat) (hi : i ≤ 255) (hj : j ≤ 255) (B : Nat) (w : World) (hB : B ≤ w.heap.size) (hT : P10 B w) :
    Calls Tryz.prog 5 #[.string a, .int .u8 i, .int .u8 j] w (Ret w (.bool true)) := by
  have HT := hide hT
  have HAW := hide (fun w2 (hb : Below w.heap.size w w2) => awake_any B w2 (Nat.le_trans hB hb.size) (hT.on hb hB))
  clear hT
  have HF := hide (fun t => fine_any w.heap.size [a] (w.alloc (.cells #[.string a] t)) (by simp) (heap_one w a t) (by simp))
  obtain ⟨F, hF⟩ : ∃ F, F = decide (∀ s ∈ [a], fineS s) := ⟨_, rfl⟩
  rw [← hF] at HF
  cases F
  · have G0 := hide (fun o => (heap1 w o).2.2)
    clear hF
    go_enter Tryz.func5, Tryz.ntmps5
    go_wp2_with fail
    refine (HF.out _).mono ?_
    rintro e w1 ⟨rfl, hb1⟩
    have HB1 := hide ((G0.out _).trans (hb1.mono (G0.out _).size))
    clear hb1 HF G0
    go_wp2_with fail
    refine (HAW.out _ HB1.out).mono ?_
    rintro e w2 ⟨rfl, hb2⟩
    have HB2 := hide (HB1.out.trans (hb2.mono HB1.out.size))
    clear hb2 HAW HB1
    go_wp2_with fail
    go_ret
    exact ⟨rfl, HB2.out⟩
  · have hf := of_decide_eq_true hF.symm
    have fa := hf a (by simp)
    clear hF hf
    have ea := (chk_ok fa.2).1
    have fx := (chk_ok fa.2).2
    obtain ⟨x, hx⟩ : ∃ x, x = valI a.data.toList := ⟨_, rfl⟩
    rw [← hx] at ea fx
    clear fa hx
    have K1 := hide (show ∀ B w, B ≤ w.heap.size → P10 B w → Calls Tryz.prog 23 #[.string a, .int .i64 1] w (Ret w (.tuple #[.string a, .int .i64 0])) from fun B w hB hT => by
      have h := Power_good a x 1 B w ea fx (by omega) hB hT
      rw [Int.pow_succ, Int.pow_zero, Int.one_mul, pairV, show resS x = Lib.itoa x from if_pos fx, show resE x = 0 from if_pos fx, strB_eq ea] at h
      exact h)
    have K0 := hide (show ∀ B w, B ≤ w.heap.size → P10 B w → Calls Tryz.prog 23 #[.string a, .int .i64 0] w (Ret w (.tuple #[.string ⟨#[49]⟩, .int .i64 0])) from fun B w hB hT => by
      have h := Power_good a x 0 B w ea fx (by omega) hB hT
      rw [Int.pow_zero, pairV, show resS 1 = Lib.itoa 1 from if_pos fits_one, show resE 1 = 0 from if_pos fits_one, itoa_one] at h
      exact h)
    have KI := hide (fun B w => Power_good a x i B w ea fx (by omega))
    have KJ := hide (fun B w => Power_good a x j B w ea fx (by omega))
    have KS := hide (fun B w => Power_good a x (i + j) B w ea fx (by omega))
    rw [Int.natCast_add] at KS
    have G0 := hide (fun o => (heap1 w o).2.2)
    have hij1 := pow_fits (x := x) (i := i) (k := i + j) 
    have hij2 := pow_fits (x := x) (i := j) (k := i + j)
    have KM := hide (fun (s t : ByteArray) h1 h2 f1 f2 B w => Mul_good (s := s) (t := t) (x := x ^ i) (y := x ^ j) h1 h2 f1 f2 B w)
    rw [← Int.pow_add] at KM
    have HX := hide ea; have FX := hide fx
    clear ea fx
    obtain ⟨X, hX⟩ : ∃ X, X = x ^ i := ⟨_, rfl⟩
    obtain ⟨Y, hY⟩ : ∃ Y, Y = x ^ j := ⟨_, rfl⟩
    obtain ⟨Z, hZ⟩ : ∃ Z, Z = x ^ (i + j) := ⟨_, rfl⟩
    rw [← hX] at KI KM hij1
    rw [← hY] at KJ KM hij2
    rw [← hZ] at KS KM hij1 hij2
    clear hX hY hZ
    rcases err_cases X with ⟨fX, eX, sX⟩ | ⟨fX, eX, sX⟩
    · rcases err_cases Y with ⟨fY, eY, sY⟩ | ⟨fY, eY, sY⟩
      rotate_left
      · have fZ : ¬ fits Z := fun h => fY (hij2 h (by omega))
        have eZ : resE Z = 4 := if_neg fZ
        have sZ : resS Z = [] := if_neg fZ
        rw [pairV, sX, eX] at KI
        rw [pairV, sY, eY] at KJ
        rw [pairV, sZ, eZ] at KS
        obtain ⟨p, hp⟩ : ∃ p, p = strB (Lib.itoa X) := ⟨_, rfl⟩
        obtain ⟨q, hq⟩ : ∃ q, q = strB [] := ⟨_, rfl⟩
        rw [← hp] at KI
        rw [← hq] at KJ
        clear fZ eZ sZ sX eX sY eY fX fY hij1 hij2 KM hp hq HX FX
        go_enter Tryz.func5, Tryz.ntmps5
        go_wp2_with fail
        refine (HF.out _).mono ?_
        rintro e w1 ⟨rfl, hb1⟩
        have HB1 := hide ((G0.out _).trans (hb1.mono (G0.out _).size))
        clear hb1 HF G0
        go_wp2_with fail
        refine (K1.out B _ (Nat.le_trans hB HB1.out.size) (HT.out.on HB1.out hB)).mono ?_
        rintro e w2 ⟨rfl, hb2⟩
        have HB2 := hide (HB1.out.trans (hb2.mono HB1.out.size))
        clear hb2 K1 HB1
        go_wp2_with fail
        refine (K0.out B _ (Nat.le_trans hB HB2.out.size) (HT.out.on HB2.out hB)).mono ?_
        rintro e w3 ⟨rfl, hb3⟩
        have HB3 := hide (HB2.out.trans (hb3.mono HB2.out.size))
        clear hb3 K0 HB2
        go_wp2_with fail
        refine (KI.out B _ (Nat.le_trans hB HB3.out.size) (HT.out.on HB3.out hB)).mono ?_
        rintro e w4 ⟨rfl, hb4⟩
        have HB4 := hide (HB3.out.trans (hb4.mono HB3.out.size))
        clear hb4 KI HB3
        go_wp2_with fail
        refine (KJ.out B _ (Nat.le_trans hB HB4.out.size) (HT.out.on HB4.out hB)).mono ?_
        rintro e w5 ⟨rfl, hb5⟩
        have HB5 := hide (HB4.out.trans (hb5.mono HB4.out.size))
        clear hb5 KJ HB4
        go_wp2_with fail
        refine (KS.out B _ (Nat.le_trans hB HB5.out.size) (HT.out.on HB5.out hB)).mono ?_
        rintro e w6 ⟨rfl, hb6⟩
        have HB6 := hide (HB5.out.trans (hb6.mono HB5.out.size))
        clear hb6 KS HB5
        go_wp2_with fail
        refine (HAW.out _ HB6.out).mono ?_
        rintro e w7 ⟨rfl, hb7⟩
        have HB7 := hide (HB6.out.trans (hb7.mono HB6.out.size))
        clear hb7 HAW HB6
        go_wp2_with fail
        go_ret
        exact ⟨rfl, HB7.out⟩
      obtain ⟨p, hp⟩ : ∃ p, p = strB (Lib.itoa X) := ⟨_, rfl⟩
      obtain ⟨q, hq⟩ : ∃ q, q = strB (Lib.itoa Y) := ⟨_, rfl⟩
      obtain ⟨u, hu⟩ : ∃ u, u = strB (resS Z) := ⟨_, rfl⟩
      obtain ⟨E, hE⟩ : ∃ E, E = resE Z := ⟨_, rfl⟩
      rw [pairV, sX, eX, ← hp] at KI
      rw [pairV, sY, eY, ← hq] at KJ
      rw [pairV, ← hu, ← hE] at KS KM
      have KN := hide (KM.out p q (by rw [hp]; exact strB_list _) (by rw [hq]; exact strB_list _) fX fY)
      have tu : (u.toList == u.toList) = true := beq_self_eq_true _
      have tE : (E == E) = true := beq_self_eq_true _
      clear hp hq hu hE sX eX sY eY fX fY hij1 hij2 KM HX FX
      go_enter Tryz.func5, Tryz.ntmps5
      go_wp2_with fail
      refine (HF.out _).mono ?_
      rintro e w1 ⟨rfl, hb1⟩
      have HB1 := hide ((G0.out _).trans (hb1.mono (G0.out _).size))
      clear hb1 HF G0
      go_wp2_with fail
      refine (K1.out B _ (Nat.le_trans hB HB1.out.size) (HT.out.on HB1.out hB)).mono ?_
      rintro e w2 ⟨rfl, hb2⟩
      have HB2 := hide (HB1.out.trans (hb2.mono HB1.out.size))
      clear hb2 K1 HB1
      go_wp2_with fail
      refine (K0.out B _ (Nat.le_trans hB HB2.out.size) (HT.out.on HB2.out hB)).mono ?_
      rintro e w3 ⟨rfl, hb3⟩
      have HB3 := hide (HB2.out.trans (hb3.mono HB2.out.size))
      clear hb3 K0 HB2
      go_wp2_with fail
      refine (KI.out B _ (Nat.le_trans hB HB3.out.size) (HT.out.on HB3.out hB)).mono ?_
      rintro e w4 ⟨rfl, hb4⟩
      have HB4 := hide (HB3.out.trans (hb4.mono HB3.out.size))
      clear hb4 KI HB3
      go_wp2_with fail
      refine (KJ.out B _ (Nat.le_trans hB HB4.out.size) (HT.out.on HB4.out hB)).mono ?_
      rintro e w5 ⟨rfl, hb5⟩
      have HB5 := hide (HB4.out.trans (hb5.mono HB4.out.size))
      clear hb5 KJ HB4
      go_wp2_with fail
      refine (KS.out B _ (Nat.le_trans hB HB5.out.size) (HT.out.on HB5.out hB)).mono ?_
      rintro e w6 ⟨rfl, hb6⟩
      have HB6 := hide (HB5.out.trans (hb6.mono HB5.out.size))
      clear hb6 KS HB5
      go_wp2_with fail
      refine (KN.out B _ (Nat.le_trans hB HB6.out.size) (HT.out.on HB6.out hB)).mono ?_
      rintro e w7 ⟨rfl, hb7⟩
      have HB7 := hide (HB6.out.trans (hb7.mono HB6.out.size))
      clear hb7 KN HB6
      go_wp2_with fail
      refine (HAW.out _ HB7.out).mono ?_
      rintro e w8 ⟨rfl, hb8⟩
      have HB8 := hide (HB7.out.trans (hb8.mono HB7.out.size))
      clear hb8 HAW HB7
      go_wp2_with fail
      go_ret
      exact ⟨rfl, HB8.out⟩
    · rcases err_cases Y with ⟨fY, eY, sY⟩ | ⟨fY, eY, sY⟩
      · have fZ : ¬ fits Z := fun h => fX (hij1 h (by omega))
        have eZ : resE Z = 4 := if_neg fZ
        have sZ : resS Z = [] := if_neg fZ
        rw [pairV, sX, eX] at KI
        rw [pairV, sY, eY] at KJ
        rw [pairV, sZ, eZ] at KS
        obtain ⟨p, hp⟩ : ∃ p, p = strB [] := ⟨_, rfl⟩
        obtain ⟨q, hq⟩ : ∃ q, q = strB (Lib.itoa Y) := ⟨_, rfl⟩
        rw [← hp] at KI
        rw [← hq] at KJ
        clear fZ eZ sZ sX eX sY eY fX fY hij1 hij2 KM hp hq HX FX
        go_enter Tryz.func5, Tryz.ntmps5
        go_wp2_with fail
        refine (HF.out _).mono ?_
        rintro e w1 ⟨rfl, hb1⟩
        have HB1 := hide ((G0.out _).trans (hb1.mono (G0.out _).size))
        clear hb1 HF G0
        go_wp2_with fail
        refine (K1.out B _ (Nat.le_trans hB HB1.out.size) (HT.out.on HB1.out hB)).mono ?_
        rintro e w2 ⟨rfl, hb2⟩
        have HB2 := hide (HB1.out.trans (hb2.mono HB1.out.size))
        clear hb2 K1 HB1
        go_wp2_with fail
        refine (K0.out B _ (Nat.le_trans hB HB2.out.size) (HT.out.on HB2.out hB)).mono ?_
        rintro e w3 ⟨rfl, hb3⟩
        have HB3 := hide (HB2.out.trans (hb3.mono HB2.out.size))
        clear hb3 K0 HB2
        go_wp2_with fail
        refine (KI.out B _ (Nat.le_trans hB HB3.out.size) (HT.out.on HB3.out hB)).mono ?_
        rintro e w4 ⟨rfl, hb4⟩
        have HB4 := hide (HB3.out.trans (hb4.mono HB3.out.size))
        clear hb4 KI HB3
        go_wp2_with fail
        refine (KJ.out B _ (Nat.le_trans hB HB4.out.size) (HT.out.on HB4.out hB)).mono ?_
        rintro e w5 ⟨rfl, hb5⟩
        have HB5 := hide (HB4.out.trans (hb5.mono HB4.out.size))
        clear hb5 KJ HB4
        go_wp2_with fail
        refine (KS.out B _ (Nat.le_trans hB HB5.out.size) (HT.out.on HB5.out hB)).mono ?_
        rintro e w6 ⟨rfl, hb6⟩
        have HB6 := hide (HB5.out.trans (hb6.mono HB5.out.size))
        clear hb6 KS HB5
        go_wp2_with fail
        refine (HAW.out _ HB6.out).mono ?_
        rintro e w7 ⟨rfl, hb7⟩
        have HB7 := hide (HB6.out.trans (hb7.mono HB6.out.size))
        clear hb7 HAW HB6
        go_wp2_with fail
        go_ret
        exact ⟨rfl, HB7.out⟩
      · have fZ : ¬ fits Z := fun h => fX (hij1 h (by omega))
        have eZ : resE Z = 4 := if_neg fZ
        have sZ : resS Z = [] := if_neg fZ
        rw [pairV, sX, eX] at KI
        rw [pairV, sY, eY] at KJ
        rw [pairV, sZ, eZ] at KS
        obtain ⟨p, hp⟩ : ∃ p, p = strB [] := ⟨_, rfl⟩
        obtain ⟨q, hq⟩ : ∃ q, q = strB [] := ⟨_, rfl⟩
        rw [← hp] at KI
        rw [← hq] at KJ
        clear fZ eZ sZ sX eX sY eY fX fY hij1 hij2 KM hp hq HX FX
        go_enter Tryz.func5, Tryz.ntmps5
        go_wp2_with fail
        refine (HF.out _).mono ?_
        rintro e w1 ⟨rfl, hb1⟩
        have HB1 := hide ((G0.out _).trans (hb1.mono (G0.out _).size))
        clear hb1 HF G0
        go_wp2_with fail
        refine (K1.out B _ (Nat.le_trans hB HB1.out.size) (HT.out.on HB1.out hB)).mono ?_
        rintro e w2 ⟨rfl, hb2⟩
        have HB2 := hide (HB1.out.trans (hb2.mono HB1.out.size))
        clear hb2 K1 HB1
        go_wp2_with fail
        refine (K0.out B _ (Nat.le_trans hB HB2.out.size) (HT.out.on HB2.out hB)).mono ?_
        rintro e w3 ⟨rfl, hb3⟩
        have HB3 := hide (HB2.out.trans (hb3.mono HB2.out.size))
        clear hb3 K0 HB2
        go_wp2_with fail
        refine (KI.out B _ (Nat.le_trans hB HB3.out.size) (HT.out.on HB3.out hB)).mono ?_
        rintro e w4 ⟨rfl, hb4⟩
        have HB4 := hide (HB3.out.trans (hb4.mono HB3.out.size))
        clear hb4 KI HB3
        go_wp2_with fail
        refine (KJ.out B _ (Nat.le_trans hB HB4.out.size) (HT.out.on HB4.out hB)).mono ?_
        rintro e w5 ⟨rfl, hb5⟩
        have HB5 := hide (HB4.out.trans (hb5.mono HB4.out.size))
        clear hb5 KJ HB4
        go_wp2_with fail
        refine (KS.out B _ (Nat.le_trans hB HB5.out.size) (HT.out.on HB5.out hB)).mono ?_
        rintro e w6 ⟨rfl, hb6⟩
        have HB6 := hide (HB5.out.trans (hb6.mono HB5.out.size))
        clear hb6 KS HB5
        go_wp2_with fail
        refine (HAW.out _ HB6.out).mono ?_
        rintro e w7 ⟨rfl, hb7⟩
        have HB7 := hide (HB6.out.trans (hb7.mono HB6.out.size))
        clear hb7 HAW HB6
        go_wp2_with fail
        go_ret
        exact ⟨rfl, HB7.out⟩
end Go.Proofs.YthkioajalhglfaaGreatDoor
namespace Go.Proofs.YthkioajalhglfaaGreatDoor
open Go.RowKit Go.KP Go.KI Go.Shelf
attribute [local go_sem] Oper.semAt_some

set_option maxRecDepth 100000 in
set_option maxHeartbeats 2000000 in
theorem Root_zero (s : ByteArray) (h : s.data.toList = [48]) (w : World) : Calls Tryz.prog 21 #[.string s] w (Ret w (pairT s)) := by
  have c1 : chkI s.data.toList = 0 := by rw [h, ← itoa_zero]; exact chk_fits fits_zero
  have hsz : s.size = 1 := by rw [← bytes_len, h]; rfl
  have H1 := hide (check_any s (by omega) w)
  rw [c1] at H1
  have hne : s.data.toList ≠ [] := by rw [h]; simp
  obtain ⟨hp, hh⟩ := bytes_head hne
  have hp0 : (0 : Int) < (s.size : Int) := by omega
  have h45 : ((s[0].toNat : Int) == 45) = false := by
    rw [h] at hh
    have : s[0] = 48 := by simpa using hh.symm
    rw [this]
    rfl
  have hz : (s.toList == [48]) = true := by rw [ByteArray.toList_eq, h]; rfl
  clear c1 h hne hh hsz
  go_enter Tryz.func21, Tryz.ntmps21
  go_wp2_with fail
  refine H1.out.mono ?_
  rintro e w1 ⟨rfl, hb1⟩
  have HB1 := hide hb1
  clear hb1 H1
  go_wp2_with fail
  refine bodyPost_ret (results_tmp2 rfl _ _ _) rfl ?_
  exact ⟨rfl, HB1.out⟩
set_option maxRecDepth 100000 in
set_option maxHeartbeats 2000000 in
theorem Root_neg (s : ByteArray) (c1 : chkI s.data.toList = 0) (hp : 0 < s.size) (hh : ((s[0].toNat : Int) == 45) = true) (w : World) : Calls Tryz.prog 21 #[.string s] w (Ret w (.tuple #[.string ⟨#[]⟩, .int .i64 2])) := by
  have l1' := (chk_digs c1).2
  rw [bytes_len] at l1'
  have H1 := hide (check_any s (by omega) w)
  rw [c1] at H1
  have hp0 : (0 : Int) < (s.size : Int) := by omega
  clear c1 l1'
  go_enter Tryz.func21, Tryz.ntmps21
  go_wp2_with fail
  refine H1.out.mono ?_
  rintro e w1 ⟨rfl, hb1⟩
  have HB1 := hide hb1
  clear hb1 H1
  go_wp2_with fail
  refine bodyPost_ret (results_tmp2 rfl _ _ _) rfl ?_
  exact ⟨rfl, HB1.out⟩
theorem Root_all {s r : ByteArray} {n : Nat} (h1 : s.data.toList = Lib.itoa (n : Int)) (h3 : r.data.toList = Lib.itoa ((rootN n : Nat) : Int)) (f1 : fits (n : Int)) (B : Nat) (w : World) (hB : B ≤ w.heap.size) (hT : P10 B w) :
    Calls Tryz.prog 21 #[.string s] w (Ret w (pairT r)) := by
  rcases Nat.eq_zero_or_pos n with h0 | h0
  · subst h0
    have e1 : s.data.toList = [48] := by rw [h1]; exact itoa_zero
    have e2 : r = s := bytes_eq (by rw [h1, h3]; rfl)
    rw [e2]
    exact Root_zero s e1 w
  · exact Root_to h1 h3 f1 h0 B w hB hT
theorem rootN_sq (n : Nat) : rootN (n * n) = n := rootN_eq (Nat.le_refl _) (Nat.mul_lt_mul'' (by omega) (by omega))
set_option maxRecDepth 100000 in
set_option maxHeartbeats 8000000 in
theorem squares_any (a : ByteArray) (B : Nat) (w : World) (hB : B ≤ w.heap.size) (hT : P10 B w) :
    Calls Tryz.prog 11 #[.string a] w (Ret w (.bool true)) := by
  have HT := hide hT
  have HAW := hide (fun w2 (hb : Below w.heap.size w w2) => awake_any B w2 (Nat.le_trans hB hb.size) (hT.on hb hB))
  clear hT
  have HF := hide (fun t => fine_any w.heap.size [a] (w.alloc (.cells #[.string a] t)) (by simp) (heap_one w a t) (by simp))
  obtain ⟨F, hF⟩ : ∃ F, F = decide (∀ s ∈ [a], fineS s) := ⟨_, rfl⟩
  rw [← hF] at HF
  have G0 := hide (fun o => (heap1 w o).2.2)
  cases F
  · clear hF
    go_enter Tryz.func11, Tryz.ntmps11
    go_wp2_with fail
    refine (HF.out _).mono ?_
    rintro e w1 ⟨rfl, hb1⟩
    have HB1 := hide ((G0.out _).trans (hb1.mono (G0.out _).size))
    clear hb1 HF G0
    go_wp2_with fail
    refine (HAW.out _ HB1.out).mono ?_
    rintro e w2 ⟨rfl, hb2⟩
    have HB2 := hide (HB1.out.trans (hb2.mono HB1.out.size))
    clear hb2 HAW HB1
    go_wp2_with fail
    go_ret
    exact ⟨rfl, HB2.out⟩
  · have hf := of_decide_eq_true hF.symm
    have fa := hf a (by simp)
    clear hF hf
    have va := fine_val fa
    have ca := fa.2
    have ea := (chk_ok fa.2).1
    obtain ⟨x, hx⟩ : ∃ x, x = valI a.data.toList := ⟨_, rfl⟩
    rw [← hx] at va ea
    clear fa hx
    have mk : ∀ u : Int, ∃ s : ByteArray, s.data.toList = Lib.itoa u := fun u => ⟨strB _, strB_list _⟩
    obtain ⟨p, hp⟩ : ∃ p, p = (10 : Nat) ^ 80 := ⟨_, rfl⟩
    rw [← hp] at va
    have hp1 : 1000 ≤ p := by
      rw [hp]
      exact Nat.le_trans (show 1000 ≤ 10 ^ 3 by decide) (Nat.pow_le_pow_right (by omega) (by omega))
    have fz : ∀ u : Int, u.natAbs < p * p * 10 → fits u := fun u hu => fits_small (n := 161) (by rw [most_eq]; omega) (by
      rw [hp, ← Nat.pow_add, ← Nat.pow_succ] at hu
      exact hu)
    have hpp : p * 1000 ≤ p * p := Nat.mul_le_mul_left _ hp1
    have wxx := mul_lt_p va va
    obtain ⟨k, hk⟩ : ∃ k : Nat, k = x.natAbs := ⟨_, rfl⟩
    have hkk : x * x = ((k * k : Nat) : Int) := by rw [hk, Int.natCast_mul]; exact Int.natAbs_mul_self.symm
    have fx : fits x := fz x (by omega)
    have fxx : fits (x * x) := fz _ (by omega)
    have fk : fits (k : Int) := fz _ (by omega)
    obtain ⟨s2, e1⟩ := mk (x * x)
    obtain ⟨A, e2⟩ := mk (k : Int)
    have tA : (A.toList == A.toList) = true := beq_self_eq_true _
    have K1 := hide (fun B w => Mul_to ea ea e1 fx fx fxx B w)
    have K2 := hide (fun B w => Root_all (s := s2) (n := k * k) (by rw [e1, hkk]) (r := A) (by rw [rootN_sq]; exact e2) (by rw [← hkk]; exact fxx) B w)
    have K3 := hide (fun B w => Gcd_to ea (t := ⟨#[48]⟩) itoa_zero.symm (r := A) (by rw [show (0 : Int).natAbs = 0 from rfl, Nat.gcd_zero_right, ← hk]; exact e2) fx fits_zero B w)
    have hmx3 : ∀ w : World, (Builtin.max_ #[24, 24, 24] 24 #[.int .i64 0, .int .i64 0, .int .i64 0]).run Tryz.prog w = .ok (.int .i64 0) w := fun _ => by kernel_rfl
    have hane : a.data.toList ≠ [] := by
      intro e
      rw [e] at ca
      exact absurd ca (by decide)
    obtain ⟨hap, hah⟩ := bytes_head hane
    have hap0 : (0 : Int) < (a.size : Int) := by omega
    by_cases hneg : x < 0
    · have h45 : ((a[0].toNat : Int) == 45) = true := by
        have h1 := (head_itoa x).2 hneg
        rw [← ea, hah] at h1
        have : a[0] = 45 := by simpa using h1
        rw [this]
        rfl
      have K4 := hide (fun w => Root_neg a ca hap h45 w)
      clear va ca ea mk hp hp1 fz hpp wxx hk hkk fx fxx fk e1 e2 hane hah hneg
      go_enter Tryz.func11, Tryz.ntmps11
      go_wp2_with fail
      refine (HF.out _).mono ?_
      rintro e w1 ⟨rfl, hb1⟩
      have HB1 := hide ((G0.out _).trans (hb1.mono (G0.out _).size))
      clear hb1 HF G0
      go_wp2_with fail
      refine (K1.out B _ (Nat.le_trans hB HB1.out.size) (HT.out.on HB1.out hB)).mono ?_
      rintro e w2 ⟨rfl, hb2⟩
      have HB2 := hide (HB1.out.trans (hb2.mono HB1.out.size))
      clear hb2 K1 HB1
      go_wp2_with fail
      refine (K2.out B _ (Nat.le_trans hB HB2.out.size) (HT.out.on HB2.out hB)).mono ?_
      rintro e w3 ⟨rfl, hb3⟩
      have HB3 := hide (HB2.out.trans (hb3.mono HB2.out.size))
      clear hb3 K2 HB2
      go_wp2_with fail
      refine (K3.out B _ (Nat.le_trans hB HB3.out.size) (HT.out.on HB3.out hB)).mono ?_
      rintro e w4 ⟨rfl, hb4⟩
      have HB4 := hide (HB3.out.trans (hb4.mono HB3.out.size))
      clear hb4 K3 HB3
      go_wp2_with fail
      refine (K4.out _).mono ?_
      rintro e w5 ⟨rfl, hb5⟩
      have HB5 := hide (HB4.out.trans (hb5.mono HB4.out.size))
      clear hb5 K4 HB4
      go_wp2_with fail
      refine (HAW.out _ HB5.out).mono ?_
      rintro e w6 ⟨rfl, hb6⟩
      have HB6 := hide (HB5.out.trans (hb6.mono HB5.out.size))
      clear hb6 HAW HB5
      go_wp2_with fail
      go_ret
      exact ⟨rfl, HB6.out⟩
    · have hxk : x = (k : Int) := by omega
      have h45 : ((a[0].toNat : Int) == 45) = false := by
        have h1 : a[0] ≠ 45 := fun e => by
          rw [e, ea] at hah
          exact hneg ((head_itoa x).1 hah)
        have : a[0].toNat ≠ 45 := fun h => h1 (UInt8.toNat_inj.1 h)
        simp only [beq_eq_false_iff_ne, ne_eq]
        omega
      obtain ⟨g1, g2⟩ := rootN_spec k
      obtain ⟨r0, hr0⟩ : ∃ r0, r0 = rootN k := ⟨_, rfl⟩
      rw [← hr0] at g1 g2
      have hrk : r0 ≤ k := by
        rcases Nat.eq_zero_or_pos r0 with h | h
        · omega
        · have : r0 * 1 ≤ r0 * r0 := Nat.mul_le_mul_left _ h
          omega
      have hrp : ((r0 : Nat) : Int).natAbs < p := by rw [Int.natAbs_natCast]; omega
      have wrr := mul_lt_p hrp hrp
      have hnn : (((r0 + 1 : Nat) : Int) * ((r0 + 1 : Nat) : Int)).natAbs < p * p * 10 := by
        rw [← Int.natCast_mul, Int.natAbs_natCast]
        have h1 : r0 + 1 ≤ p := by rw [Int.natAbs_natCast] at hrp; exact hrp
        have := Nat.mul_le_mul h1 h1
        omega
      obtain ⟨r, e3⟩ := mk (r0 : Int)
      obtain ⟨nx, e4⟩ := mk ((r0 + 1 : Nat) : Int)
      obtain ⟨lo, e5⟩ := mk ((r0 : Int) * (r0 : Int))
      obtain ⟨hi, e6⟩ := mk (((r0 + 1 : Nat) : Int) * ((r0 + 1 : Nat) : Int))
      have fr : fits (r0 : Int) := fz _ (by omega)
      have fn : fits ((r0 + 1 : Nat) : Int) := fz _ (by omega)
      have fl : fits ((r0 : Int) * (r0 : Int)) := fz _ (by omega)
      have fh : fits (((r0 + 1 : Nat) : Int) * ((r0 + 1 : Nat) : Int)) := fz _ hnn
      have K4 := hide (fun B w => Root_all (s := a) (n := k) (by rw [ea, hxk]) (r := r) (by rw [← hr0]; exact e3) (by rw [← hxk]; exact fx) B w)
      have K5 := hide (fun B w => Add_to e3 (t := ⟨#[49]⟩) itoa_one.symm (r := nx) e4 fr fits_one fn B w)
      have K6 := hide (fun B w => Mul_to e3 e3 e5 fr fr fl B w)
      have K7 := hide (fun B w => Mul_to e4 e4 e6 fn fn fh B w)
      obtain ⟨m, hm⟩ : ∃ m, Lib.compareInt ((r0 : Int) * (r0 : Int)) x = m := ⟨_, rfl⟩
      have hm0 : m ≤ 0 := by
        rw [← hm]
        have h1 : (r0 : Int) * (r0 : Int) ≤ x := by rw [hxk, ← Int.natCast_mul]; omega
        unfold Lib.compareInt
        split
        · omega
        · split <;> omega
      have hn1 : Lib.compareInt (((r0 + 1 : Nat) : Int) * ((r0 + 1 : Nat) : Int)) x = 1 := cmp_pos (by rw [hxk, ← Int.natCast_mul]; omega)
      have K8 := hide (fun w => Compare_to e5 ea fl fx hm w)
      have K9 := hide (fun w => Compare_to e6 ea fh fx hn1 w)
      have hmx : ∀ w : World, (Builtin.max_ #[24, 24, 24, 24, 24, 24] 24 #[.int .i64 0, .int .i64 0, .int .i64 0, .int .i64 0, .int .i64 0, .int .i64 0]).run Tryz.prog w = .ok (.int .i64 0) w := fun _ => by kernel_rfl
      clear va ca ea mk hp hp1 fz hpp wxx hk hkk fx fxx fk e1 e2 hane hah hneg hxk g1 g2 hr0 hrk hrp wrr hnn e3 e4 e5 e6 fr fn fl fh hm hn1
      go_enter Tryz.func11, Tryz.ntmps11
      go_wp2_with fail
      refine (HF.out _).mono ?_
      rintro e w1 ⟨rfl, hb1⟩
      have HB1 := hide ((G0.out _).trans (hb1.mono (G0.out _).size))
      clear hb1 HF G0
      go_wp2_with fail
      refine (K1.out B _ (Nat.le_trans hB HB1.out.size) (HT.out.on HB1.out hB)).mono ?_
      rintro e w2 ⟨rfl, hb2⟩
      have HB2 := hide (HB1.out.trans (hb2.mono HB1.out.size))
      clear hb2 K1 HB1
      go_wp2_with fail
      refine (K2.out B _ (Nat.le_trans hB HB2.out.size) (HT.out.on HB2.out hB)).mono ?_
      rintro e w3 ⟨rfl, hb3⟩
      have HB3 := hide (HB2.out.trans (hb3.mono HB2.out.size))
      clear hb3 K2 HB2
      go_wp2_with fail
      refine (K3.out B _ (Nat.le_trans hB HB3.out.size) (HT.out.on HB3.out hB)).mono ?_
      rintro e w4 ⟨rfl, hb4⟩
      have HB4 := hide (HB3.out.trans (hb4.mono HB3.out.size))
      clear hb4 K3 HB3
      go_wp2_with fail
      refine (K4.out B _ (Nat.le_trans hB HB4.out.size) (HT.out.on HB4.out hB)).mono ?_
      rintro e w5 ⟨rfl, hb5⟩
      have HB5 := hide (HB4.out.trans (hb5.mono HB4.out.size))
      clear hb5 K4 HB4
      go_wp2_with fail
      refine (K5.out B _ (Nat.le_trans hB HB5.out.size) (HT.out.on HB5.out hB)).mono ?_
      rintro e w6 ⟨rfl, hb6⟩
      have HB6 := hide (HB5.out.trans (hb6.mono HB5.out.size))
      clear hb6 K5 HB5
      go_wp2_with fail
      refine (K6.out B _ (Nat.le_trans hB HB6.out.size) (HT.out.on HB6.out hB)).mono ?_
      rintro e w7 ⟨rfl, hb7⟩
      have HB7 := hide (HB6.out.trans (hb7.mono HB6.out.size))
      clear hb7 K6 HB6
      go_wp2_with fail
      refine (K7.out B _ (Nat.le_trans hB HB7.out.size) (HT.out.on HB7.out hB)).mono ?_
      rintro e w8 ⟨rfl, hb8⟩
      have HB8 := hide (HB7.out.trans (hb8.mono HB7.out.size))
      clear hb8 K7 HB7
      go_wp2_with fail
      refine (K8.out _).mono ?_
      rintro e w9 ⟨rfl, hb9⟩
      have HB9 := hide (HB8.out.trans (hb9.mono HB8.out.size))
      clear hb9 K8 HB8
      go_wp2_with fail
      refine (K9.out _).mono ?_
      rintro e w10 ⟨rfl, hb10⟩
      have HB10 := hide (HB9.out.trans (hb10.mono HB9.out.size))
      clear hb10 K9 HB9
      go_wp2_with fail
      refine (HAW.out _ HB10.out).mono ?_
      rintro e w11 ⟨rfl, hb11⟩
      have HB11 := hide (HB10.out.trans (hb11.mono HB10.out.size))
      clear hb11 HAW HB10
      go_wp2_with fail
      go_ret
      exact ⟨rfl, HB11.out⟩
end Go.Proofs.YthkioajalhglfaaGreatDoor
namespace Go.Proofs.YthkioajalhglfaaGreatDoor
open Go.RowKit Go.KP Go.KI Go.Shelf
attribute [local go_sem] Oper.semAt_some

set_option maxRecDepth 100000 in
set_option maxHeartbeats 2000000 in
theorem rRoot_bad (s : ByteArray) (hs : s.size ≤ 1000000) (hE : chkI s.data.toList ≠ 0) (w : World) :
    Calls Tryz.prog 22 #[.string s] w (Ret w (.tuple #[.string ⟨#[]⟩, .int .i64 (chkI s.data.toList)])) := by
  have H1 := hide (rcheck_any s hs w)
  have hne : (chkI s.data.toList != 0) = true := by simpa using hE
  obtain ⟨E, hEE⟩ : ∃ E, E = chkI s.data.toList := ⟨_, rfl⟩
  rw [← hEE] at H1 hne ⊢
  clear hE hEE
  go_enter Tryz.func22, Tryz.ntmps22
  go_wp2_with fail
  refine H1.out.mono ?_
  rintro e w1 ⟨rfl, hb1⟩
  have HB1 := hide hb1
  clear hb1 H1
  go_wp2_with fail
  refine bodyPost_ret (results_tmp2 rfl _ _ _) rfl ?_
  exact ⟨rfl, HB1.out⟩
set_option maxRecDepth 100000 in
set_option maxHeartbeats 2000000 in
theorem Root_bad (s : ByteArray) (hs : s.size ≤ 1000000) (hE : chkI s.data.toList ≠ 0) (w : World) :
    Calls Tryz.prog 21 #[.string s] w (Ret w (.tuple #[.string ⟨#[]⟩, .int .i64 (chkI s.data.toList)])) := by
  have H1 := hide (check_any s hs w)
  have hne : (chkI s.data.toList != 0) = true := by simpa using hE
  obtain ⟨E, hEE⟩ : ∃ E, E = chkI s.data.toList := ⟨_, rfl⟩
  rw [← hEE] at H1 hne ⊢
  clear hE hEE
  go_enter Tryz.func21, Tryz.ntmps21
  go_wp2_with fail
  refine H1.out.mono ?_
  rintro e w1 ⟨rfl, hb1⟩
  have HB1 := hide hb1
  clear hb1 H1
  go_wp2_with fail
  refine bodyPost_ret (results_tmp2 rfl _ _ _) rfl ?_
  exact ⟨rfl, HB1.out⟩
set_option maxRecDepth 100000 in
set_option maxHeartbeats 2000000 in
theorem rRoot_neg (s : ByteArray) (c1 : chkI s.data.toList = 0) (hh : s.data.toList.head? = some 45) (w : World) :
    Calls Tryz.prog 22 #[.string s] w (Ret w (.tuple #[.string ⟨#[]⟩, .int .i64 2])) := by
  have l1 := (chk_digs c1).2
  rw [bytes_len] at l1
  have HC := hide (rcheck_any s (by omega) w)
  rw [c1] at HC
  have HRD := hide (fun w => rread_full s c1 w)
  rw [show decide (s.data.toList.head? = some 45) = true from decide_eq_true hh] at HRD
  clear c1 l1 hh
  go_enter Tryz.func22, Tryz.ntmps22
  go_wp2_with fail
  refine HC.out.mono ?_
  rintro e w1 ⟨rfl, hb1⟩
  have HB1 := hide hb1
  clear hb1 HC
  go_wp2_with fail
  refine (HRD.out _).mono ?_
  rintro e w2 ⟨vx, lx, rfl, hb2, ox, nx, qx, kx⟩
  obtain ⟨ax, cx, hvf, _, _⟩ := ox.form
  subst hvf
  have H3 := hide (heap1 w2 (bigO true (.slice ax lx.length cx)))
  have HB3 := hide (HB1.out.trans ((hb2.mono HB1.out.size).trans (H3.out.2.2.mono (Nat.le_trans HB1.out.size hb2.size))))
  have e0 := cell_blk H3.out.1 0
  clear hb2 ox nx qx HB1 HRD
  go_wp2_with fail
  refine bodyPost_ret (results_tmp2 rfl _ _ _) rfl ?_
  exact ⟨rfl, HB3.out⟩
theorem Root_same (s : ByteArray) (hs : s.size ≤ 1000000) :
    ∃ (q : ByteArray) (e : Int), Both 21 22 #[.string s] (.tuple #[.string q, .int .i64 e]) := by
  by_cases hE : chkI s.data.toList = 0
  · obtain ⟨hz, hf⟩ := chk_ok hE
    by_cases h0 : valI s.data.toList < 0
    · have hh : s.data.toList.head? = some 45 := by rw [hz]; exact (head_itoa _).2 h0
      have hne : s.data.toList ≠ [] := fun e => by rw [e] at hh; cases hh
      obtain ⟨hp, h1⟩ := bytes_head hne
      have h2 : ((s[0].toNat : Int) == 45) = true := by
        rw [h1] at hh
        injection hh with hh
        rw [hh]
        rfl
      exact ⟨⟨#[]⟩, 2, fun B w _ _ => Root_neg s hE hp h2 w, fun B w _ _ => rRoot_neg s hE hh w⟩
    · obtain ⟨n, hn⟩ : ∃ n : Nat, valI s.data.toList = (n : Int) := ⟨(valI s.data.toList).toNat, by omega⟩
      rw [hn] at hz hf
      exact ⟨strB (Lib.itoa ((rootN n : Nat) : Int)), 0, fun B w hB hT => Root_all hz (strB_list _) hf B w hB hT, fun B w _ _ => rRoot_good s n w hE hn⟩
  · exact ⟨⟨#[]⟩, _, fun B w _ _ => Root_bad s hs hE w, fun B w _ _ => rRoot_bad s hs hE w⟩
theorem Power_same (s : ByteArray) (k : Int) (hs : s.size ≤ 1000000) :
    ∃ (q : ByteArray) (e : Int), Both 23 24 #[.string s, .int .i64 k] (.tuple #[.string q, .int .i64 e]) := by
  by_cases hE : chkI s.data.toList = 0
  · by_cases hk : k < 0 ∨ 4096 < k
    · exact ⟨⟨#[]⟩, 2, fun B w _ _ => Power_range s k hE hk w, fun B w _ _ => rPower_range s k hE hk w⟩
    · obtain ⟨n, hn⟩ : ∃ n : Nat, k = (n : Int) := ⟨k.toNat, by omega⟩
      subst hn
      obtain ⟨hz, hf⟩ := chk_ok hE
      exact ⟨_, _, fun B w hB hT => Power_good s _ n B w hz hf (by omega) hB hT, fun B w _ _ => rPower_good s n w hE (by omega)⟩
  · exact ⟨⟨#[]⟩, _, fun B w _ _ => Power_bad s k hs hE w, fun B w _ _ => rPower_bad s k hs hE w⟩
end Go.Proofs.YthkioajalhglfaaGreatDoor
