/-
  Texts laid together.
-/
import Derived.Test.YtpmnhipffkhcpaaGreatDoorP13
import Derived.Test.YtpmnhipffkhcpaaGreatDoorP16
import Derived.Test.YtpmnhipffkhcpaaGreatDoorP17
import Derived.Test.YtpmnhipffkhcpaaGreatDoorP7
import Derived.Test.YtpmnhipffkhcpaaGreatDoorP15
import Derived.Test.YtpmnhipffkhcpaaGreatDoorP18
import Derived.Test.YtpmnhipffkhcpaaGreatDoorP19
set_option maxRecDepth 100000
set_option maxHeartbeats 16000000
namespace Go.Proofs.YtpmnhipffkhcpaaGreatDoor
open Go.RowKit Go.KP Go.KI Go.Shelf
attribute [local go_sem] Oper.semAt_some

def RNumS (m : Bool) (z : Int) (n : Nat) (w : World) (e : Ending) (w2 : World) : Prop := ∃ (v : Value) (l : List Nat), e = .returned (numV m v) ∧ Below w.heap.size w w2 ∧ OwnL w.heap.size w2 v l ∧ Norm 1000000 l ∧ valS m (lv 1000000 l) = z ∧ l.length ≤ n
theorem rread_full (s : ByteArray) (c1 : chkI s.data.toList = 0) (w : World) :
    Calls Tryz.prog 303 #[.string s] w (RNumS (decide (s.data.toList.head? = some 45)) (valI s.data.toList) 60 w) := by
  obtain ⟨i0, hi0, hz0, hz1, hz2⟩ := info_parts info3
  obtain ⟨mi, hmi⟩ : ∃ mi, mi = decide (s.data.toList.head? = some 45) := ⟨_, rfl⟩
  rw [← hmi]
  have HV := hide (valI_S s.data.toList)
  rw [← hmi] at HV
  have hpos := chk_pos c1
  have hlen := (chk_digs c1).2
  rw [bytes_len] at hpos hlen
  have hne : s.data.toList ≠ [] := fun e => by have := bytes_len s; rw [e] at this; simp at this; omega
  obtain ⟨hp, hh⟩ := bytes_head hne
  have hp0 : (0 : Int) < (s.size : Int) := by omega
  have h45 : ((s[0].toNat : Int) == 45) = mi := by
    rw [hmi, hh]
    by_cases h : s[0] = 45
    · rw [h]; rfl
    · have : s[0].toNat ≠ 45 := fun e => h (UInt8.toNat_inj.1 e)
      have h2 : ((s[0].toNat : Int) == 45) = false := by
        simp only [beq_eq_false_iff_ne, ne_eq]
        omega
      rw [h2]
      simp [h]
  have HDG := hide (chk_digs c1).1
  obtain ⟨ds, hds⟩ : ∃ ds, ds = digs s.data.toList := ⟨_, rfl⟩
  have hd := digs_drop s.data.toList
  rw [← hds] at HDG HV hd
  have hdl : ds.length ≤ 300 := by
    have h1 := fits_len.1 (chk_ok c1).2
    have h2 := digs_itoa (valI s.data.toList)
    rw [← (chk_ok c1).1, ← hds] at h2
    rw [h2]
    exact h1
  obtain ⟨t, ht⟩ : ∃ t : ByteArray, t.data.toList = ds := ⟨strB ds, strB_list _⟩
  have htl : t.size = ds.length := by rw [← bytes_len, ht]
  have htT : mi = true → s.extract 1 s.size = t := fun h => by
    rw [h] at hmi
    apply bytes_eq
    rw [ht, hd, if_pos (of_decide_eq_true hmi.symm)]
    simp
    exact List.take_of_length_le (by rw [List.length_tail, bytes_len]; exact Nat.le_refl _)
  have htF : mi = false → s = t := fun h => by
    rw [h] at hmi
    apply bytes_eq
    rw [ht, hd, if_neg (of_decide_eq_false hmi.symm)]
    rfl
  have HTT := hide htT; have HTF := hide htF; have HT := hide ht
  obtain ⟨D, hD⟩ : ∃ D, D = t.size := ⟨_, rfl⟩
  have hDl : D ≤ 300 := by omega
  have HD := hide hD; have HDD := hide (show ds.length = D by omega)
  clear hmi hne hh c1 hd hds hlen hdl ht htl htT htF hpos hD
  go_enter Tryz.func303, Tryz.ntmps303
  cases mi
  · have HST := hide (HTF.out rfl)
    clear HTT HTF
    go_wp2_with fail
    have hst := HST.out
    subst hst
    have HSZ := hide (show s.size = D from HD.out.symm)
    obtain ⟨p0, p1, ps, pb⟩ := heap2 w (.cells #[.bool false, .slice none 0 0] 308) (.cells #[.bool false, .slice none 0 0] 308)
    obtain ⟨w0, hw0⟩ : ∃ w0, (w.alloc (.cells #[.bool false, .slice none 0 0] 308)).alloc (.cells #[.bool false, .slice none 0 0] 308) = w0 := ⟨_, rfl⟩
    rw [hw0] at p0 p1 ps pb ⊢
    have P0 := hide p0; have P1 := hide p1; have PB := hide pb; have PS := hide ps
    clear p0 p1 ps pb hw0 h45
    go_loopw [4] (fun e wr => ∃ k : Nat, e = .int .i64 ((D : Int) - 6 * (k : Int)) ∧ 6 * k ≤ D + 5 ∧ Hid (∃ (v : Value) (L : List Nat), wr.heap[w.heap.size]? = some (.cells #[.bool false, .slice none 0 0] 308 (0, 0)) ∧ wr.heap[w.heap.size + 1]? = some (.cells #[.bool false, v] 308 (0, 0)) ∧ Below w.heap.size w wr ∧ OwnL (w.heap.size + 2) wr v L ∧ L.length = k ∧ Lt 1000000 L ∧ lv 1000000 L = dv (ds.drop (D - 6 * k)))) (fun e _ => (intOf e).toNat)
    case atStart => exact ⟨0, by have := HSZ.out; first | rfl | (congr 1 <;> omega), by omega, .slice none 0 0, [], P0.out, P1.out, PB.out, OwnL.nil _ _, rfl, fun z hz => by simp at hz, by
      rw [List.drop_of_length_le (by have := HDD.out; omega)]; rfl⟩
    case round =>
      obtain ⟨k, rfl, hk6, hin⟩ := hrel
      obtain ⟨v, L, r0, r1, rb, ro, rl, rt, rv⟩ := hin.out
      obtain ⟨va, vc, hvf, hcap, _⟩ := ro.form
      rw [rl] at hvf hcap
      subst hvf
      have hwr : w.heap.size + 2 ≤ wr.heap.size := by
        have h1 := lt_blk r1
        omega
      by_cases hlt : 6 * k < D
      · obtain ⟨E, hE⟩ : ∃ E, E = D - 6 * k := ⟨_, rfl⟩
        have hEi : (D : Int) - 6 * (k : Int) = (E : Int) := by omega
        obtain ⟨lo, hlo⟩ : ∃ lo, lo = E - 6 := ⟨_, rfl⟩
        have hmax : max (0 : Int) ((E : Int) - 6) = (lo : Int) := by omega
        have hE0 : (0 : Int) < (E : Int) := by omega
        have hEl : (E : Int) ≤ 300 := by omega
        rw [hEi]
        have R0 := hide r0; have R1 := hide r1; have RB := hide rb; have RO := hide ro; have RL := hide rl; have RT := hide rt; have RV := hide rv
        have HE := hide hE; have HLO := hide hlo
        have hloE : lo ≤ E := by omega
        have hED : E ≤ D := by omega
        clear r0 r1 rb ro rl rt rv hin hE hlo hEi
        go_wp2_with fail
        clear hmax
        obtain ⟨wo, hwo⟩ : ∃ wo, wo = wr := ⟨_, rfl⟩
        subst hwo
        go_loopw [5, 6] (fun nn i wr2 => ∃ j A : Nat, lo ≤ j ∧ j ≤ E ∧ i = .int .i64 j ∧ nn = .int .i64 A ∧ Hid (A = dv ((ds.drop lo).take (j - lo))) ∧ wr2 = wo) (fun _ i _ => E - (intOf i).toNat)
        case atStart => exact ⟨lo, 0, Nat.le_refl _, hloE, rfl, rfl, by rw [Nat.sub_self]; rfl, rfl⟩
        case round =>
          obtain ⟨j, A, hj1, hj2, rfl, rfl, hA, hww⟩ := hrel
          obtain rfl := hww.symm
          have hAb := dv_take_lt HDG.out lo (j - lo)
          rw [← hA.out] at hAb
          by_cases hlt2 : j < E
          · have hji : (j : Int) < (E : Int) := by omega
            have hj0 : (0 : Int) ≤ (j : Int) := by omega
            have hjt : j < s.size := by have := HD.out; omega
            have hjti : (j : Int) < (s.size : Int) := by omega
            obtain ⟨y, hyv⟩ : ∃ y : Nat, y = (s[j]'hjt).toNat := ⟨_, rfl⟩
            have hyv2 : (s[j]'hjt).toNat = y := hyv.symm
            have hat : ds[j]? = some (s[j]'hjt) := by
              rw [← HT.out]
              have h1 : s.data.toList[j]? = some s.data[j] := by simp
              exact h1
            have hdg := isDg_iff.1 (HDG.out _ (List.mem_of_getElem? hat))
            rw [hyv2] at hdg
            have hnew := dv_take_succ ds hj1 hat
            rw [hyv2, ← hA.out] at hnew
            have hp5 : (10 : Nat) ^ (j - lo) ≤ 10 ^ 5 := Nat.pow_le_pow_right (by omega) (by have := HLO.out; omega)
            have hA5 : A < 100000 := Nat.lt_of_lt_of_le hAb hp5
            have HN := hide hnew.symm
            have y0 : (48 : Int) ≤ (y : Int) := by omega
            have y1 : (y : Int) ≤ 57 := by omega
            have a1 : (A : Int) < 100000 := by omega
            have HC := hide (show 10 * (A : Int) + ((y : Int) - 48) = ((A * 10 + (y - 48) : Nat) : Int) by omega)
            clear hat hyv hdg hnew hA hAb hp5 hA5
            go_wp2_with fail
            go_roundw
            case rel => exact ⟨j + 1, A * 10 + (y - 48), by omega, by omega, by go_num, by rw [← HC.out], HN, trivial⟩
            case measure => simp [intOf]; omega
          · obtain rfl : j = E := by omega
            have hji : ((j : Int) < (j : Int)) = False := eq_false (by omega)
            have hp6 : (10 : Nat) ^ (j - lo) ≤ 10 ^ 6 := Nat.pow_le_pow_right (by omega) (by have := HLO.out; omega)
            have hAl : A < 1000000 := Nat.lt_of_lt_of_le hAb hp6
            have HAL := hide hAl
            have HAE := hide hA.out
            have q1 := cell_blk R1.out 1
            have qf := froz_blk R1.out 1
            have HOW := hide (show (wo.alloc (.cells #[.int .i64 A] 3)).ownsRow (w.heap.size + 2) 3 1 (.slice va k vc) k (icells L) by
              have h := RO.out
              unfold OwnL at h
              rw [RL.out] at h
              exact h.alloc _)
            have HNW := hide (show ∀ j u, ([.int .i64 A] : List Value)[j]? = some u → (wo.alloc (.cells #[.int .i64 A] 3)).cell? ((⟨wo.heap.size, 0, none⟩ : Addr).add j) = some u from World.news_of_block (cs := #[.int .i64 A]) (t := 3) (fr := (0, 0)) (heap_alloc_new wo _))
            clear hA hAb hp6 hAl hlt2
            go_wp2_with (at_builtin; go_must (refine wpList_append_own _ rfl (.tmp 37) (.tmp 39) 261 rfl (w.heap.size + 2) 3 i0 _ 1 8 Tryz.underlying261 hi0 hz0 hz1 hz2 rfl (by decide) (.slice va k vc) _ _ rfl HOW.out ⟨wo.heap.size, 0, none⟩ 1 1 [.int .i64 A] rfl rfl HNW.out (by simp [Value.oneCell']) (by simp only [maxLen]; omega) (by omega) (by simp; omega) ?_); intro v1 w5 hown hg1 hiff; clear hiff; obtain ⟨va1, vc1, hvf⟩ := owns_form hown; subst hvf; have HOW5 := hide hown; have HB5 := hide (show Below (w.heap.size + 2) wo w5 from ((Below.refl (w.heap.size + 2) wo).alloc hwr _).grown hg1 (by simp; omega) (owns_ge RO.out (Nat.le_refl _))); clear hown hg1 q1 qf; have R1' := hide (below_blk HB5.out R1.out (by omega)); have R0' := hide (below_blk HB5.out R0.out (by omega)); have qf := froz_blk R1'.out 1; have qc5 := cell_blk R1'.out 1; have ql := lt_blk R1'.out)
            go_roundw
            case rel =>
              refine ⟨k + 1, by have := HE.out; have := HLO.out; congr 1; omega, by have := HE.out; omega, .slice va1 (k + 1) vc1, L ++ [A], (setCell_other (by omega)).trans R0'.out, ?_, (RB.out.trans (HB5.out.mono (by omega))).setCell (p := ⟨w.heap.size + 1, 1, none⟩) (by simp) _, ?_, by rw [List.length_append, RL.out]; rfl, ?_, ?_⟩
              · have h := R1'.out
                simp only [World.setCell, Array.getElem?_modify, h]
                rfl
              · refine OwnL.other ?_ (p := ⟨w.heap.size + 1, 1, none⟩) (by simp) _
                show World.ownsRow _ _ _ _ _ (L ++ [A]).length (icells (L ++ [A]))
                rw [List.length_append, RL.out, icells_append]
                exact HOW5.out
              · intro z hz
                rcases List.mem_append.1 hz with h | h
                · exact RT.out z h
                · simp only [List.mem_singleton] at h
                  rw [h]
                  exact HAL.out
              · rw [lv_snoc, RL.out, RV.out]
                have h1 := dv_cut ds (lo := lo) (e := j) hj1 (by rw [HDD.out]; exact hED)
                have e1 : D - 6 * (k + 1) = lo := by have := HE.out; have := HLO.out; omega
                have e2 : D - 6 * k = j := HE.out.symm
                have e3 : (1000000 : Nat) ^ k = 10 ^ (ds.length - j) := by
                  rw [show (1000000 : Nat) = 10 ^ 6 by decide, ← Nat.pow_mul]
                  congr 1
                  have := HE.out
                  have := HDD.out
                  omega
                rw [e1, e2, h1, ← HAE.out, e3, Nat.mul_comm A, Nat.add_comm]
            case measure => simp [intOf]; omega
      · have hEi : ((0 : Int) < (D : Int) - 6 * (k : Int)) = False := eq_false (by omega)
        have HT2 := hide (fun W (h : OwnL (w.heap.size + 2) W (.slice va k vc) L) => rtrim_any va vc L W.heap.size W (by rw [rl]; exact h.at_) (by omega) (by omega))
        rw [rl] at HT2
        have HT3 := hide (HT2.out wr ro)
        have q1 := cell_blk r1 1
        have q0 := cell_blk r1 0
        have qf := froz_blk r1 1
        have ql := lt_blk r1
        have z0 := cell_blk r0 0
        have z1 := cell_blk r0 1
        have zf := froz_blk r0 0
        have zg := froz_blk r0 1
        have zl := lt_blk r0
        have R0 := hide r0; have R1 := hide r1; have RB := hide rb; have RO := hide ro; have RL := hide rl; have RT := hide rt; have RV := hide rv
        have hk60 : k ≤ 60 := by omega
        clear r0 r1 rb ro rl rt rv hin HT2
        go_wp2_with fail
        refine HT3.out.mono ?_
        rintro e w1 ⟨rfl, rfl⟩
        go_wp2_with fail
        obtain ⟨Wa, hWa⟩ : ∃ Wa, Wa = wr.setCell ⟨w.heap.size + 1, 1, none⟩ (.slice va (trimTo L k) vc) := ⟨_, rfl⟩
        rw [← hWa]
        have A0 : Wa.heap[w.heap.size]? = some (.cells #[.bool false, .slice none 0 0] 308 (0, 0)) := by rw [hWa]; exact (setCell_other (by omega)).trans R0.out
        have AB : Below w.heap.size w Wa := by rw [hWa]; exact RB.out.setCell (p := ⟨w.heap.size + 1, 1, none⟩) (by simp) _
        have AO : OwnL (w.heap.size + 2) Wa (.slice va k vc) L := by rw [hWa]; exact RO.out.other (p := ⟨w.heap.size + 1, 1, none⟩) (by simp) _
        obtain ⟨s1, s2⟩ := set2 A0 (.bool false) (.slice va (trimTo L k) vc)
        refine exit_rread s1 rfl rfl ?_
        refine ⟨_, trimL L, rfl, AB.trans s2, ?_, trimL_norm RT.out, ?_, ?_⟩
        · have h1 := (((AO.other (p := ⟨w.heap.size, 0, none⟩) (by simp) (.bool false)).other (p := ⟨w.heap.size, 1, none⟩) (by simp) (.slice va (trimTo L k) vc)).cut (k := trimTo L k) (by have := trimTo_le L k; rw [RL.out]; exact this)).mono (show w.heap.size ≤ w.heap.size + 2 by omega)
          unfold trimL
          rw [RL.out]
          exact h1
        · rw [trimL_lv, RV.out, show D - 6 * k = 0 by omega, List.drop_zero, HV.out]
        · rw [trimL_len]
          have := trimTo_le L L.length
          have := RL.out
          omega
  · have HST := hide (HTT.out rfl)
    clear HTT HTF
    go_wp2_with fail
    have hst := HST.out
    have hsz : s.size - 1 = D := by
      rw [HD.out, ← hst]
      simp
    rw [hst, hsz]
    clear hst hsz
    have HSZ := hide (show D = D from rfl)
    obtain ⟨p0, p1, ps, pb⟩ := heap2 w (.cells #[.bool false, .slice none 0 0] 308) (.cells #[.bool true, .slice none 0 0] 308)
    obtain ⟨w0, hw0⟩ : ∃ w0, (w.alloc (.cells #[.bool false, .slice none 0 0] 308)).alloc (.cells #[.bool true, .slice none 0 0] 308) = w0 := ⟨_, rfl⟩
    rw [hw0] at p0 p1 ps pb ⊢
    have P0 := hide p0; have P1 := hide p1; have PB := hide pb; have PS := hide ps
    clear p0 p1 ps pb hw0 h45
    go_loopw [4] (fun e wr => ∃ k : Nat, e = .int .i64 ((D : Int) - 6 * (k : Int)) ∧ 6 * k ≤ D + 5 ∧ Hid (∃ (v : Value) (L : List Nat), wr.heap[w.heap.size]? = some (.cells #[.bool false, .slice none 0 0] 308 (0, 0)) ∧ wr.heap[w.heap.size + 1]? = some (.cells #[.bool true, v] 308 (0, 0)) ∧ Below w.heap.size w wr ∧ OwnL (w.heap.size + 2) wr v L ∧ L.length = k ∧ Lt 1000000 L ∧ lv 1000000 L = dv (ds.drop (D - 6 * k)))) (fun e _ => (intOf e).toNat)
    case atStart => exact ⟨0, by have := HSZ.out; first | rfl | (congr 1 <;> omega), by omega, .slice none 0 0, [], P0.out, P1.out, PB.out, OwnL.nil _ _, rfl, fun z hz => by simp at hz, by
      rw [List.drop_of_length_le (by have := HDD.out; omega)]; rfl⟩
    case round =>
      obtain ⟨k, rfl, hk6, hin⟩ := hrel
      obtain ⟨v, L, r0, r1, rb, ro, rl, rt, rv⟩ := hin.out
      obtain ⟨va, vc, hvf, hcap, _⟩ := ro.form
      rw [rl] at hvf hcap
      subst hvf
      have hwr : w.heap.size + 2 ≤ wr.heap.size := by
        have h1 := lt_blk r1
        omega
      by_cases hlt : 6 * k < D
      · obtain ⟨E, hE⟩ : ∃ E, E = D - 6 * k := ⟨_, rfl⟩
        have hEi : (D : Int) - 6 * (k : Int) = (E : Int) := by omega
        obtain ⟨lo, hlo⟩ : ∃ lo, lo = E - 6 := ⟨_, rfl⟩
        have hmax : max (0 : Int) ((E : Int) - 6) = (lo : Int) := by omega
        have hE0 : (0 : Int) < (E : Int) := by omega
        have hEl : (E : Int) ≤ 300 := by omega
        rw [hEi]
        have R0 := hide r0; have R1 := hide r1; have RB := hide rb; have RO := hide ro; have RL := hide rl; have RT := hide rt; have RV := hide rv
        have HE := hide hE; have HLO := hide hlo
        have hloE : lo ≤ E := by omega
        have hED : E ≤ D := by omega
        clear r0 r1 rb ro rl rt rv hin hE hlo hEi
        go_wp2_with fail
        clear hmax
        obtain ⟨wo, hwo⟩ : ∃ wo, wo = wr := ⟨_, rfl⟩
        subst hwo
        go_loopw [5, 6] (fun nn i wr2 => ∃ j A : Nat, lo ≤ j ∧ j ≤ E ∧ i = .int .i64 j ∧ nn = .int .i64 A ∧ Hid (A = dv ((ds.drop lo).take (j - lo))) ∧ wr2 = wo) (fun _ i _ => E - (intOf i).toNat)
        case atStart => exact ⟨lo, 0, Nat.le_refl _, hloE, rfl, rfl, by rw [Nat.sub_self]; rfl, rfl⟩
        case round =>
          obtain ⟨j, A, hj1, hj2, rfl, rfl, hA, hww⟩ := hrel
          obtain rfl := hww.symm
          have hAb := dv_take_lt HDG.out lo (j - lo)
          rw [← hA.out] at hAb
          by_cases hlt2 : j < E
          · have hji : (j : Int) < (E : Int) := by omega
            have hj0 : (0 : Int) ≤ (j : Int) := by omega
            have hjt : j < t.size := by have := HD.out; omega
            have hjti : (j : Int) < (t.size : Int) := by omega
            obtain ⟨y, hyv⟩ : ∃ y : Nat, y = (t[j]'hjt).toNat := ⟨_, rfl⟩
            have hyv2 : (t[j]'hjt).toNat = y := hyv.symm
            have hat : ds[j]? = some (t[j]'hjt) := by
              rw [← HT.out]
              have h1 : t.data.toList[j]? = some t.data[j] := by simp
              exact h1
            have hdg := isDg_iff.1 (HDG.out _ (List.mem_of_getElem? hat))
            rw [hyv2] at hdg
            have hnew := dv_take_succ ds hj1 hat
            rw [hyv2, ← hA.out] at hnew
            have hp5 : (10 : Nat) ^ (j - lo) ≤ 10 ^ 5 := Nat.pow_le_pow_right (by omega) (by have := HLO.out; omega)
            have hA5 : A < 100000 := Nat.lt_of_lt_of_le hAb hp5
            have HN := hide hnew.symm
            have y0 : (48 : Int) ≤ (y : Int) := by omega
            have y1 : (y : Int) ≤ 57 := by omega
            have a1 : (A : Int) < 100000 := by omega
            have HC := hide (show 10 * (A : Int) + ((y : Int) - 48) = ((A * 10 + (y - 48) : Nat) : Int) by omega)
            clear hat hyv hdg hnew hA hAb hp5 hA5
            go_wp2_with fail
            go_roundw
            case rel => exact ⟨j + 1, A * 10 + (y - 48), by omega, by omega, by go_num, by rw [← HC.out], HN, trivial⟩
            case measure => simp [intOf]; omega
          · obtain rfl : j = E := by omega
            have hji : ((j : Int) < (j : Int)) = False := eq_false (by omega)
            have hp6 : (10 : Nat) ^ (j - lo) ≤ 10 ^ 6 := Nat.pow_le_pow_right (by omega) (by have := HLO.out; omega)
            have hAl : A < 1000000 := Nat.lt_of_lt_of_le hAb hp6
            have HAL := hide hAl
            have HAE := hide hA.out
            have q1 := cell_blk R1.out 1
            have qf := froz_blk R1.out 1
            have HOW := hide (show (wo.alloc (.cells #[.int .i64 A] 3)).ownsRow (w.heap.size + 2) 3 1 (.slice va k vc) k (icells L) by
              have h := RO.out
              unfold OwnL at h
              rw [RL.out] at h
              exact h.alloc _)
            have HNW := hide (show ∀ j u, ([.int .i64 A] : List Value)[j]? = some u → (wo.alloc (.cells #[.int .i64 A] 3)).cell? ((⟨wo.heap.size, 0, none⟩ : Addr).add j) = some u from World.news_of_block (cs := #[.int .i64 A]) (t := 3) (fr := (0, 0)) (heap_alloc_new wo _))
            clear hA hAb hp6 hAl hlt2
            go_wp2_with (at_builtin; go_must (refine wpList_append_own _ rfl (.tmp 37) (.tmp 39) 261 rfl (w.heap.size + 2) 3 i0 _ 1 8 Tryz.underlying261 hi0 hz0 hz1 hz2 rfl (by decide) (.slice va k vc) _ _ rfl HOW.out ⟨wo.heap.size, 0, none⟩ 1 1 [.int .i64 A] rfl rfl HNW.out (by simp [Value.oneCell']) (by simp only [maxLen]; omega) (by omega) (by simp; omega) ?_); intro v1 w5 hown hg1 hiff; clear hiff; obtain ⟨va1, vc1, hvf⟩ := owns_form hown; subst hvf; have HOW5 := hide hown; have HB5 := hide (show Below (w.heap.size + 2) wo w5 from ((Below.refl (w.heap.size + 2) wo).alloc hwr _).grown hg1 (by simp; omega) (owns_ge RO.out (Nat.le_refl _))); clear hown hg1 q1 qf; have R1' := hide (below_blk HB5.out R1.out (by omega)); have R0' := hide (below_blk HB5.out R0.out (by omega)); have qf := froz_blk R1'.out 1; have qc5 := cell_blk R1'.out 1; have ql := lt_blk R1'.out)
            go_roundw
            case rel =>
              refine ⟨k + 1, by have := HE.out; have := HLO.out; congr 1; omega, by have := HE.out; omega, .slice va1 (k + 1) vc1, L ++ [A], (setCell_other (by omega)).trans R0'.out, ?_, (RB.out.trans (HB5.out.mono (by omega))).setCell (p := ⟨w.heap.size + 1, 1, none⟩) (by simp) _, ?_, by rw [List.length_append, RL.out]; rfl, ?_, ?_⟩
              · have h := R1'.out
                simp only [World.setCell, Array.getElem?_modify, h]
                rfl
              · refine OwnL.other ?_ (p := ⟨w.heap.size + 1, 1, none⟩) (by simp) _
                show World.ownsRow _ _ _ _ _ (L ++ [A]).length (icells (L ++ [A]))
                rw [List.length_append, RL.out, icells_append]
                exact HOW5.out
              · intro z hz
                rcases List.mem_append.1 hz with h | h
                · exact RT.out z h
                · simp only [List.mem_singleton] at h
                  rw [h]
                  exact HAL.out
              · rw [lv_snoc, RL.out, RV.out]
                have h1 := dv_cut ds (lo := lo) (e := j) hj1 (by rw [HDD.out]; exact hED)
                have e1 : D - 6 * (k + 1) = lo := by have := HE.out; have := HLO.out; omega
                have e2 : D - 6 * k = j := HE.out.symm
                have e3 : (1000000 : Nat) ^ k = 10 ^ (ds.length - j) := by
                  rw [show (1000000 : Nat) = 10 ^ 6 by decide, ← Nat.pow_mul]
                  congr 1
                  have := HE.out
                  have := HDD.out
                  omega
                rw [e1, e2, h1, ← HAE.out, e3, Nat.mul_comm A, Nat.add_comm]
            case measure => simp [intOf]; omega
      · have hEi : ((0 : Int) < (D : Int) - 6 * (k : Int)) = False := eq_false (by omega)
        have HT2 := hide (fun W (h : OwnL (w.heap.size + 2) W (.slice va k vc) L) => rtrim_any va vc L W.heap.size W (by rw [rl]; exact h.at_) (by omega) (by omega))
        rw [rl] at HT2
        have HT3 := hide (HT2.out wr ro)
        have q1 := cell_blk r1 1
        have q0 := cell_blk r1 0
        have qf := froz_blk r1 1
        have ql := lt_blk r1
        have z0 := cell_blk r0 0
        have z1 := cell_blk r0 1
        have zf := froz_blk r0 0
        have zg := froz_blk r0 1
        have zl := lt_blk r0
        have R0 := hide r0; have R1 := hide r1; have RB := hide rb; have RO := hide ro; have RL := hide rl; have RT := hide rt; have RV := hide rv
        have hk60 : k ≤ 60 := by omega
        clear r0 r1 rb ro rl rt rv hin HT2
        go_wp2_with fail
        refine HT3.out.mono ?_
        rintro e w1 ⟨rfl, rfl⟩
        go_wp2_with fail
        obtain ⟨Wa, hWa⟩ : ∃ Wa, Wa = wr.setCell ⟨w.heap.size + 1, 1, none⟩ (.slice va (trimTo L k) vc) := ⟨_, rfl⟩
        rw [← hWa]
        have A0 : Wa.heap[w.heap.size]? = some (.cells #[.bool false, .slice none 0 0] 308 (0, 0)) := by rw [hWa]; exact (setCell_other (by omega)).trans R0.out
        have AB : Below w.heap.size w Wa := by rw [hWa]; exact RB.out.setCell (p := ⟨w.heap.size + 1, 1, none⟩) (by simp) _
        have AO : OwnL (w.heap.size + 2) Wa (.slice va k vc) L := by rw [hWa]; exact RO.out.other (p := ⟨w.heap.size + 1, 1, none⟩) (by simp) _
        obtain ⟨s1, s2⟩ := set2 A0 (.bool true) (.slice va (trimTo L k) vc)
        refine exit_rread s1 rfl rfl ?_
        refine ⟨_, trimL L, rfl, AB.trans s2, ?_, trimL_norm RT.out, ?_, ?_⟩
        · have h1 := (((AO.other (p := ⟨w.heap.size, 0, none⟩) (by simp) (.bool true)).other (p := ⟨w.heap.size, 1, none⟩) (by simp) (.slice va (trimTo L k) vc)).cut (k := trimTo L k) (by have := trimTo_le L k; rw [RL.out]; exact this)).mono (show w.heap.size ≤ w.heap.size + 2 by omega)
          unfold trimL
          rw [RL.out]
          exact h1
        · rw [trimL_lv, RV.out, show D - 6 * k = 0 by omega, List.drop_zero, HV.out]
        · rw [trimL_len]
          have := trimTo_le L L.length
          have := RL.out
          omega
end Go.Proofs.YtpmnhipffkhcpaaGreatDoor
namespace Go.KI
theorem root_at {n R : Nat} (h : rootN n ≤ R) (h2 : R * R ≤ n) : rootN n = R := by
  refine rootN_eq h2 ?_
  obtain ⟨_, g2⟩ := rootN_spec n
  exact Nat.lt_of_lt_of_le g2 (Nat.mul_le_mul (by omega) (by omega))
theorem newton_lt {n R : Nat} (h : n < R * R) : (R + n / R) / 2 < R := by
  have hR : 0 < R := by
    rcases Nat.eq_zero_or_pos R with h0 | h0
    · rw [h0] at h; omega
    · exact h0
  have h1 : n / R < R := (Nat.div_lt_iff_lt_mul hR).2 h
  omega
end Go.KI
namespace Go.Proofs.YtpmnhipffkhcpaaGreatDoor
open Go.RowKit Go.KP Go.KI Go.Shelf
attribute [local go_sem] Oper.semAt_some

theorem norm2 : Norm 1000000 [2] := ⟨fun z hz => by simp only [List.mem_singleton] at hz; omega, .inr (by simp [lat])⟩
theorem row2 {w : World} : LimbAt (w.alloc (.cells #[.int .i64 2] 3)).heap.size (w.alloc (.cells #[.int .i64 2] 3)) (.slice (some ⟨w.heap.size, 0, none⟩) ([2] : List Nat).length 1) [2] := row_limbs (heap_alloc_new w (rowO [2])) (by simp [maxLen])
theorem rRoot_good (s : ByteArray) (n : Nat) (w : World) (c1 : chkI s.data.toList = 0) (hn : valI s.data.toList = (n : Int)) :
    Calls Tryz.prog 306 #[.string s] w (Ret w (pairV (Lib.itoa ((rootN n : Nat) : Int)) 0)) := by
  have l1 := (chk_digs c1).2
  rw [bytes_len] at l1
  have HC := hide (rcheck_any s (by omega) w)
  rw [c1] at HC
  have HRD := hide (fun w => rread_full s c1 w)
  have hsi := (chk_ok c1).1
  rw [hn] at hsi
  rw [show decide (s.data.toList.head? = some 45) = false from decide_eq_false (fun h => by
    rw [hsi] at h
    have := (head_itoa _).1 h
    omega), hn] at HRD
  have hlt : n < 10 ^ s.size := by
    have h := short_val (n := s.size) c1 (by rw [bytes_len]; exact Nat.le_refl _) (by have := chk_pos c1; rw [bytes_len] at this; exact this)
    rw [hn, Int.natAbs_natCast] at h
    exact h
  obtain ⟨hh, hhh⟩ : ∃ h, h = (s.size + 1) / 2 := ⟨_, rfl⟩
  have HST := hide (root_start (k := hh) hlt (by omega))
  have hhi : ((s.size : Int) + 1) / 2 = (hh : Int) := by omega
  have hh2 : hh ≤ 200 := by omega
  have hsl : s.size ≤ 301 := l1
  clear c1 l1 hn hsi hlt hhh
  go_enter Tryz.func306, Tryz.ntmps306
  go_wp2_with fail
  refine HC.out.mono ?_
  rintro e w1 ⟨rfl, hb1⟩
  have HB1 := hide hb1
  clear hb1 HC
  go_wp2_with fail
  refine (HRD.out _).mono ?_
  rintro e w2 ⟨vx, lx, rfl, hb2, ox, nx, qx, kx⟩
  obtain ⟨ax, cx, hvf, _, _⟩ := ox.form
  subst hvf
  have H3 := hide (heap1 w2 (bigO false (.slice ax lx.length cx)))
  have HB3 := hide (HB1.out.trans ((hb2.mono HB1.out.size).trans (H3.out.2.2.mono (Nat.le_trans HB1.out.size hb2.size))))
  have OX := hide ((ox.keep H3.out.2.2).mono (Nat.zero_le _)); have NX := hide nx
  have QX := hide (show lv 1000000 lx = n by
    have h : ((lv 1000000 lx : Nat) : Int) = (n : Int) := qx
    omega)
  have hnw0 : w.heap.size ≤ w2.heap.size := Nat.le_trans HB1.out.size hb2.size
  obtain ⟨w3, hw3⟩ : ∃ w3, w2.alloc (bigO false (.slice ax lx.length cx)) = w3 := ⟨_, rfl⟩
  have H4 := hide (show w3.heap[w2.heap.size]? = some (bigO false (.slice ax lx.length cx)) by rw [← hw3]; exact H3.out.1)
  rw [hw3] at HB3 OX
  have HW3 := hide hw3
  clear hb2 ox nx qx HB1 HRD H3 hw3
  have e0 := cell_blk H4.out 0
  go_wp2_with fail
  rw [show w2.alloc (.cells #[.bool false, .slice ax lx.length cx] 308) = w3 from HW3.out]
  clear e0
  obtain ⟨nb, hnb⟩ : ∃ nb, nb = w2.heap.size := ⟨_, rfl⟩
  rw [← hnb] at H4 hnw0 ⊢
  clear hnb HW3
  go_loopw [6, 7] (fun p i wr => ∃ (k : Nat) (t : ByteArray), k ≤ hh ∧ i = .int .i64 k ∧ p = .string t ∧ t.size ≤ 1 + k ∧ Hid (t.data.toList = [49] ++ List.replicate k 48) ∧ wr = w3) (fun _ i _ => hh - (intOf i).toNat)
  case atStart => exact ⟨0, ⟨#[49]⟩, Nat.zero_le _, rfl, rfl, by decide, rfl, rfl⟩
  case round =>
    obtain ⟨k, t, hk, rfl, rfl, hts, htt, rfl⟩ := hrel
    by_cases hlt : k < hh
    · have hki : (k : Int) < (hh : Int) := by omega
      have hov : (9223372036854775807 < t.size + 1) = False := eq_false (by omega)
      have HTT := hide htt.out
      clear htt hlt
      go_wp2_with fail
      go_roundw
      case rel =>
        refine ⟨k + 1, _, by omega, by go_num, rfl, ?_, ?_, trivial⟩
        · rw [ByteArray.size_append]
          have : (⟨#[48]⟩ : ByteArray).size = 1 := rfl
          omega
        · have h := HTT.out
          show (t ++ ⟨#[48]⟩).data.toList = _
          rw [List.replicate_succ', ← List.append_assoc, ← h]
          simp
      case measure => simp [intOf]; omega
    · obtain rfl : k = hh := by omega
      have hki : ((k : Int) < (k : Int)) = False := eq_false (by omega)
      obtain ⟨c2, v2⟩ := start_text k hh2
      have HR2 := hide (fun w => rread_good t (by rw [htt.out]; exact c2) w)
      rw [htt.out, v2] at HR2
      clear hlt htt hts c2 v2
      go_wp2_with fail
      refine (HR2.out _).mono ?_
      rintro e w4 ⟨m1, v1, l1, rfl, hb4, o1, n1, q1, k1⟩
      obtain ⟨a1, g1, hvf, _, _⟩ := o1.form
      subst hvf
      have HB4 := hide (HB3.out.trans (hb4.mono HB3.out.size))
      have H5 := hide (below_blk hb4 H4.out (lt_blk H4.out))
      have OX4 := hide (OX.out.keep hb4)
      have O1 := hide (LimbAt.of_own o1); have N1 := hide n1
      have Q1 := hide (show lv 1000000 l1 = 10 ^ k by
        have h := congrArg Int.natAbs q1
        rw [valS_abs, Int.natAbs_natCast] at h
        exact h)
      clear hb4 o1 n1 q1 HR2 HB3 OX H4
      have hf1 := fun w => rfield_limbs m1 (.slice a1 l1.length g1) w
      go_wp2_with fail
      clear hf1
      have HLE := hide (show rootN n ≤ lv 1000000 l1 by rw [Q1.out]; exact HST.out)
      go_loopw [8] (fun r wr => ∃ (a : Option Addr) (c : Nat) (l : List Nat), r = .slice a l.length c ∧ l.length ≤ 60 ∧ Hid (LimbAt wr.heap.size wr (.slice a l.length c) l ∧ Norm 1000000 l ∧ rootN n ≤ lv 1000000 l ∧ wr.heap[nb]? = some (bigO false (.slice ax lx.length cx)) ∧ OwnL 0 wr (.slice ax lx.length cx) lx ∧ Below w.heap.size w wr)) (fun r wr => lv 1000000 (limbsAt wr r))
      case atStart => exact ⟨a1, g1, l1, rfl, k1, O1.out, N1.out, HLE.out, H5.out, OX4.out, HB4.out⟩
      case round =>
        obtain ⟨ar, cr, r, rfl, hr, hin⟩ := hrel
        obtain ⟨iL, iN, iG, iH, iX, iW⟩ := hin.out
        have e1 := cell_blk iH 1
        have hlt2 := lt_blk iH
        have lxl : lx.length ≤ 60 := kx
        have HT := hide (rtimes_any (.slice ar r.length cr) (.slice ar r.length cr) r r wr.heap.size wr.drew iL iL (Nat.le_refl _) iN.lt iN.lt (by omega) (by omega))
        have HL := hide iL; have HN := hide iN; have HG := hide iG; have HH := hide iH; have HX := hide iX; have HW := hide iW
        clear iL iN iG iH iX iW hin
        go_wp2_with fail
        go_region_held3 (fun w' => w'.cell? ⟨nb, 1, none⟩ = some (.slice ax lx.length cx)) (first | exact e1 | exact d1 | exact x1)
          (first
            | (go_at_call 377
               refine HT.out.mono ?_
               rintro e w5 ⟨l3, ⟨v3, rfl, hb5, o3⟩, n3, q3, k3⟩
               obtain ⟨a3, c3, hvf, _, _⟩ := o3.form
               subst hvf
               have HB5 := hide (show Below wr.heap.size wr w5 from below_ahead hb5)
               have d1 : w5.cell? ⟨nb, 1, none⟩ = some (.slice ax lx.length cx) := cell_blk (below_blk HB5.out HH.out hlt2) 1
               have O3 := hide (LimbAt.of_own o3); have N3 := hide n3; have Q3 := hide q3
               clear hb5 o3 n3 q3)
            | (go_at_call 378
               refine (rsize_any (.slice a3 l3.length c3) (.slice ax lx.length cx) l3 lx w5.heap.size w5 O3.out (.of_own (HX.out.keep HB5.out)) (Nat.le_refl _) N3.out NX.out (by omega)).mono ?_
               rintro e w6 ⟨r2, rfl, hr2, hb6⟩
               have HB6 := hide (show Below wr.heap.size wr w6 from HB5.out.trans (hb6.mono HB5.out.size))
               have x1 : w6.cell? ⟨nb, 1, none⟩ = some (.slice ax lx.length cx) := cell_blk (below_blk HB6.out HH.out hlt2) 1
               have HR2 := hide hr2
               clear hb6 hr2)
            | fail)
        have HW6 := hide (HW.out.trans (HB6.out.mono HW.out.size))
        have HH6 := hide (below_blk HB6.out HH.out hlt2)
        have HX6 := hide (HX.out.keep HB6.out)
        have HL6 := hide ((HL.out.below HB6.out (Nat.le_refl _)).mono HB6.out.size)
        have hlt6 := lt_blk HH6.out
        have hs6 := HB6.out.size
        have HC := hide (show CmpRes r2 (lv 1000000 r * lv 1000000 r) n by have h := HR2.out; rw [Q3.out, QX.out] at h; exact h)
        obtain ⟨wo, hwo⟩ : ∃ wo, wo = w6 := ⟨_, rfl⟩
        rw [← hwo] at HW6 HH6 HX6 HL6 hlt6 hs6 x1 ⊢
        clear hwo e1 d1 HB5 HB6 O3 N3 Q3 HH HX HW HT HR2
        by_cases hgt : 0 < r2
        · have hsq : n < lv 1000000 r * lv 1000000 r := by
            have h := HC.out
            unfold CmpRes at h
            rcases Nat.lt_or_ge n (lv 1000000 r * lv 1000000 r) with h1 | h1
            · exact h1
            · exfalso
              rcases Nat.lt_or_eq_of_le h1 with h2 | h2
              · have := h.1.2 h2
                omega
              · have := h.2.2 h2
                omega
          have hrp : 0 < lv 1000000 r := by
            rcases Nat.eq_zero_or_pos (lv 1000000 r) with h | h
            · rw [h] at hsq; omega
            · exact h
          have hrn : r ≠ [] := fun e => by rw [e, lv_nil] at hrp; omega
          have HSQ := hide (newton_lt hsq); have HGE := hide (newton_ge (n := n) hrp)
          have HDV := hide (rdivide_any (.slice ax lx.length cx) (.slice ar r.length cr) lx r wo.heap.size wo (.of_own HX6.out) HL6.out (Nat.le_refl _) NX.out.lt HN.out hrn (by omega) (by omega))
          clear hsq hrp hrn HC
          go_wp2_with fail
          refine HDV.out.mono ?_
          rintro e w7 ⟨vq, vr, q, rr, rfl, hb7, oq, or_, nq, nr, eq, er, lq⟩
          obtain ⟨aq, cq, hvf, _, _⟩ := oq.form
          subst hvf
          have HW7 := hide (HW6.out.trans (hb7.mono HW6.out.size)); have HH7 := hide (below_blk hb7 HH6.out hlt6); have HX7 := hide (HX6.out.keep hb7)
          have HL7 := hide ((HL6.out.below hb7 (Nat.le_refl _)).mono hb7.size)
          have OQ := hide (LimbAt.of_own oq); have NQ := hide nq
          have EQ := hide (show lv 1000000 q = n / lv 1000000 r by rw [eq, QX.out])
          have hlt7 := lt_blk HH7.out
          clear hb7 oq or_ nq nr eq er HDV HW6 HH6 HX6 HL6 x1 hlt6
          go_wp2_with fail
          refine (rplus_any (.slice ar r.length cr) (.slice aq q.length cq) r q w7.heap.size w7 HL7.out OQ.out (Nat.le_refl _) HN.out.lt NQ.out.lt (by omega) (by omega)).mono ?_
          rintro e w8 ⟨l8, ⟨v8, rfl, hb8, o8⟩, n8, q8, k8⟩
          obtain ⟨a8, c8, hvf, _, _⟩ := o8.form
          subst hvf
          have H2 := hide (row2 (w := w8))
          have hb8' := (show Below w7.heap.size w7 (w8.alloc (.cells #[.int .i64 2] 3)) from hb8.alloc hb8.size _)
          have HW8 := hide (HW7.out.trans (hb8'.mono HW7.out.size)); have HH8 := hide (below_blk hb8' HH7.out hlt7); have HX8 := hide (HX7.out.keep hb8')
          have O8 := hide (LimbAt.of_own (o8.keep ((Below.refl _ _).alloc (Nat.le_refl _) (.cells #[.int .i64 2] 3)))); have N8 := hide n8
          have Q8 := hide (show lv 1000000 l8 = lv 1000000 r + n / lv 1000000 r by rw [q8, EQ.out])
          have hk8 : l8.length ≤ 200 := by omega
          clear hb8 hb8' o8 n8 q8 k8 HW7 HH7 HX7 HL7 OQ NQ EQ hlt7
          go_wp2_with fail
          obtain ⟨w9, hw9⟩ : ∃ w9, w8.alloc (.cells #[.int .i64 2] 3) = w9 := ⟨_, rfl⟩
          rw [hw9] at H2 HW8 HH8 HX8 O8 ⊢
          have hlt9 := lt_blk HH8.out
          clear hw9
          refine (rdivide_any (.slice a8 l8.length c8) (.slice (some ⟨w8.heap.size, 0, none⟩) 1 1) l8 [2] w9.heap.size w9 O8.out H2.out (Nat.le_refl _) N8.out.lt norm2 (by simp) (by omega) (by simp)).mono ?_
          rintro e w10 ⟨vq2, vr2, q2, r3, rfl, hb10, oq2, or2, nq2, nr2, eq2, er2, lq2⟩
          obtain ⟨aq2, cq2, hvf, _, _⟩ := oq2.form
          subst hvf
          have HW10 := hide (HW8.out.trans (hb10.mono HW8.out.size)); have HH10 := hide (below_blk hb10 HH8.out hlt9); have HX10 := hide (HX8.out.keep hb10)
          have O10 := hide (LimbAt.of_own oq2); have N10 := hide nq2
          have E10 := hide (show lv 1000000 q2 = (lv 1000000 r + n / lv 1000000 r) / 2 by rw [eq2, Q8.out]; congr 1)
          have hk10 : q2.length ≤ 60 := by
            have h := norm_le_b (b := 1000000) (by omega) nq2 HN.out.lt (by rw [E10.out]; exact Nat.le_of_lt HSQ.out)
            omega
          clear hb10 oq2 or2 nq2 nr2 eq2 er2 lq2 HW8 HH8 HX8 O8 N8 Q8 H2
          go_wp2_with fail
          go_roundw
          case rel => exact ⟨aq2, cq2, q2, rfl, hk10, O10.out, N10.out, by rw [E10.out]; exact HGE.out, HH10.out, HX10.out, HW10.out⟩
          case measure =>
            rw [limbsAt_eq O10.out, limbsAt_eq HL.out, E10.out]
            exact HSQ.out
        · have hsq : lv 1000000 r * lv 1000000 r ≤ n := by
            have h := HC.out
            unfold CmpRes at h
            rcases Nat.lt_or_ge n (lv 1000000 r * lv 1000000 r) with h1 | h1
            · exfalso
              rcases Int.lt_trichotomy r2 0 with h2 | h2 | h2
              · have := h.1.1 h2
                omega
              · have := h.2.1 h2
                omega
              · exact hgt h2
            · exact h1
          have hrt := root_at HG.out hsq
          have hgt1 : decide (0 < r2) = false := decide_eq_false hgt
          rw [hgt1]
          have HWR := hide (rwrite_any false (.slice ar r.length cr) r wo.heap.size wo HL6.out (Nat.le_refl _) HN.out (by omega))
          rw [show valS false (lv 1000000 r) = ((rootN n : Nat) : Int) by rw [hrt]; rfl] at HWR
          clear hsq hrt hgt HC hgt1
          go_wp2_with fail
          refine HWR.out.mono ?_
          rintro e w7 ⟨rfl, hb7⟩
          have HB7 := hide (HW6.out.trans (hb7.mono HW6.out.size))
          clear hb7 HWR
          go_wp2_with fail
          refine bodyPost_ret (results_tmp2 rfl _ _ _) rfl ?_
          exact ⟨rfl, HB7.out⟩
end Go.Proofs.YtpmnhipffkhcpaaGreatDoor
namespace Go.KI
open Go
theorem long_big {l : List Nat} {n : Nat} (h : Norm 1000000 l) (hl : n < l.length) (hn : most ≤ 6 * n) : lim ≤ lv 1000000 l := by
  have hne : l ≠ [] := fun e => by rw [e] at hl; simp at hl
  have h1 := h.ge hne
  have h2 : (1000000 : Nat) ^ n ≤ 1000000 ^ (l.length - 1) := Nat.pow_le_pow_right (by omega) (by omega)
  have h3 : lim ≤ 1000000 ^ n := by
    rw [show (1000000 : Nat) = 10 ^ 6 by decide, ← Nat.pow_mul]
    exact Nat.pow_le_pow_right (by omega) hn
  omega
end Go.KI
namespace Go.Proofs.YtpmnhipffkhcpaaGreatDoor
open Go.RowKit Go.KP Go.KI Go.Shelf
attribute [local go_sem] Oper.semAt_some

theorem norm_one : Norm 1000000 [1] := norm1
theorem rPower_good (s : ByteArray) (k : Nat) (w : World) (c1 : chkI s.data.toList = 0) (hk : k ≤ 4096) :
    Calls Tryz.prog 182 #[.string s, .int .i64 k] w (Ret w (pairV (resS (valI s.data.toList ^ k)) (resE (valI s.data.toList ^ k)))) := by
  have l1 := (chk_digs c1).2
  rw [bytes_len] at l1
  have HC := hide (rcheck_any s (by omega) w)
  rw [c1] at HC
  have HRD := hide (fun w => rread_good s c1 w)
  obtain ⟨x, hx⟩ : ∃ x, x = valI s.data.toList := ⟨_, rfl⟩
  rw [← hx] at HRD ⊢
  have g1 : ((k : Int) < 0) = False := eq_false (by omega)
  have g2 : ((4096 : Int) < (k : Int)) = False := eq_false (by omega)
  clear c1 l1 hx
  go_enter Tryz.func182, Tryz.ntmps182
  go_wp2_with fail
  refine HC.out.mono ?_
  rintro e w1 ⟨rfl, hb1⟩
  have HB1 := hide hb1
  clear hb1 HC
  go_wp2_with fail
  clear g1 g2
  refine (HRD.out _).mono ?_
  rintro e w2 ⟨mx, vx, lx, rfl, hb2, ox, nx, qx, kx⟩
  obtain ⟨ax, cx, hvf, _, _⟩ := ox.form
  subst hvf
  have HB2 := hide (HB1.out.trans (hb2.mono HB1.out.size))
  have OX := hide ox; have NX := hide nx; have QX := hide qx
  clear hb2 ox nx qx HB1 HRD
  go_wp2_with fail
  have H3 := hide (heap3 w2 (rowO [1]) (bigO mx (.slice ax lx.length cx)) (bigO false (.slice (some ⟨w2.heap.size, 0, none⟩) 1 1)))
  obtain ⟨w3, hw3⟩ : ∃ w3, ((w2.alloc (rowO [1])).alloc (bigO mx (.slice ax lx.length cx))).alloc (bigO false (.slice (some ⟨w2.heap.size, 0, none⟩) 1 1)) = w3 := ⟨_, rfl⟩
  rw [hw3] at H3
  have HW3 := hide hw3
  clear hw3
  rw [show ((w2.alloc (.cells #[.int .i64 1] 3)).alloc (.cells #[.bool mx, .slice ax lx.length cx] 308)).alloc (.cells #[.bool false, .slice (some ⟨w2.heap.size, 0, none⟩) 1 1] 308) = w3 from HW3.out]
  have OX3 := hide ((OX.out.keep H3.out.2.2.2.2).mono (Nat.zero_le _))
  have HB3 := hide (HB2.out.trans (H3.out.2.2.2.2.mono HB2.out.size))
  have O13 := hide (show OwnL 0 w3 (.slice (some ⟨w2.heap.size, 0, none⟩) 1 1) [1] from row_owns H3.out.1 (Nat.zero_le _) (by simp [maxLen]))
  have hnw0 : w.heap.size ≤ w2.heap.size := HB2.out.size
  obtain ⟨nb, hnb⟩ : ∃ nb, nb = w2.heap.size := ⟨_, rfl⟩
  have HNB := hide hnb
  rw [← hnb] at H3 O13 ⊢
  clear hnb OX HB2 HW3
  go_loopw [9] (fun i wr => ∃ n : Nat, n ≤ k ∧ i = .int .i64 n ∧ Hid (∃ (m : Bool) (a : Option Addr) (c : Nat) (l : List Nat), wr.heap[nb + 1]? = some (bigO mx (.slice ax lx.length cx)) ∧ wr.heap[nb + 2]? = some (bigO m (.slice a l.length c)) ∧ OwnL 0 wr (.slice ax lx.length cx) lx ∧ OwnL 0 wr (.slice a l.length c) l ∧ Norm 1000000 l ∧ valS m (lv 1000000 l) = x ^ n ∧ l.length ≤ 52 ∧ Below w.heap.size w wr ∧ w.heap.size ≤ nb)) (fun i _ => k - (intOf i).toNat)
  case atStart => exact ⟨0, Nat.zero_le _, rfl, false, _, _, [1], H3.out.2.1, H3.out.2.2.1, OX3.out, O13.out, norm_one, by rw [Int.pow_zero]; rfl, by simp, HB3.out, by have := HNB.out; omega⟩
  case round =>
    obtain ⟨n, hn, rfl, hin⟩ := hrel
    obtain ⟨m, a, c, l, hx1, ho1, oX, oL, nL, vL, lL, hW, hnw⟩ := hin.out
    have e1 := cell_blk hx1 0
    have e2 := cell_blk hx1 1
    have e3 := cell_blk ho1 0
    have e4 := cell_blk ho1 1
    have s1 := lt_blk hx1
    have s2 := lt_blk ho1
    by_cases hlt : n < k
    · have hl : (n : Int) < (k : Int) := by omega
      have HM := hide (rmul_any m mx a ax c cx l lx wr (.of_own oL) (.of_own oX) nL.lt NX.out.lt (by omega) (by omega))
      have HX1 := hide hx1; have HO1 := hide ho1; have OXX := hide oX; have VL := hide vL; have HWW := hide hW
      clear hx1 ho1 oX oL nL vL hW hin
      go_wp2_with fail
      refine HM.out.mono ?_
      rintro e w4 ⟨m3, v3, l3, rfl, hb4, o3, n3, q3, k3⟩
      obtain ⟨a3, c3, hvf, _, _⟩ := o3.form
      subst hvf
      have HX4 := hide (below_blk hb4 HX1.out s1); have HO4 := hide (below_blk hb4 HO1.out s2)
      have OX4 := hide (OXX.out.keep hb4); have O4 := hide (o3.mono (Nat.zero_le _)); have N4 := hide n3
      have V4 := hide (show valS m3 (lv 1000000 l3) = x ^ (n + 1) by rw [q3, VL.out, QX.out, ← Int.pow_succ])
      have HB4 := hide (HWW.out.trans (hb4.mono HWW.out.size))
      clear hb4 o3 n3 q3 k3 HM OXX HWW HX1 HO1 e1 e2 e3 e4 s1 s2
      have f3 := froz_blk HO4.out 0
      have f4 := froz_blk HO4.out 1
      have e3 := cell_blk HO4.out 0
      have e4 := cell_blk HO4.out 1
      have s2 := lt_blk HO4.out
      by_cases h52 : 52 < l3.length
      · have h52i : (52 : Int) < (l3.length : Int) := by omega
        have HE := hide (show pairV (resS (x ^ k)) (resE (x ^ k)) = .tuple #[.string ⟨#[]⟩, .int .i64 4] by
          have hbig := long_big N4.out h52 (by rw [most_eq]; omega)
          have hnf : ¬ fits (x ^ (n + 1)) := fun h => by
            rw [← V4.out] at h
            unfold fits at h
            rw [valS_abs] at h
            omega
          have hnk : ¬ fits (x ^ k) := fun h => hnf (pow_fits h (by omega))
          rw [pairV, show resS (x ^ k) = [] from if_neg hnk, show resE (x ^ k) = 4 from if_neg hnk]
          rfl)
        clear h52 lL
        go_wp2_with fail
        obtain ⟨y1, y2⟩ := set2 HO4.out (.bool m3) (.slice a3 l3.length c3)
        refine bodyPost_ret (results_tmp2 rfl _ _ _) rfl ?_
        rw [HE.out]
        exact ⟨rfl, HB4.out.trans (y2.mono (by omega))⟩
      · have h52i : ((52 : Int) < (l3.length : Int)) = False := eq_false (by omega)
        have h52n : l3.length ≤ 52 := by omega
        clear h52 lL
        go_wp2_with fail
        obtain ⟨y1, y2⟩ := set2 HO4.out (.bool m3) (.slice a3 l3.length c3)
        go_roundw
        case rel => exact ⟨n + 1, by omega, by go_num, m3, a3, c3, l3, (setCell_other (by omega)).trans ((setCell_other (by omega)).trans HX4.out), y1, OX4.out.setNum HO4.out m3 _, O4.out.setNum HO4.out m3 _, N4.out, V4.out, h52n, HB4.out.trans (y2.mono (by omega)), hnw⟩
        case measure => simp [intOf]; omega
    · obtain rfl : n = k := by omega
      have hl : ((n : Int) < (n : Int)) = False := eq_false (by omega)
      have HR := hide (rresult_any m (.slice a l.length c) l wr.heap.size wr (.of_own oL) (Nat.le_refl _) nL (by omega))
      rw [vL] at HR
      have HWW := hide hW
      clear hlt hx1 ho1 oX oL nL vL hW hin
      go_wp2_with fail
      refine HR.out.mono ?_
      rintro e w4 ⟨rfl, hb4⟩
      have HB4 := hide (HWW.out.trans (hb4.mono HWW.out.size))
      clear hb4 HR
      go_wp2_with fail
      refine bodyPost_ret (results_tmp2 rfl _ _ _) rfl ?_
      exact ⟨rfl, HB4.out⟩
end Go.Proofs.YtpmnhipffkhcpaaGreatDoor
namespace Go.KI
open Go
theorem root_unique {x : Rat} {r s : Nat} (h1 : (r : Rat) * r ≤ x) (h2 : x < ((r : Rat) + 1) * ((r : Rat) + 1)) (h3 : (s : Rat) * s ≤ x) (h4 : x < ((s : Rat) + 1) * ((s : Rat) + 1)) : r = s := by
  have one : ((1 : Nat) : Rat) = 1 := rfl
  have a : r < s + 1 := by
    refine nat_lt_of ?_
    rw [Rat.natCast_add, one]
    generalize (r : Rat) = R at *
    generalize (s : Rat) = S at *
    grind
  have b : s < r + 1 := by
    refine nat_lt_of ?_
    rw [Rat.natCast_add, one]
    generalize (r : Rat) = R at *
    generalize (s : Rat) = S at *
    grind
  omega
def wholeN (x : Rat) : Nat := rootN x.floor.toNat
theorem wholeN_spec {x : Rat} (hx : 0 ≤ x) : ((wholeN x : Nat) : Rat) * ((wholeN x : Nat) : Rat) ≤ x ∧ x < (((wholeN x : Nat) : Rat) + 1) * (((wholeN x : Nat) : Rat) + 1) := by
  have f0 : 0 ≤ x.floor := Rat.le_floor_iff.2 hx
  have h1 := Rat.floor_le x
  have h2 := Rat.lt_floor_add_one x
  obtain ⟨r1, r2⟩ := rootN_spec x.floor.toNat
  have e : ((x.floor.toNat : Nat) : Rat) = (x.floor : Rat) := by
    have h : ((x.floor.toNat : Nat) : Int) = x.floor := by omega
    rw [← Rat.intCast_natCast, h]
  have g1 := Rat.natCast_le_natCast.2 r1
  have g2 := Rat.natCast_le_natCast.2 (Nat.succ_le_of_lt r2)
  have one : ((1 : Nat) : Rat) = 1 := rfl
  have oneI : ((1 : Int) : Rat) = 1 := rfl
  simp only [Nat.succ_eq_add_one, Rat.natCast_mul, Rat.natCast_add, one] at g1 g2
  rw [Rat.intCast_add, oneI] at h2
  rw [e] at g1 g2
  unfold wholeN
  generalize ((rootN x.floor.toNat : Nat) : Rat) = R at *
  generalize (x.floor : Rat) = F at *
  exact ⟨by grind, by grind⟩
theorem whole_units {q u : Rat} (f : Nat) (hq : 0 ≤ q.num) (hu : 0 < u.num) : wholeN ((f : Rat) * (q / (u * u))) = unitsN q u f := by
  have up := pos_num hu
  have uu := Rat.mul_pos up up
  have un := Rat.ne_of_gt uu
  have q0 := Rat.num_nonneg.1 hq
  have f0 : (0 : Rat) ≤ (f : Rat) := Rat.natCast_nonneg
  obtain ⟨h1, h2⟩ := unitsN_spec f hq hu
  have hx : 0 ≤ (f : Rat) * (q / (u * u)) := by
    rw [Rat.div_def]
    exact Rat.mul_nonneg f0 (Rat.mul_nonneg q0 (Rat.le_of_lt (Rat.inv_pos.2 uu)))
  obtain ⟨h3, h4⟩ := wholeN_spec hx
  have e : (f : Rat) * (q / (u * u)) * (u * u) = (f : Rat) * q := by rw [Rat.mul_assoc, Rat.div_mul_cancel un]
  refine root_unique h3 h4 (le_by uu ?_) (lt_by uu ?_)
  · rw [e]; exact h1
  · rw [e]; exact h2
theorem low_units {q : Rat} {S : Nat} (hq : 0 ≤ q.num) (hS : 0 < S) (hu : 0 < (1 / (S : Rat)).num) : floorR q (1 / (S : Rat)) = lowR q S := by
  have sp := Rat.natCast_pos.2 hS
  have sn := Rat.ne_of_gt sp
  obtain ⟨h1, h2⟩ := unitsN_spec 1 hq hu
  obtain ⟨h3, h4⟩ := decN_spec hq S
  have one : ((1 : Nat) : Rat) = 1 := rfl
  rw [one, Rat.one_mul] at h1 h2
  have e : 1 / (S : Rat) * (S : Rat) = 1 := Rat.div_mul_cancel sn
  have hr : unitsN q (1 / (S : Rat)) 1 = decN q S := by
    refine root_unique ?_ ?_ h3 h4
    · have := Rat.mul_le_mul_of_nonneg_right h1 (c := (S : Rat) * S) (Rat.le_of_lt (Rat.mul_pos sp sp))
      generalize 1 / (S : Rat) = i at *
      generalize ((unitsN q i 1 : Nat) : Rat) = R at *
      generalize (S : Rat) = s at *
      rw [show R * R * (i * i) * (s * s) = R * R * ((i * s) * (i * s)) by grind, e, Rat.mul_one, Rat.mul_one] at this
      exact this
    · have := Rat.mul_lt_mul_of_pos_right h2 (c := (S : Rat) * S) (Rat.mul_pos sp sp)
      generalize 1 / (S : Rat) = i at *
      generalize ((unitsN q i 1 : Nat) : Rat) = R at *
      generalize (S : Rat) = s at *
      rw [show (R + 1) * (R + 1) * (i * i) * (s * s) = (R + 1) * (R + 1) * ((i * s) * (i * s)) by grind, e, Rat.mul_one, Rat.mul_one] at this
      exact this
  unfold floorR lowR
  rw [hr, Rat.div_def, Rat.div_def, Rat.one_mul]
end Go.KI
namespace Go.Proofs.YtpmnhipffkhcpaaGreatDoor
open Go.RowKit Go.KP Go.KI Go.Shelf
attribute [local go_sem] Oper.semAt_some

theorem floor_divInt (x : Rat) : x.floor = x.num / (x.den : Int) := Rat.floor_def x
theorem r2Floor_T {x : Rat} (fx : fitsQ x) (hx : 0 ≤ x.num) (B : Nat) (w : World) (hB : B ≤ w.heap.size) (hT : PQ B w) :
    Calls Tryz.prog 108 #[.string (T x)] w (Ret w (.tuple #[.string (iB (x.floor)), .int .i64 0])) := by
  have HT := hide hT
  have H1 := hide (fun w hB hT => r2Check_T fx B w hB hT)
  have en : x.num = ((x.num.toNat : Nat) : Int) := by omega
  have ef : x.floor = ((x.num.toNat / x.den : Nat) : Int) := by rw [floor_divInt, en, ← Int.natCast_ediv, Int.toNat_natCast]
  have ff : fits x.floor := by rw [floor_divInt]; exact fits_of_le fx.1 (Int.natAbs_ediv_le_natAbs _ _)
  by_cases hs : shortQ x
  · have HI := hide (fun w => ints_short fx hs w)
    obtain ⟨a1, a2⟩ := shortQ_lt hs
    have ap := x.den_pos
    have hq : x.num.toNat / x.den ≤ x.num.toNat := Nat.div_le_self _ _
    have HQ := hide (fun w => r2quick_any (((x.num.toNat / x.den : Nat) : Int)) 1 (by rw [Int.natAbs_natCast]; omega) (by omega) (by omega) w)
    have e1 : strB (ratS (Rat.divInt ((x.num.toNat / x.den : Nat) : Int) ((1 : Nat) : Int))) = iB x.floor := by
      rw [Rat.divInt_ofNat, Rat.mkRat_one, ef]
      exact (iB_T _).symm
    rw [e1] at HQ
    rw [en] at HI
    generalize iB x.floor = R at *
    obtain ⟨n, hn⟩ : ∃ n, n = x.num.toNat := ⟨_, rfl⟩
    obtain ⟨d, hd⟩ : ∃ n, n = x.den := ⟨_, rfl⟩
    rw [← hn, ← hd] at HQ hq
    rw [← hn, ← hd] at HI
    have hnb : n < 1000000000 := by omega
    have hdb : d < 1000000000 := by omega
    have hd0 : ((d : Int) == 0) = false := by simp only [beq_eq_false_iff_ne, ne_eq]; omega
    have hdp : 0 < d := by omega
    obtain ⟨c, hc⟩ : ∃ c, c = n / d := ⟨_, rfl⟩
    obtain ⟨r, hr⟩ : ∃ c, c = n % d := ⟨_, rfl⟩
    have hdi : (n : Int) / (d : Int) = (c : Int) := by rw [hc, Int.natCast_ediv]
    have hri : (n : Int) % (d : Int) = (r : Int) := by rw [hr, Int.natCast_emod]
    have hti : (n : Int).tdiv (d : Int) = (c : Int) := by rw [hc, tdiv_nat]
    have htm : (n : Int).tmod (d : Int) = (r : Int) := by rw [hr]; exact (Int.ofNat_tmod n d).symm
    have hrp : ((r : Int) < 0) = False := eq_false (by omega)
    rw [← hc] at HQ hq
    generalize T x = X at *
    clear hn hd hc hr en ef ff a1 a2 ap fx hx hs hT
    go_enter Tryz.func108, Tryz.ntmps108
    go_wp2_with fail
    refine (H1.out _ hB HT.out).mono ?_
    rintro e w1 ⟨rfl, hb1⟩
    have HB1 := hide hb1
    clear hb1
    go_wp2_with fail
    refine (HI.out _).mono ?_
    rintro e w2 ⟨rfl, hb2⟩
    have HB2 := hide (HB1.out.trans (hb2.mono HB1.out.size))
    clear hb2
    go_wp2_with fail
    refine (HQ.out _).mono ?_
    rintro e w3 ⟨rfl, hb3⟩
    have HB3 := hide (HB2.out.trans (hb3.mono HB2.out.size))
    clear hb3
    go_wp2_with fail
    refine bodyPost_ret (results_tmp2 rfl _ _ _) rfl ?_
    exact ⟨rfl, HB3.out⟩
  · have HI := hide (fun w => r2ints_T fx w)
    unfold intsQ at HI
    rw [if_neg hs] at HI
    have HP := hide (fun w => r2parts_T fx w)
    have hd : 0 < (x.den : Int) := by have := x.den_pos; omega
    have HD := hide (fun w hB hT => rDivide_I fx.1 fx.2 hd B w hB hT)
    have HM := hide (fun w hB hT => r2make_any (n := x.num / (x.den : Int)) (d := ((1 : Nat) : Int)) (by omega) (by rw [← floor_divInt]; exact ff) fits_one B w hB hT)
    rw [lit1, show T (Rat.divInt (x.num / (x.den : Int)) ((1 : Nat) : Int)) = iB x.floor by
      rw [Rat.divInt_ofNat, Rat.mkRat_one, ← floor_divInt]
      exact (iB_T _).symm] at HM
    rw [← floor_divInt] at HD HM
    generalize iB x.floor = R at *
    generalize iB (x.num % (x.den : Int)) = RM at *
    generalize iB x.num = N at *
    generalize iB (x.den : Int) = D at *
    generalize T x = X at *
    clear en ef ff hs hd fx hx hT
    go_enter Tryz.func108, Tryz.ntmps108
    go_wp2_with fail
    refine (H1.out _ hB HT.out).mono ?_
    rintro e w1 ⟨rfl, hb1⟩
    have HB1 := hide hb1
    clear hb1
    go_wp2_with fail
    refine (HI.out _).mono ?_
    rintro e w2 ⟨rfl, hb2⟩
    have HB2 := hide (HB1.out.trans (hb2.mono HB1.out.size))
    clear hb2
    go_wp2_with fail
    refine (HP.out _).mono ?_
    rintro e w3 ⟨rfl, hb3⟩
    have HB3 := hide (HB2.out.trans (hb3.mono HB2.out.size))
    clear hb3
    go_wp2_with fail
    refine (HD.out _ (Nat.le_trans hB HB3.out.size) (HT.out.p10.on HB3.out hB)).mono ?_
    rintro e w4 ⟨rfl, hb4⟩
    have HB4 := hide (HB3.out.trans (hb4.mono HB3.out.size))
    clear hb4
    go_wp2_with fail
    refine (HM.out _ (Nat.le_trans hB HB4.out.size) (HT.out.p10.on HB4.out hB)).mono ?_
    rintro e w5 ⟨rfl, hb5⟩
    have HB5 := hide (HB4.out.trans (hb5.mono HB4.out.size))
    clear hb5
    go_wp2_with fail
    refine bodyPost_ret (results_tmp2 rfl _ _ _) rfl ?_
    exact ⟨rfl, HB5.out⟩
theorem s3whole_T {x : Rat} (fx : fitsQ x) (hx : 0 ≤ x.num) (B : Nat) (w : World) (hB : B ≤ w.heap.size) (hT : PQ B w) :
    Calls Tryz.prog 185 #[.string (T x)] w (Ret w (.string (iB ((wholeN x : Nat) : Int)))) := by
  have HT := hide hT
  have H1 := hide (fun w hB hT => r2Floor_T fx hx B w hB hT)
  have f0 : 0 ≤ x.floor := Rat.le_floor_iff.2 (Rat.num_nonneg.1 hx)
  have ef : x.floor = ((x.floor.toNat : Nat) : Int) := by omega
  have ff : fits x.floor := by rw [floor_divInt]; exact fits_of_le fx.1 (Int.natAbs_ediv_le_natAbs _ _)
  have H2 : Hid (∀ w, Calls Tryz.prog 306 #[.string (iB x.floor)] w (Ret w (pairT (iB ((wholeN x : Nat) : Int))))) := hide (fun w => rRoot_good (iB x.floor) x.floor.toNat w (by rw [iB_list]; exact chk_fits ff) (by rw [iB_list, val_itoa]; exact ef))
  generalize iB ((wholeN x : Nat) : Int) = R at *
  generalize iB x.floor = F at *
  generalize T x = X at *
  clear fx hx f0 ef ff hT
  go_enter Tryz.func185, Tryz.ntmps185
  go_wp2_with fail
  refine (H1.out _ hB HT.out).mono ?_
  rintro e w1 ⟨rfl, hb1⟩
  have HB1 := hide hb1
  clear hb1
  go_wp2_with fail
  refine (H2.out _).mono ?_
  rintro e w2 ⟨rfl, hb2⟩
  have HB2 := hide (HB1.out.trans (hb2.mono HB1.out.size))
  clear hb2
  go_wp2_with fail
  go_ret
  exact ⟨rfl, HB2.out⟩
theorem s3floor_T {q u : Rat} {p r : Nat} (sq : sz p q) (su : sz r u) (hq : 0 ≤ q.num) (hu : 0 < u.num) (hp : p + (r + r) ≤ 299) (h1 : 1 ≤ r) (hk : p + (r + r) + 1 + (r + r) ≤ 594) (B : Nat) (w : World) (hB : B ≤ w.heap.size) (hT : PQ B w) :
    Calls Tryz.prog 176 #[.string (T q), .string (T u)] w (Ret w (.string (T (floorR q u)))) := by
  have HT := hide hT
  have up := pos_num hu
  have uu := Rat.mul_pos up up
  have fu := sz_fits su (by rw [most_eq]; omega)
  have fq := sz_fits sq (by rw [most_eq]; omega)
  have suu := sz_mul su su
  have H1 := hide (fun w hB hT => s3product_T fu fu (mulC_of su su (by rw [most_eq]; omega)) B w hB hT)
  have hun : 0 < (u * u).num := num_gt uu
  have H2 := hide (fun w hB hT => s3quotient_T fq (sz_fits suu (by rw [most_eq]; omega)) hun (cmpC_of sq suu (by rw [most_eq]; omega)) B w hB hT)
  have sQ := sz_div (by omega) sq suu
  have hQ : 0 ≤ (q / (u * u)).num := by
    rw [Rat.num_nonneg, Rat.div_def]
    exact Rat.mul_nonneg (Rat.num_nonneg.1 hq) (Rat.le_of_lt (Rat.inv_pos.2 uu))
  have H3 := hide (fun w hB hT => s3whole_T (sz_fits sQ (by rw [most_eq]; omega)) hQ B w hB hT)
  have ew : wholeN (q / (u * u)) = unitsN q u 1 := by
    have h := whole_units 1 hq hu
    rw [show ((1 : Nat) : Rat) = 1 from rfl, Rat.one_mul] at h
    exact h
  rw [ew] at H3
  obtain ⟨k, hk1, hk2⟩ : ∃ k, p + (r + r) + 1 ≤ 2 * k ∧ r + k ≤ 299 := ⟨(p + (r + r) + 2) / 2, by omega, by omega⟩
  have hn := unitsN_lt (f := 1) sq su (by omega) hk1
  have sN : sz (k + 1) ((((unitsN q u 1 : Nat) : Int)) : Rat) := sz_natc (Nat.lt_of_lt_of_le hn (Nat.pow_le_pow_right (by omega) (by omega))) (by omega)
  have H4 := hide (fun w hB hT => s3product_T fu (sz_fits sN (by rw [most_eq]; omega)) (mulC_of su sN (by rw [most_eq]; omega)) B w hB hT)
  rw [← iB_T, show u * ((((unitsN q u 1 : Nat) : Int)) : Rat) = floorR q u by unfold floorR; rw [Rat.mul_comm]; rfl] at H4
  generalize T (floorR q u) = R at *
  generalize iB ((unitsN q u 1 : Nat) : Int) = N at *
  generalize T (q / (u * u)) = QQ at *
  generalize T (u * u) = UU at *
  generalize T q = X at *
  generalize T u = U at *
  clear sq su hq hu hp h1 hk up uu fu fq suu hun sQ hQ ew hk1 hk2 hn sN hT
  go_enter Tryz.func176, Tryz.ntmps176
  go_wp2_with fail
  refine (H1.out _ hB HT.out).mono ?_
  rintro e w1 ⟨rfl, hb1⟩
  have HB1 := hide hb1
  clear hb1
  go_wp2_with fail
  refine (H2.out _ (Nat.le_trans hB HB1.out.size) (HT.out.on HB1.out hB)).mono ?_
  rintro e w2 ⟨rfl, hb2⟩
  have HB2 := hide (HB1.out.trans (hb2.mono HB1.out.size))
  clear hb2
  go_wp2_with fail
  refine (H3.out _ (Nat.le_trans hB HB2.out.size) (HT.out.on HB2.out hB)).mono ?_
  rintro e w3 ⟨rfl, hb3⟩
  have HB3 := hide (HB2.out.trans (hb3.mono HB2.out.size))
  clear hb3
  go_wp2_with fail
  refine (H4.out _ (Nat.le_trans hB HB3.out.size) (HT.out.on HB3.out hB)).mono ?_
  rintro e w4 ⟨rfl, hb4⟩
  have HB4 := hide (HB3.out.trans (hb4.mono HB3.out.size))
  clear hb4
  go_wp2_with fail
  go_ret
  exact ⟨rfl, HB4.out⟩
open Go.RowKit Go.KP Go.KI Go.Shelf
attribute [local go_sem] Oper.semAt_some

def strOf : Value → ByteArray
  | .string s => s
  | _ => ⟨#[]⟩
open Go.RowKit Go.KP Go.KI Go.Shelf
attribute [local go_sem] Oper.semAt_some

theorem val_iB (z : Int) : valI (iB z).data.toList = z := by rw [iB_list, val_itoa]
theorem s3fractions_I {a b c d : Int} {N : Nat} (a0 : 0 ≤ a) (b0 : 0 < b) (c0 : 0 ≤ c) (d0 : 0 < d) (na : a.natAbs ≤ N) (nb : b.natAbs ≤ N) (nc : c.natAbs ≤ N) (nd : d.natAbs ≤ N) (hN : fits (N : Int)) (B : Nat) (w : World) (hB : B ≤ w.heap.size) (hT : P10 B w) :
    Calls Tryz.prog 172 #[.string (iB a), .string (iB b), .string (iB c), .string (iB d)] w (Ret w (.int .i64 (cmpP a b c d))) := by
  have HT := hide hT
  have FN : Hid (∀ z : Int, z.natAbs ≤ N → fits z) := hide (fun z hz => fits_of_le hN (by rw [Int.natAbs_natCast]; exact hz))
  obtain ⟨T0, hT0⟩ : ∃ T, T = cmpP a b c d := ⟨_, rfl⟩
  have HI : Hid (∃ a' b' c' d' : Int, iB a = iB a' ∧ iB b = iB b' ∧ iB c = iB c' ∧ iB d = iB d' ∧ 0 ≤ a' ∧ 0 < b' ∧ 0 ≤ c' ∧ 0 < d' ∧ a'.natAbs ≤ N ∧ b'.natAbs ≤ N ∧ c'.natAbs ≤ N ∧ d'.natAbs ≤ N ∧ cmpP a' b' c' d' = T0) := hide ⟨a, b, c, d, rfl, rfl, rfl, rfl, a0, b0, c0, d0, na, nb, nc, nd, hT0.symm⟩
  rw [← hT0]
  generalize iB a = A at *
  generalize iB b = A2 at *
  generalize iB c = C at *
  generalize iB d = C2 at *
  clear a0 b0 c0 d0 na nb nc nd hN hT hT0
  go_enter Tryz.func172, Tryz.ntmps172
  go_wp2_with fail
  go_loopw [0, 1, 2, 3] (fun x y z v wr => ∃ a b c d : Int, x = .string (iB a) ∧ y = .string (iB b) ∧ z = .string (iB c) ∧ v = .string (iB d) ∧ Hid (0 ≤ a ∧ 0 < b ∧ 0 ≤ c ∧ 0 < d ∧ a.natAbs ≤ N ∧ b.natAbs ≤ N ∧ c.natAbs ≤ N ∧ d.natAbs ≤ N ∧ cmpP a b c d = T0 ∧ Below w.heap.size w wr)) (fun _ y _ v _ => (valI (strOf y).data.toList).toNat + (valI (strOf v).data.toList).toNat)
  case atStart =>
    obtain ⟨a', b', c', d', h1, h2, h3, h4, h5⟩ := HI.out
    exact ⟨a', b', c', d', by rw [h1], by rw [h2], by rw [h3], by rw [h4], h5.1, h5.2.1, h5.2.2.1, h5.2.2.2.1, h5.2.2.2.2.1, h5.2.2.2.2.2.1, h5.2.2.2.2.2.2.1, h5.2.2.2.2.2.2.2.1, h5.2.2.2.2.2.2.2.2, Below.refl _ _⟩
  clear HI
  case round =>
    obtain ⟨a, b, c, d, rfl, rfl, rfl, rfl, hin⟩ := hrel
    obtain ⟨a0, b0, c0, d0, na, nb, nc, nd, ht, hbw⟩ := hin.out
    have H1 := hide (fun w hB hT => rDivide_I (FN.out a na) (FN.out b nb) b0 B w hB hT)
    have H2 := hide (fun w hB hT => rDivide_I (FN.out c nc) (FN.out d nd) d0 B w hB hT)
    have q1 := Int.natAbs_ediv_le_natAbs a b
    have q2 := Int.natAbs_ediv_le_natAbs c d
    have m1 := Int.emod_nonneg a (show b ≠ 0 by omega)
    have m2 := Int.emod_lt_of_pos a b0
    have m3 := Int.emod_nonneg c (show d ≠ 0 by omega)
    have m4 := Int.emod_lt_of_pos c d0
    have H3 := hide (fun w => rCompare_I (FN.out (a / b) (by omega)) (FN.out (c / d) (by omega)) w)
    have hz1 := iB_zero_test (a % b)
    have hz2 := iB_zero_test (c % d)
    have hz3 : ((iB (a % b)).toList == (iB (c % d)).toList) = decide (a % b = c % d) := by
      rw [ByteArray.toList_eq, ByteArray.toList_eq, iB_list, iB_list]
      by_cases h : a % b = c % d
      · rw [h, decide_eq_true rfl]; simp
      · rw [decide_eq_false h]
        exact beq_false_of_ne fun e => h (itoa_inj e)
    have HW := hide (fun h => cmpP_whole (a := a) (c := c) b0 d0 h)
    have HE := hide (fun h => cmpP_ends (a := a) (c := c) b0 d0 h)
    rw [ht] at HW HE
    have HNX : Hid (a % b ≠ 0 → c % d ≠ 0 → Lib.compareInt (a / b) (c / d) = 0 → ∀ W, Below w.heap.size w W → (0 ≤ d ∧ 0 < c % d ∧ 0 ≤ b ∧ 0 < a % b ∧ d.natAbs ≤ N ∧ (c % d).natAbs ≤ N ∧ b.natAbs ≤ N ∧ (a % b).natAbs ≤ N ∧ cmpP d (c % d) b (a % b) = T0 ∧ Below w.heap.size w W) ∧ (valI (iB (c % d)).data.toList).toNat + (valI (iB (a % b)).data.toList).toNat < (valI (iB b).data.toList).toNat + (valI (iB d).data.toList).toNat) := hide (fun h1 h2 h3 W hW => ⟨⟨by omega, by omega, by omega, by omega, by omega, by omega, by omega, by omega, ((HE.out h3).2.2.2).symm, hW⟩, by rw [val_iB, val_iB, val_iB, val_iB]; omega⟩)
    have HB0 := hide hbw
    have hr1 : (a % b = 0 ∧ decide (a % b = 0) = true) ∨ (a % b ≠ 0 ∧ decide (a % b = 0) = false) := by
      by_cases h : a % b = 0
      · exact .inl ⟨h, decide_eq_true h⟩
      · exact .inr ⟨h, decide_eq_false h⟩
    have hr2 : (c % d = 0 ∧ decide (c % d = 0) = true) ∨ (c % d ≠ 0 ∧ decide (c % d = 0) = false) := by
      by_cases h : c % d = 0
      · exact .inl ⟨h, decide_eq_true h⟩
      · exact .inr ⟨h, decide_eq_false h⟩
    have h13 : Hid (a % b = 0 → c % d = 0 → decide (a % b = c % d) = true) := hide (fun h1 h2 => by rw [h1, h2]; rfl)
    have h13b : Hid (a % b = 0 → c % d ≠ 0 → decide (a % b = c % d) = false) := hide (fun h1 h2 => decide_eq_false (by rw [h1]; exact fun e => h2 e.symm))
    have h13c : Hid (a % b ≠ 0 → c % d = 0 → decide (a % b = c % d) = false) := hide (fun h1 h2 => decide_eq_false (by rw [h2]; exact h1))
    generalize decide (a % b = c % d) = t3 at hz3 h13 h13b h13c
    generalize decide (a % b = 0) = t1 at hz1 hr1
    generalize decide (c % d = 0) = t2 at hz2 hr2
    generalize Lib.compareInt (a / b) (c / d) = k at *
    have HR1 := hide hr1
    have HR2 := hide hr2
    generalize iB (a / b) = Q1 at *
    generalize iB (c / d) = Q2 at *
    obtain ⟨RT, hRT⟩ : ∃ T, T = iB (a % b) := ⟨_, rfl⟩
    obtain ⟨ST, hST⟩ : ∃ T, T = iB (c % d) := ⟨_, rfl⟩
    obtain ⟨A, hA⟩ : ∃ T, T = iB a := ⟨_, rfl⟩
    obtain ⟨A2, hA2⟩ : ∃ T, T = iB b := ⟨_, rfl⟩
    obtain ⟨C, hC⟩ : ∃ T, T = iB c := ⟨_, rfl⟩
    obtain ⟨C2, hC2⟩ : ∃ T, T = iB d := ⟨_, rfl⟩
    rw [← hA, ← hA2, ← hRT] at H1
    rw [← hC, ← hC2, ← hST] at H2
    rw [← hRT] at hz1
    rw [← hST] at hz2
    rw [← hRT, ← hST] at hz3
    rw [← hA, ← hA2, ← hC, ← hC2]
    have HRT := hide hRT
    have HST := hide hST
    have HA2 := hide hA2
    have HC2 := hide hC2
    obtain ⟨wo, hwo⟩ : ∃ wo, wo = wr := ⟨_, rfl⟩
    subst hwo
    clear a0 b0 c0 d0 na nb nc nd ht hbw hin q1 q2 m1 m2 m3 m4 hr1 hr2 hRT hST hA hA2 hC hC2
    go_wp2_with fail
    refine (H1.out _ (Nat.le_trans hB HB0.out.size) (HT.out.on HB0.out hB)).mono ?_
    rintro e w1 ⟨rfl, hb1⟩
    have HB1 := hide (HB0.out.trans (hb1.mono HB0.out.size))
    clear hb1
    go_wp2_with fail
    refine (H2.out _ (Nat.le_trans hB HB1.out.size) (HT.out.on HB1.out hB)).mono ?_
    rintro e w2 ⟨rfl, hb2⟩
    have HB2 := hide (HB1.out.trans (hb2.mono HB1.out.size))
    clear hb2
    go_wp2_with fail
    refine (H3.out _).mono ?_
    rintro e w3 ⟨rfl, hb3⟩
    have HB3 := hide (HB2.out.trans (hb3.mono HB2.out.size))
    clear hb3
    by_cases hk : k = 0
    rotate_left
    · have hkb : (k == 0) = false := by simpa using hk
      have E := hide (HW.out hk)
      clear hk
      go_wp2_with fail
      go_ret
      exact ⟨by rw [E.out]; rfl, HB3.out⟩
    have HK := hide hk
    have EE := hide (HE.out hk)
    subst hk
    rcases HR1.out with ⟨h1, rfl⟩ | ⟨h1, rfl⟩ <;> rcases HR2.out with ⟨h2, rfl⟩ | ⟨h2, rfl⟩
    · have E := hide (EE.out.1 h1 h2)
      have h3 := h13.out h1 h2
      subst h3
      clear h1 h2
      go_wp2_with fail
      go_ret
      exact ⟨by rw [E.out]; rfl, HB3.out⟩
    · have E := hide (EE.out.2.1 h1 h2)
      have h3 := h13b.out h1 h2
      subst h3
      clear h1 h2
      go_wp2_with fail
      go_ret
      exact ⟨by rw [E.out]; rfl, HB3.out⟩
    · have E := hide (EE.out.2.2.1 h1 h2)
      have h3 := h13c.out h1 h2
      subst h3
      clear h1 h2
      go_wp2_with fail
      go_ret
      exact ⟨by rw [E.out]; rfl, HB3.out⟩
    · have HN := hide (HNX.out h1 h2 HK.out _ HB3.out)
      clear h1 h2 HNX hz3
      go_wp2_with fail
      go_roundw
      case rel => exact ⟨d, c % d, b, a % b, by rw [HC2.out], by rw [HST.out], by rw [HA2.out], by rw [HRT.out], HN.out.1⟩
      case measure =>
        show (valI ST.data.toList).toNat + (valI RT.data.toList).toNat < (valI A2.data.toList).toNat + (valI C2.data.toList).toNat
        rw [HST.out, HRT.out, HA2.out, HC2.out]
        exact HN.out.2
open Go.RowKit Go.KP Go.KI Go.Shelf
attribute [local go_sem] Oper.semAt_some

theorem checkE_neg {q : Rat} (rq : roomy q) (hq : q.num < 0) : checkE [T q] [T q] = 2 := by
  unfold checkE
  rw [firstE_zero (fun x hx => by simp at hx; subst hx; exact roomy_chk90 rq), if_neg (by simp), if_pos]
  rw [List.any_cons, negS_T, decide_eq_true hq]
  rfl
def nL (q : Rat) : Nat := if q.num = 0 then 1 else normL q
open Go.RowKit Go.KP Go.KI Go.Shelf
attribute [local go_sem] Oper.semAt_some

theorem check_split1 (q : ByteArray) : (firstE [q] ≠ 0 ∧ checkE [q] [q] = firstE [q]) ∨ (∃ x, roomy x ∧ q = T x ∧ x.num < 0 ∧ firstE [q] = 0 ∧ checkE [q] [q] = 2) ∨ (∃ x, roomy x ∧ q = T x ∧ 0 ≤ x.num ∧ firstE [q] = 0) := by
  by_cases h : firstE [q] = 0
  · have h9 : chk90 q.data.toList = 0 := by
      by_cases h2 : chk90 q.data.toList = 0
      · exact h2
      · have h3 : firstE [q] = chk90 q.data.toList := if_pos h2
        rw [h3] at h
        exact absurd h h2
    obtain ⟨x, rx, rfl⟩ := chk90_roomy h9
    by_cases hx : x.num < 0
    · exact .inr (.inl ⟨x, rx, rfl, hx, h, checkE_neg rx hx⟩)
    · exact .inr (.inr ⟨x, rx, rfl, by omega, h⟩)
  · exact .inl ⟨h, if_pos h⟩
theorem size_T {x : Rat} (rx : roomy x) : (T x).size ≤ 9223372036854775807 := by have := (T_good rx.1).1; omega
open Go.RowKit Go.KP Go.KI Go.Shelf
attribute [local go_sem] Oper.semAt_some

theorem check2_T {x y : Rat} (rx : roomy x) (ry : roomy y) : (∀ s ∈ [T x, T y], s.size ≤ 9223372036854775807) ∧ firstE [T x, T y] = 0 := by
  refine ⟨fun s hs => ?_, firstE_zero (fun s hs => ?_)⟩
  · simp at hs
    rcases hs with rfl | rfl
    · exact size_T rx
    · exact size_T ry
  · simp at hs
    rcases hs with rfl | rfl
    · exact roomy_chk90 rx
    · exact roomy_chk90 ry
theorem sgn_of_neg {x : Rat} (h : x.num < 0) : sgnR x = -1 := cmpT_lt (Rat.not_le.1 fun h2 => by have := Rat.num_nonneg.2 h2; omega)
theorem s3Great_any (b1 : Nat) (l1 : List ByteArray) (n1 : l1.length ≤ 1000) (h1 : ∀ s ∈ l1, s.size ≤ 9223372036854775807) (B : Nat) (w : World) (c1 : StrsAt w b1 l1) (hB : B ≤ w.heap.size) (hT : PQ B w) :
    Calls Tryz.prog 63 #[.slice (some ⟨b1, 0, none⟩) l1.length l1.length] w (fun e w' => Ret w (.bool true) e w' ∨ (Ret w (.bool false) e w' ∧ ∀ s ∈ l1, s.size ≤ 330)) := by
  have HT := hide hT
  obtain ⟨n, hn⟩ : ∃ n, n = l1.length := ⟨_, rfl⟩
  rw [← hn] at n1 ⊢
  have C1 := hide c1
  have N1 := hide hn
  have R1 := hide h1
  clear c1 hn h1 hT
  go_enter Tryz.func63, Tryz.ntmps63
  go_wp2_with fail
  go_loopw [3] (fun i wr => ∃ k : Nat, k ≤ n ∧ i = .int .i64 k ∧ Hid ((∀ x ∈ l1.take k, x.size ≤ 330) ∧ Below w.heap.size w wr)) (fun i _ => n - (intOf i).toNat)
  case atStart => exact ⟨0, Nat.zero_le _, rfl, by simp, Below.refl _ _⟩
  case round =>
    obtain ⟨k, hk, rfl, hin⟩ := hrel
    obtain ⟨wo, hwo⟩ : ∃ wo, wo = wr := ⟨_, rfl⟩
    subst hwo
    have IN := hide hin.out.1
    have HB0 := hide hin.out.2
    by_cases hlt : k < n
    · have hki : (k : Int) < (n : Int) := by omega
      have hk0 : (0 : Int) ≤ (k : Int) := by omega
      obtain ⟨s, hs⟩ : ∃ s, l1[k]? = some s := ⟨_, List.getElem?_eq_getElem (by rw [← N1.out]; exact hlt)⟩
      have hss := R1.out s (List.mem_of_getElem? hs)
      have hcell := (C1.out.below HB0.out C1.out.1).2 k s hs
      have HSK := hide hs
      have HNX := hide (show s.size ≤ 330 → ∀ x ∈ l1.take (k + 1), x.size ≤ 330 from fun h x hx => by
        rw [List.take_add_one, hs] at hx
        rcases List.mem_append.1 hx with h2 | h2
        · exact IN.out x h2
        · simp at h2; rw [h2]; exact h)
      by_cases h40 : 40 < s.size
      · have g40 : (40 : Int) < (s.size : Int) := by omega
        have X0 := hide (heap1 wo (.cells #[.string s] 22))
        have HBX := hide (HB0.out.trans (X0.out.2.2.mono HB0.out.size))
        have HC := hide (s3check_any wo.heap.size [s] (by simp) (fun x hx => by simp at hx; subst hx; exact hss) B _ (strs1 X0.out.1) (Nat.le_trans hB HBX.out.size) (HT.out.on HBX.out hB))
        generalize firstE [s] = E at HC
        clear hs hss hlt hin h40
        go_wp2_with fail
        refine HC.out.mono ?_
        rintro e w1 ⟨rfl, hb1⟩
        have HB1 := hide (HBX.out.trans (hb1.mono HBX.out.size))
        clear hb1 hcell HC X0 HBX
        by_cases hE : E = 0
        · subst hE
          go_wp2_with fail
          go_ret
          exact .inl ⟨rfl, HB1.out⟩
        · have hEb : (E == 0) = false := by simpa using hE
          have hcell := (C1.out.below HB1.out C1.out.1).2 k s HSK.out
          clear hE
          by_cases h330 : s.size ≤ 330
          · have g330 : ((330 : Int) < (s.size : Int)) = False := eq_false (by omega)
            have HN := hide (HNX.out h330)
            clear h330
            go_wp2_with fail
            go_roundw
            case rel => exact ⟨k + 1, by omega, by simp, HN.out, HB1.out⟩
            case measure => simp [intOf]; omega
          · have g330 : (330 : Int) < (s.size : Int) := by omega
            clear h330
            go_wp2_with fail
            go_ret
            exact .inl ⟨rfl, HB1.out⟩
      · have g40 : ((40 : Int) < (s.size : Int)) = False := eq_false (by omega)
        have g330 : ((330 : Int) < (s.size : Int)) = False := eq_false (by omega)
        have HN := hide (HNX.out (by omega))
        clear hs hss hlt hin h40
        go_wp2_with fail
        go_roundw
        case rel => exact ⟨k + 1, by omega, by simp, HN.out, HB0.out⟩
        case measure => simp [intOf]; omega
    · obtain rfl : k = n := by omega
      have hki : ((k : Int) < (k : Int)) = False := eq_false (by omega)
      have hA : ∀ s ∈ l1, s.size ≤ 330 := by
        have h := IN.out
        rw [List.take_of_length_le (by rw [← N1.out]; omega)] at h
        exact h
      have HA := hide hA
      clear hlt hin hA
      go_wp2_with fail
      go_ret
      exact .inr ⟨⟨rfl, HB0.out⟩, HA.out⟩
open Go.RowKit Go.KP Go.KI Go.Shelf
attribute [local go_sem] Oper.semAt_some

abbrev rangeV (a b : ByteArray) : Value := .agg #[.string a, .string b]
abbrev rangeO (a b : ByteArray) : Obj := .cells #[.string a, .string b] 111
theorem exit_range {f : Func} {R : Ending → World → Prop} {a : Act} {W : World} {b : Nat} {t u : Tmp} {x y : ByteArray} {v : Value} (hf : f.results = #[.cell t 111, .tmp u]) (hb : W.heap[b]? = some (rangeO x y)) (h2 : a.tmps[t]? = some (.pointer (some ⟨b, 0, none⟩))) (h3 : a.tmps[u]? = some v) (hd : a.defers = []) (hR : R (.returned (.tuple #[rangeV x y, v])) W) :
    bodyPost Tryz.prog f R .ret a W := by
  have hcell := fun o => cell_blk hb o
  refine bodyPost_ret ?_ hd hR
  simp [results, hf, go_sem, hcell, h2, h3]
theorem scale_text (n : Nat) : (⟨#[49]⟩ : ByteArray) ++ strB (Lib.repeatL [48] n) = iB ((10 ^ n : Nat) : Int) := by
  apply bytes_eq
  rw [iB_list, Lib.itoa_nonneg]
  have e : ((⟨#[49]⟩ : ByteArray) ++ strB (Lib.repeatL [48] n)).data.toList = [49] ++ (strB (Lib.repeatL [48] n)).data.toList := by simp
  rw [e, strB_list, repeat48]
  have h := dec_of (l := [49] ++ List.replicate n 48) (by simp) (fun c hc => by
    rcases List.mem_append.1 hc with h | h
    · simp at h; rw [h]; rfl
    · rw [List.eq_of_mem_replicate h]; rfl) (fun _ => by simp)
  rw [dv_zeros] at h
  exact h
theorem rBetween_T {q : Rat} {n : Nat} (rq : roomy q) (hq : 0 ≤ q.num) (hn : n ≤ 100) (B : Nat) (w : World) (hB : B ≤ w.heap.size) (hT : PQ B w) :
    Calls Tryz.prog 69 #[.string (T q), .int .i64 n] w (Ret w (.tuple #[rangeV (T (lowR q (10 ^ n))) (T (highR q (10 ^ n))), .int .i64 0])) := by
  have HT := hide hT
  have sq := roomy_sz rq
  obtain ⟨S, hS⟩ : ∃ S, S = 10 ^ n := ⟨_, rfl⟩
  have hS0 : 0 < S := by rw [hS]; exact Nat.pow_pos (by omega)
  have hS1 : S < 10 ^ 101 := by rw [hS]; exact (Nat.pow_lt_pow_iff_right (by omega)).2 (by omega)
  have aS : ((S : Nat) : Int).natAbs < 10 ^ 101 := nat_abs_lt hS1
  have fS : fits (S : Int) := fits_small (n := 101) (by rw [most_eq]; omega) aS
  have b1 := fits_mul sq.1 aS (by omega)
  have b2 := fits_mul b1.2 aS (by omega)
  have fd : fits (q.den : Int) := rq.1.2
  have hd0 : 0 < (q.den : Int) := by have := q.den_pos; omega
  have hz : q.num * (S : Int) * S / (q.den : Int) = (((q.num * (S : Int) * S / (q.den : Int)).toNat : Nat) : Int) := by
    have := Int.ediv_nonneg (a := q.num * (S : Int) * S) (b := (q.den : Int)) (Int.mul_nonneg (Int.mul_nonneg hq (by omega)) (by omega)) (by omega)
    omega
  have fz : fits (q.num * (S : Int) * S / (q.den : Int)) := fits_of_le b2.1 (Int.natAbs_ediv_le_natAbs _ _)
  have hdl := decN_lt (k := 146) sq hS1 (by omega)
  have h7 : (10 : Nat) ^ 147 = 10 ^ 146 * 10 := Nat.pow_succ ..
  have f0 : fits ((decN q S : Nat) : Int) := fits_small (n := 147) (by rw [most_eq]; omega) (nat_abs_lt (by omega))
  have f1 : fits ((decN q S + 1 : Nat) : Int) := fits_small (n := 147) (by rw [most_eq]; omega) (nat_abs_lt (by omega))
  have X0 := hide (heap3 w (rangeO ⟨#[]⟩ ⟨#[]⟩) (.cells #[.string (T q)] 22) (.cells #[.string (T q)] 22))
  have HC := hide (rCheck_ok (w.heap.size + 1) (w.heap.size + 2) [q] [q] (by simp) (by simp) (fun x hx => by simp at hx; subst hx; exact rq) (fun x hx => by simp at hx; subst hx; omega) B _ (nums1 X0.out.2.1) (nums1 X0.out.2.2.1) (Nat.le_trans hB X0.out.2.2.2.2.size) (hT.on X0.out.2.2.2.2 hB))
  have HRP := hide (fun w => repeat_any ⟨#[48]⟩ n w (by omega) (by decide))
  have hrps : (strB (Lib.repeatL [48] n)).size ≤ 100 := by rw [strB_size, repeat48, List.length_replicate]; exact hn
  have hsc := scale_text n
  rw [show (⟨#[48]⟩ : ByteArray).data.toList = [48] from rfl] at HRP
  generalize strB (Lib.repeatL [48] n) = rp at HRP hrps hsc
  rw [← hS] at hsc ⊢
  have hcs : (9223372036854775807 < (⟨#[49]⟩ : ByteArray).size + rp.size) = False := eq_false (by
    have : (⟨#[49]⟩ : ByteArray).size = 1 := rfl
    omega)
  have hcs1 : (9223372036854775807 < 1 + rp.size) = False := eq_false (by omega)
  have HO := hide (fun w hB hT => rOf_T rq.1 B w hB hT)
  have HRO := hide (fun w hB hT => rrootOf_T rq.1 hq B w hB hT)
  have HM1 := hide (fun w hB hT => rmul_I rq.1.1 fS b1.1 B w hB hT)
  have HM2 := hide (fun w hB hT => rmul_I b1.1 fS b2.1 B w hB hT)
  have HF := hide (fun w hB hT => rfloor_I b2.1 fd hd0 B w hB hT)
  rw [hz] at fz
  have HR := hide (fun w hB hT => Root_I fz B w hB hT)
  rw [← hz] at HR
  have HL := hide (fun w hB hT => rfraction_I f0 fS (show (S : Int) ≠ 0 by omega) B w hB hT)
  have HA := hide (fun w hB hT => pAdd_I f0 (y := ((1 : Nat) : Int)) fits_one (by rw [show ((decN q S : Nat) : Int) + ((1 : Nat) : Int) = ((decN q S + 1 : Nat) : Int) by omega]; exact f1) B w hB hT)
  rw [show ((decN q S : Nat) : Int) + ((1 : Nat) : Int) = ((decN q S + 1 : Nat) : Int) by omega, lit1] at HA
  have HH := hide (fun w hB hT => rfraction_I f1 fS (show (S : Int) ≠ 0 by omega) B w hB hT)
  rw [show ((((decN q S : Nat) : Int) : Rat) / (((S : Nat) : Int) : Rat)) = lowR q S from rfl] at HL
  rw [show ((((decN q S + 1 : Nat) : Int) : Rat) / (((S : Nat) : Int) : Rat)) = ((decN q S + 1 : Nat) : Rat) / (S : Rat) from rfl] at HH
  rw [show rootN (q.num * (S : Int) * S / (q.den : Int)).toNat = decN q S from rfl] at HR
  have hn0 : ((n : Int) < 0) = False := eq_false (by omega)
  have hn1 : ((100 : Int) < (n : Int)) = False := eq_false (by omega)
  have hcase : (rootB (sqR q) = false ∧ T (highR q S) = T (((decN q S + 1 : Nat) : Rat) / (S : Rat))) ∨ (rootB (sqR q) = true ∧ ((rootT (sqR q)).toList == (T (lowR q S)).toList) = true ∧ T (highR q S) = T (lowR q S)) ∨ (rootB (sqR q) = true ∧ ((rootT (sqR q)).toList == (T (lowR q S)).toList) = false ∧ T (highR q S) = T (((decN q S + 1 : Nat) : Rat) / (S : Rat))) := by
    unfold highR
    cases hs : sqR q with
    | none => exact .inl ⟨rfl, congrArg T (if_neg (by simp))⟩
    | some r =>
      by_cases he : r = lowR q S
      · refine .inr (.inl ⟨rfl, ?_, congrArg T (if_pos (by rw [he]))⟩)
        show ((T r).toList == (T (lowR q S)).toList) = true
        rw [T_beq, decide_eq_true he]
      · refine .inr (.inr ⟨rfl, ?_, congrArg T (if_neg (fun e => he (Option.some.inj e)))⟩)
        show ((T r).toList == (T (lowR q S)).toList) = false
        rw [T_beq, decide_eq_false he]
  generalize T (highR q S) = HI at *
  generalize T (lowR q S) = L at *
  generalize T (((decN q S + 1 : Nat) : Rat) / (S : Rat)) = N1 at *
  generalize rootB (sqR q) = RB at *
  generalize rootT (sqR q) = RT at *
  generalize iB ((decN q S + 1 : Nat) : Int) = D1 at *
  generalize iB ((decN q S : Nat) : Int) = D0 at *
  generalize iB (q.num * (S : Int) * S / (q.den : Int)) = FZ at *
  generalize iB (q.num * (S : Int) * S) = M2 at *
  generalize iB (q.num * (S : Int)) = M1 at *
  generalize iB (S : Int) = SC at *
  rw [show numB q = iB q.num from rfl, show denB q = iB (q.den : Int) from rfl] at HO HRO
  generalize iB q.num = QN at *
  generalize iB (q.den : Int) = QD at *
  generalize T q = X at *
  have HCA := hide hcase
  clear rq hq hn sq hS hS0 hS1 aS fS b1 b2 fd hd0 hz fz hdl h7 f0 f1 hT hcase hrps
  go_enter Tryz.func69, Tryz.ntmps69
  go_wp2_with fail
  refine HC.out.mono ?_
  rintro e w1 ⟨rfl, hb1⟩
  have HB1 := hide (X0.out.2.2.2.2.trans (hb1.mono X0.out.2.2.2.2.size))
  have G0 := hide (below_blk hb1 X0.out.1 (lt_blk X0.out.1))
  clear hb1 X0
  go_wp2_with fail
  refine (HRP.out _).mono ?_
  rintro e w2 ⟨rfl, hb2⟩
  have G0 := hide (below_blk hb2 G0.out (lt_blk G0.out))
  have HB2 := hide (HB1.out.trans (hb2.mono HB1.out.size))
  clear hb2
  go_wp2_with fail
  refine (HO.out _ (Nat.le_trans hB HB2.out.size) (HT.out.on HB2.out hB)).mono ?_
  rintro e w3 ⟨rfl, hb3⟩
  have X3 := hide (heap1 w3 (rpairO QN QD))
  have E0 := hide (below_blk (hb3.trans (X3.out.2.2.mono hb3.size)) G0.out (lt_blk G0.out))
  have HB4 := hide (HB2.out.trans ((hb3.trans (X3.out.2.2.mono hb3.size)).mono HB2.out.size))
  clear hb3
  go_wp2_with fail
  obtain ⟨W0, hW0⟩ : ∃ W, W = w3.alloc (rpairO QN QD) := ⟨_, rfl⟩
  rw [← hW0] at X3 E0 HB4 ⊢
  have EU := hide X3.out.1
  clear hW0 X3 G0
  obtain ⟨bU, hbU⟩ : ∃ b, b = w3.heap.size := ⟨_, rfl⟩
  rw [← hbU] at EU ⊢
  clear hbU
  have hBW : B ≤ W0.heap.size := Nat.le_trans hB HB4.out.size
  have HTW := HT.out.on HB4.out hB
  have N1c := hide (fun (o : Of (Below W0.heap.size W0)) => cls_call HTW.p10 hBW HM1.out o o.h.size)
  have N2c := hide (fun (o : Of (Below W0.heap.size W0)) => cls_call HTW.p10 hBW HM2.out o o.h.size)
  have N3c := hide (fun (o : Of (Below W0.heap.size W0)) => cls_call HTW.p10 hBW HF.out o o.h.size)
  have N4c := hide (fun (o : Of (Below W0.heap.size W0)) => cls_call HTW.p10 hBW HR.out o o.h.size)
  have hx1 : ∀ x : Of (Below W0.heap.size W0), ∀ o, x.w.cell? ⟨bU, o, none⟩ = W0.cell? ⟨bU, o, none⟩ := fun x o => x.h.cell (p := ⟨bU, o, none⟩) (lt_blk EU.out)
  have c1 := fun o => cell_blk EU.out o
  have kn : Nonempty (Of (Below W0.heap.size W0)) := ⟨⟨_, Below.refl _ _⟩⟩
  clear HTW HM1 HM2 HF HR
  refine region_class (C := Cls (Below W0.heap.size W0)) (by kernel_rfl) (by kernel_rfl) (by kernel_rfl) (Cls.mk (Below.refl _ _).drew) ?_
  repeat (go_big_quiet_step (first | rfl | with_reducible exact N1c.out _ | with_reducible exact N2c.out _ | with_reducible exact N3c.out _ | with_reducible exact N4c.out _))
  refine wpQuiet_nil ?_
  intro w5 hcl
  have hb5 := hcl.out
  have E0 := hide (below_blk hb5 E0.out (lt_blk E0.out))
  have EU := hide (below_blk hb5 EU.out (lt_blk EU.out))
  have HB5 := hide (HB4.out.trans (hb5.mono HB4.out.size))
  clear hcl hb5 hx1 c1 N1c N2c N3c N4c kn hBW
  go_wp2_with fail
  refine (HL.out _ (Nat.le_trans hB HB5.out.size) (HT.out.on HB5.out hB)).mono ?_
  rintro e w6 ⟨rfl, hb6⟩
  have E0 := hide (below_blk hb6 E0.out (lt_blk E0.out))
  have EU := hide (below_blk hb6 EU.out (lt_blk EU.out))
  have HB6 := hide (HB5.out.trans (hb6.mono HB5.out.size))
  clear hb6
  have k0 := cell_blk EU.out 0
  have k1 := cell_blk EU.out 1
  have kl := lt_blk EU.out
  go_wp2_with fail
  refine (HRO.out _ (Nat.le_trans hB HB6.out.size) (HT.out.on HB6.out hB)).mono ?_
  rintro e w7 ⟨rfl, hb7⟩
  have E0 := hide (below_blk hb7 E0.out (lt_blk E0.out))
  have HB7 := hide (HB6.out.trans (hb7.mono HB6.out.size))
  clear hb7 k0 k1 kl EU
  have k0 := cell_blk E0.out 0
  have k1 := cell_blk E0.out 1
  have f0 := froz_blk E0.out 0
  have f1 := froz_blk E0.out 1
  have kl := lt_blk E0.out
  have hend : ∀ (W : World) (b : ByteArray), W.heap[w.heap.size]? = some (rangeO ⟨#[]⟩ ⟨#[]⟩) → Below w.heap.size w W → ∀ a : ByteArray, Below w.heap.size w ((W.setCell ⟨w.heap.size, 0, none⟩ (.string a)).setCell ⟨w.heap.size, 1, none⟩ (.string b)) := fun W b _ hbw a => (hbw.setCell (p := ⟨w.heap.size, 0, none⟩) (Nat.le_refl _) _).setCell (p := ⟨w.heap.size, 1, none⟩) (Nat.le_refl _) _
  have HEND := hide hend
  clear hend
  rcases HCA.out with ⟨rfl, rfl⟩ | ⟨rfl, he, rfl⟩ | ⟨rfl, he, rfl⟩
  rotate_left
  · go_wp2_with fail
    exact exit_range rfl (set2 E0.out _ _).1 rfl rfl rfl ⟨rfl, HEND.out _ _ E0.out HB7.out _⟩
  all_goals
    clear k0 k1 f0 f1 kl
    go_wp2_with fail
    refine (HA.out _ (Nat.le_trans hB HB7.out.size) (HT.out.on HB7.out hB).p10).mono ?_
    rintro e w8 ⟨rfl, hb8⟩
    have E0 := hide (below_blk hb8 E0.out (lt_blk E0.out))
    have HB8 := hide (HB7.out.trans (hb8.mono HB7.out.size))
    clear hb8
    go_wp2_with fail
    refine (HH.out _ (Nat.le_trans hB HB8.out.size) (HT.out.on HB8.out hB)).mono ?_
    rintro e w9 ⟨rfl, hb9⟩
    have E0 := hide (below_blk hb9 E0.out (lt_blk E0.out))
    have HB9 := hide (HB8.out.trans (hb9.mono HB8.out.size))
    clear hb9
    have k0 := cell_blk E0.out 0
    have k1 := cell_blk E0.out 1
    have f0 := froz_blk E0.out 0
    have f1 := froz_blk E0.out 1
    have kl := lt_blk E0.out
    go_wp2_with fail
    exact exit_range rfl (set2 E0.out _ _).1 rfl rfl rfl ⟨rfl, HEND.out _ _ E0.out HB9.out _⟩
end Go.Proofs.YtpmnhipffkhcpaaGreatDoor
