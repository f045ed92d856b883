/-
  Texts of the integers, laid together: Rd, Rh, Ri, Rj, Rk, Rl.
-/
import Derived.Laws.BytesArg
import Derived.Test.YthkioajalhglfaaGreatDoorZ10
namespace Go.KI
open Go
/-- The digits from place lo on, cut at place e. -/
theorem dv_cut (ds : List UInt8) {lo e : Nat} (h : lo ≤ e) (_ : e ≤ ds.length) : dv (ds.drop lo) = dv ((ds.drop lo).take (e - lo)) * 10 ^ (ds.length - e) + dv (ds.drop e) := by
  have h1 : ds.drop lo = (ds.drop lo).take (e - lo) ++ ds.drop e := by
    conv => lhs; rw [← List.take_append_drop (e - lo) (ds.drop lo)]
    rw [List.drop_drop]
    congr 2
    omega
  conv => lhs; rw [h1]
  rw [dv_append, List.length_drop]
theorem dv_take_lt {ds : List UInt8} (hd : ∀ c ∈ ds, isDg c = true) (lo j : Nat) : dv ((ds.drop lo).take j) < 10 ^ j := by
  have h1 := dv_lt ((ds.drop lo).take j) (fun c hc => hd c (List.mem_of_mem_drop (List.mem_of_mem_take hc)))
  exact Nat.lt_of_lt_of_le h1 (Nat.pow_le_pow_right (by omega) (List.length_take_le _ _))
theorem dv_take_succ (ds : List UInt8) {lo j : Nat} (h : lo ≤ j) {c : UInt8} (hc : ds[j]? = some c) : dv ((ds.drop lo).take (j + 1 - lo)) = dv ((ds.drop lo).take (j - lo)) * 10 + (c.toNat - 48) := by
  rw [show j + 1 - lo = (j - lo) + 1 by omega, List.take_add_one, List.getElem?_drop, show lo + (j - lo) = j by omega, hc]
  exact dv_snoc _ _
end Go.KI
namespace Go.Proofs.YthkioajalhglfaaGreatDoor
open Go.RowKit Go.KP Go.KI Go.Shelf
attribute [local go_sem] Oper.semAt_some

theorem exit_rread {R : Ending → World → Prop} {a : Act} {W : World} {b : Nat} {m : Bool} {v : Value} (hb : W.heap[b]? = some (.cells #[.bool m, v] 55 (0, 0)))
    (h2 : a.tmps[2]? = some (.pointer (some ⟨b, 0, none⟩))) (hd : a.defers = []) (hR : R (.returned (numV m v)) W) : bodyPost Tryz.prog Tryz.f45 R .ret a W := by
  have hcell := fun o => cell_blk hb o
  refine bodyPost_ret ?_ hd hR
  simp [results, go_sem, hcell, h2]
/-- What the reference's read returns. -/
def RNum (z : Int) (n : Nat) (w : World) (e : Ending) (w2 : World) : Prop := ∃ (m : Bool) (v : Value) (l : List Nat), e = .returned (numV m v) ∧ Below w.heap.size w w2 ∧ OwnL w.heap.size w2 v l ∧ Norm 1000000 l ∧ valS m (lv 1000000 l) = z ∧ l.length ≤ n
set_option maxRecDepth 100000 in
set_option maxHeartbeats 8000000 in
theorem rread_good (s : ByteArray) (c1 : chkI s.data.toList = 0) (w : World) :
    Calls Tryz.prog 45 #[.string s] w (RNum (valI s.data.toList) 60 w) := by
  obtain ⟨i0, hi0, hz0, hz1, hz2⟩ := info_parts info3
  obtain ⟨mi, hmi⟩ : ∃ mi, mi = decide (s.data.toList.head? = some 45) := ⟨_, rfl⟩
  have HV := hide (valI_S s.data.toList)
  rw [← hmi] at HV
  have hpos := chk_pos c1
  have hlen := (chk_digs c1).2
  rw [bytes_len] at hpos hlen
  have hne : s.data.toList ≠ [] := fun e => by have := bytes_len s; rw [e] at this; simp at this; omega
  obtain ⟨hp, hh⟩ := bytes_head hne
  have hp0 : (0 : Int) < (s.size : Int) := by omega
  have h45 : ((s[0].toNat : Int) == 45) = mi := by
    rw [hmi, hh]
    by_cases h : s[0] = 45
    · rw [h]; rfl
    · have : s[0].toNat ≠ 45 := fun e => h (UInt8.toNat_inj.1 e)
      have h2 : ((s[0].toNat : Int) == 45) = false := by
        simp only [beq_eq_false_iff_ne, ne_eq]
        omega
      rw [h2]
      simp [h]
  have HDG := hide (chk_digs c1).1
  obtain ⟨ds, hds⟩ : ∃ ds, ds = digs s.data.toList := ⟨_, rfl⟩
  have hd := digs_drop s.data.toList
  rw [← hds] at HDG HV hd
  have hdl : ds.length ≤ 300 := by
    have h1 := fits_len.1 (chk_ok c1).2
    have h2 := digs_itoa (valI s.data.toList)
    rw [← (chk_ok c1).1, ← hds] at h2
    rw [h2]
    exact h1
  obtain ⟨t, ht⟩ : ∃ t : ByteArray, t.data.toList = ds := ⟨strB ds, strB_list _⟩
  have htl : t.size = ds.length := by rw [← bytes_len, ht]
  have htT : mi = true → s.extract 1 s.size = t := fun h => by
    rw [h] at hmi
    apply bytes_eq
    rw [ht, hd, if_pos (of_decide_eq_true hmi.symm)]
    simp
    exact List.take_of_length_le (by rw [List.length_tail, bytes_len]; exact Nat.le_refl _)
  have htF : mi = false → s = t := fun h => by
    rw [h] at hmi
    apply bytes_eq
    rw [ht, hd, if_neg (of_decide_eq_false hmi.symm)]
    rfl
  have HTT := hide htT; have HTF := hide htF; have HT := hide ht
  obtain ⟨D, hD⟩ : ∃ D, D = t.size := ⟨_, rfl⟩
  have hDl : D ≤ 300 := by omega
  have HD := hide hD; have HDD := hide (show ds.length = D by omega)
  clear hmi hne hh c1 hd hds hlen hdl ht htl htT htF hpos hD
  go_enter Tryz.func45, Tryz.ntmps45
  cases mi
  · have HST := hide (HTF.out rfl)
    clear HTT HTF
    go_wp2_with fail
    have hst := HST.out
    subst hst
    have HSZ := hide (show s.size = D from HD.out.symm)
    obtain ⟨p0, p1, ps, pb⟩ := heap2 w (.cells #[.bool false, .slice none 0 0] 55) (.cells #[.bool false, .slice none 0 0] 55)
    obtain ⟨w0, hw0⟩ : ∃ w0, (w.alloc (.cells #[.bool false, .slice none 0 0] 55)).alloc (.cells #[.bool false, .slice none 0 0] 55) = w0 := ⟨_, rfl⟩
    rw [hw0] at p0 p1 ps pb ⊢
    have P0 := hide p0; have P1 := hide p1; have PB := hide pb; have PS := hide ps
    clear p0 p1 ps pb hw0 h45
    go_loopw [4] (fun e wr => ∃ k : Nat, e = .int .i64 ((D : Int) - 6 * (k : Int)) ∧ 6 * k ≤ D + 5 ∧ Hid (∃ (v : Value) (L : List Nat), wr.heap[w.heap.size]? = some (.cells #[.bool false, .slice none 0 0] 55 (0, 0)) ∧ wr.heap[w.heap.size + 1]? = some (.cells #[.bool false, v] 55 (0, 0)) ∧ Below w.heap.size w wr ∧ OwnL (w.heap.size + 2) wr v L ∧ L.length = k ∧ Lt 1000000 L ∧ lv 1000000 L = dv (ds.drop (D - 6 * k)))) (fun e _ => (intOf e).toNat)
    case atStart => exact ⟨0, by have := HSZ.out; first | rfl | (congr 1 <;> omega), by omega, .slice none 0 0, [], P0.out, P1.out, PB.out, OwnL.nil _ _, rfl, fun z hz => by simp at hz, by
      rw [List.drop_of_length_le (by have := HDD.out; omega)]; rfl⟩
    case round =>
      obtain ⟨k, rfl, hk6, hin⟩ := hrel
      obtain ⟨v, L, r0, r1, rb, ro, rl, rt, rv⟩ := hin.out
      obtain ⟨va, vc, hvf, hcap, _⟩ := ro.form
      rw [rl] at hvf hcap
      subst hvf
      have hwr : w.heap.size + 2 ≤ wr.heap.size := by
        have h1 := lt_blk r1
        omega
      by_cases hlt : 6 * k < D
      · obtain ⟨E, hE⟩ : ∃ E, E = D - 6 * k := ⟨_, rfl⟩
        have hEi : (D : Int) - 6 * (k : Int) = (E : Int) := by omega
        obtain ⟨lo, hlo⟩ : ∃ lo, lo = E - 6 := ⟨_, rfl⟩
        have hmax : max (0 : Int) ((E : Int) - 6) = (lo : Int) := by omega
        have hE0 : (0 : Int) < (E : Int) := by omega
        have hEl : (E : Int) ≤ 300 := by omega
        rw [hEi]
        have R0 := hide r0; have R1 := hide r1; have RB := hide rb; have RO := hide ro; have RL := hide rl; have RT := hide rt; have RV := hide rv
        have HE := hide hE; have HLO := hide hlo
        have hloE : lo ≤ E := by omega
        have hED : E ≤ D := by omega
        clear r0 r1 rb ro rl rt rv hin hE hlo hEi
        go_wp2_with fail
        clear hmax
        obtain ⟨wo, hwo⟩ : ∃ wo, wo = wr := ⟨_, rfl⟩
        subst hwo
        go_loopw [5, 6] (fun nn i wr2 => ∃ j A : Nat, lo ≤ j ∧ j ≤ E ∧ i = .int .i64 j ∧ nn = .int .i64 A ∧ Hid (A = dv ((ds.drop lo).take (j - lo))) ∧ wr2 = wo) (fun _ i _ => E - (intOf i).toNat)
        case atStart => exact ⟨lo, 0, Nat.le_refl _, hloE, rfl, rfl, by rw [Nat.sub_self]; rfl, rfl⟩
        case round =>
          obtain ⟨j, A, hj1, hj2, rfl, rfl, hA, hww⟩ := hrel
          obtain rfl := hww.symm
          have hAb := dv_take_lt HDG.out lo (j - lo)
          rw [← hA.out] at hAb
          by_cases hlt2 : j < E
          · have hji : (j : Int) < (E : Int) := by omega
            have hj0 : (0 : Int) ≤ (j : Int) := by omega
            have hjt : j < s.size := by have := HD.out; omega
            have hjti : (j : Int) < (s.size : Int) := by omega
            obtain ⟨y, hyv⟩ : ∃ y : Nat, y = (s[j]'hjt).toNat := ⟨_, rfl⟩
            have hyv2 : (s[j]'hjt).toNat = y := hyv.symm
            have hat : ds[j]? = some (s[j]'hjt) := by
              rw [← HT.out]
              have h1 : s.data.toList[j]? = some s.data[j] := by simp
              exact h1
            have hdg := isDg_iff.1 (HDG.out _ (List.mem_of_getElem? hat))
            rw [hyv2] at hdg
            have hnew := dv_take_succ ds hj1 hat
            rw [hyv2, ← hA.out] at hnew
            have hp5 : (10 : Nat) ^ (j - lo) ≤ 10 ^ 5 := Nat.pow_le_pow_right (by omega) (by have := HLO.out; omega)
            have hA5 : A < 100000 := Nat.lt_of_lt_of_le hAb hp5
            have HN := hide hnew.symm
            have y0 : (48 : Int) ≤ (y : Int) := by omega
            have y1 : (y : Int) ≤ 57 := by omega
            have a1 : (A : Int) < 100000 := by omega
            have HC := hide (show 10 * (A : Int) + ((y : Int) - 48) = ((A * 10 + (y - 48) : Nat) : Int) by omega)
            clear hat hyv hdg hnew hA hAb hp5 hA5
            go_wp2_with fail
            go_roundw
            case rel => exact ⟨j + 1, A * 10 + (y - 48), by omega, by omega, by go_num, by rw [← HC.out], HN, trivial⟩
            case measure => simp [intOf]; omega
          · obtain rfl : j = E := by omega
            have hji : ((j : Int) < (j : Int)) = False := eq_false (by omega)
            have hp6 : (10 : Nat) ^ (j - lo) ≤ 10 ^ 6 := Nat.pow_le_pow_right (by omega) (by have := HLO.out; omega)
            have hAl : A < 1000000 := Nat.lt_of_lt_of_le hAb hp6
            have HAL := hide hAl
            have HAE := hide hA.out
            have q1 := cell_blk R1.out 1
            have qf := froz_blk R1.out 1
            have HOW := hide (show (wo.alloc (.cells #[.int .i64 A] 3)).ownsRow (w.heap.size + 2) 3 1 (.slice va k vc) k (icells L) by
              have h := RO.out
              unfold OwnL at h
              rw [RL.out] at h
              exact h.alloc _)
            have HNW := hide (show ∀ j u, ([.int .i64 A] : List Value)[j]? = some u → (wo.alloc (.cells #[.int .i64 A] 3)).cell? ((⟨wo.heap.size, 0, none⟩ : Addr).add j) = some u from World.news_of_block (cs := #[.int .i64 A]) (t := 3) (fr := (0, 0)) (heap_alloc_new wo _))
            clear hA hAb hp6 hAl hlt2
            go_wp2_with (at_builtin; go_must (refine wpList_append_own _ rfl (.tmp 37) (.tmp 39) 46 rfl (w.heap.size + 2) 3 i0 _ 1 8 Tryz.underlying46 hi0 hz0 hz1 hz2 rfl (by decide) (.slice va k vc) _ _ rfl HOW.out ⟨wo.heap.size, 0, none⟩ 1 1 [.int .i64 A] rfl rfl HNW.out (by simp [Value.oneCell']) (by simp only [maxLen]; omega) (by omega) (by simp; omega) ?_); intro v1 w5 hown hg1 hiff; clear hiff; obtain ⟨va1, vc1, hvf⟩ := owns_form hown; subst hvf; have HOW5 := hide hown; have HB5 := hide (show Below (w.heap.size + 2) wo w5 from ((Below.refl (w.heap.size + 2) wo).alloc hwr _).grown hg1 (by simp; omega) (owns_ge RO.out (Nat.le_refl _))); clear hown hg1 q1 qf; have R1' := hide (below_blk HB5.out R1.out (by omega)); have R0' := hide (below_blk HB5.out R0.out (by omega)); have qf := froz_blk R1'.out 1; have qc5 := cell_blk R1'.out 1; have ql := lt_blk R1'.out)
            go_roundw
            case rel =>
              refine ⟨k + 1, by have := HE.out; have := HLO.out; congr 1; omega, by have := HE.out; omega, .slice va1 (k + 1) vc1, L ++ [A], (setCell_other (by omega)).trans R0'.out, ?_, (RB.out.trans (HB5.out.mono (by omega))).setCell (p := ⟨w.heap.size + 1, 1, none⟩) (by simp) _, ?_, by rw [List.length_append, RL.out]; rfl, ?_, ?_⟩
              · have h := R1'.out
                simp only [World.setCell, Array.getElem?_modify, h]
                rfl
              · refine OwnL.other ?_ (p := ⟨w.heap.size + 1, 1, none⟩) (by simp) _
                show World.ownsRow _ _ _ _ _ (L ++ [A]).length (icells (L ++ [A]))
                rw [List.length_append, RL.out, icells_append]
                exact HOW5.out
              · intro z hz
                rcases List.mem_append.1 hz with h | h
                · exact RT.out z h
                · simp only [List.mem_singleton] at h
                  rw [h]
                  exact HAL.out
              · rw [lv_snoc, RL.out, RV.out]
                have h1 := dv_cut ds (lo := lo) (e := j) hj1 (by rw [HDD.out]; exact hED)
                have e1 : D - 6 * (k + 1) = lo := by have := HE.out; have := HLO.out; omega
                have e2 : D - 6 * k = j := HE.out.symm
                have e3 : (1000000 : Nat) ^ k = 10 ^ (ds.length - j) := by
                  rw [show (1000000 : Nat) = 10 ^ 6 by decide, ← Nat.pow_mul]
                  congr 1
                  have := HE.out
                  have := HDD.out
                  omega
                rw [e1, e2, h1, ← HAE.out, e3, Nat.mul_comm A, Nat.add_comm]
            case measure => simp [intOf]; omega
      · have hEi : ((0 : Int) < (D : Int) - 6 * (k : Int)) = False := eq_false (by omega)
        have HT2 := hide (fun W (h : OwnL (w.heap.size + 2) W (.slice va k vc) L) => rtrim_any va vc L W.heap.size W (by rw [rl]; exact h.at_) (by omega) (by omega))
        rw [rl] at HT2
        have HT3 := hide (HT2.out wr ro)
        have q1 := cell_blk r1 1
        have q0 := cell_blk r1 0
        have qf := froz_blk r1 1
        have ql := lt_blk r1
        have z0 := cell_blk r0 0
        have z1 := cell_blk r0 1
        have zf := froz_blk r0 0
        have zg := froz_blk r0 1
        have zl := lt_blk r0
        have R0 := hide r0; have R1 := hide r1; have RB := hide rb; have RO := hide ro; have RL := hide rl; have RT := hide rt; have RV := hide rv
        have hk60 : k ≤ 60 := by omega
        clear r0 r1 rb ro rl rt rv hin HT2
        go_wp2_with fail
        refine HT3.out.mono ?_
        rintro e w1 ⟨rfl, rfl⟩
        go_wp2_with fail
        obtain ⟨Wa, hWa⟩ : ∃ Wa, Wa = wr.setCell ⟨w.heap.size + 1, 1, none⟩ (.slice va (trimTo L k) vc) := ⟨_, rfl⟩
        rw [← hWa]
        have A0 : Wa.heap[w.heap.size]? = some (.cells #[.bool false, .slice none 0 0] 55 (0, 0)) := by rw [hWa]; exact (setCell_other (by omega)).trans R0.out
        have AB : Below w.heap.size w Wa := by rw [hWa]; exact RB.out.setCell (p := ⟨w.heap.size + 1, 1, none⟩) (by simp) _
        have AO : OwnL (w.heap.size + 2) Wa (.slice va k vc) L := by rw [hWa]; exact RO.out.other (p := ⟨w.heap.size + 1, 1, none⟩) (by simp) _
        obtain ⟨s1, s2⟩ := set2 A0 (.bool false) (.slice va (trimTo L k) vc)
        refine exit_rread s1 rfl rfl ?_
        refine ⟨false, _, trimL L, rfl, AB.trans s2, ?_, trimL_norm RT.out, ?_, ?_⟩
        · have h1 := (((AO.other (p := ⟨w.heap.size, 0, none⟩) (by simp) (.bool false)).other (p := ⟨w.heap.size, 1, none⟩) (by simp) (.slice va (trimTo L k) vc)).cut (k := trimTo L k) (by have := trimTo_le L k; rw [RL.out]; exact this)).mono (show w.heap.size ≤ w.heap.size + 2 by omega)
          unfold trimL
          rw [RL.out]
          exact h1
        · rw [trimL_lv, RV.out, show D - 6 * k = 0 by omega, List.drop_zero, HV.out]
        · rw [trimL_len]
          have := trimTo_le L L.length
          have := RL.out
          omega
  · have HST := hide (HTT.out rfl)
    clear HTT HTF
    go_wp2_with fail
    have hst := HST.out
    have hsz : s.size - 1 = D := by
      rw [HD.out, ← hst]
      simp
    rw [hst, hsz]
    clear hst hsz
    have HSZ := hide (show D = D from rfl)
    obtain ⟨p0, p1, ps, pb⟩ := heap2 w (.cells #[.bool false, .slice none 0 0] 55) (.cells #[.bool true, .slice none 0 0] 55)
    obtain ⟨w0, hw0⟩ : ∃ w0, (w.alloc (.cells #[.bool false, .slice none 0 0] 55)).alloc (.cells #[.bool true, .slice none 0 0] 55) = w0 := ⟨_, rfl⟩
    rw [hw0] at p0 p1 ps pb ⊢
    have P0 := hide p0; have P1 := hide p1; have PB := hide pb; have PS := hide ps
    clear p0 p1 ps pb hw0 h45
    go_loopw [4] (fun e wr => ∃ k : Nat, e = .int .i64 ((D : Int) - 6 * (k : Int)) ∧ 6 * k ≤ D + 5 ∧ Hid (∃ (v : Value) (L : List Nat), wr.heap[w.heap.size]? = some (.cells #[.bool false, .slice none 0 0] 55 (0, 0)) ∧ wr.heap[w.heap.size + 1]? = some (.cells #[.bool true, v] 55 (0, 0)) ∧ Below w.heap.size w wr ∧ OwnL (w.heap.size + 2) wr v L ∧ L.length = k ∧ Lt 1000000 L ∧ lv 1000000 L = dv (ds.drop (D - 6 * k)))) (fun e _ => (intOf e).toNat)
    case atStart => exact ⟨0, by have := HSZ.out; first | rfl | (congr 1 <;> omega), by omega, .slice none 0 0, [], P0.out, P1.out, PB.out, OwnL.nil _ _, rfl, fun z hz => by simp at hz, by
      rw [List.drop_of_length_le (by have := HDD.out; omega)]; rfl⟩
    case round =>
      obtain ⟨k, rfl, hk6, hin⟩ := hrel
      obtain ⟨v, L, r0, r1, rb, ro, rl, rt, rv⟩ := hin.out
      obtain ⟨va, vc, hvf, hcap, _⟩ := ro.form
      rw [rl] at hvf hcap
      subst hvf
      have hwr : w.heap.size + 2 ≤ wr.heap.size := by
        have h1 := lt_blk r1
        omega
      by_cases hlt : 6 * k < D
      · obtain ⟨E, hE⟩ : ∃ E, E = D - 6 * k := ⟨_, rfl⟩
        have hEi : (D : Int) - 6 * (k : Int) = (E : Int) := by omega
        obtain ⟨lo, hlo⟩ : ∃ lo, lo = E - 6 := ⟨_, rfl⟩
        have hmax : max (0 : Int) ((E : Int) - 6) = (lo : Int) := by omega
        have hE0 : (0 : Int) < (E : Int) := by omega
        have hEl : (E : Int) ≤ 300 := by omega
        rw [hEi]
        have R0 := hide r0; have R1 := hide r1; have RB := hide rb; have RO := hide ro; have RL := hide rl; have RT := hide rt; have RV := hide rv
        have HE := hide hE; have HLO := hide hlo
        have hloE : lo ≤ E := by omega
        have hED : E ≤ D := by omega
        clear r0 r1 rb ro rl rt rv hin hE hlo hEi
        go_wp2_with fail
        clear hmax
        obtain ⟨wo, hwo⟩ : ∃ wo, wo = wr := ⟨_, rfl⟩
        subst hwo
        go_loopw [5, 6] (fun nn i wr2 => ∃ j A : Nat, lo ≤ j ∧ j ≤ E ∧ i = .int .i64 j ∧ nn = .int .i64 A ∧ Hid (A = dv ((ds.drop lo).take (j - lo))) ∧ wr2 = wo) (fun _ i _ => E - (intOf i).toNat)
        case atStart => exact ⟨lo, 0, Nat.le_refl _, hloE, rfl, rfl, by rw [Nat.sub_self]; rfl, rfl⟩
        case round =>
          obtain ⟨j, A, hj1, hj2, rfl, rfl, hA, hww⟩ := hrel
          obtain rfl := hww.symm
          have hAb := dv_take_lt HDG.out lo (j - lo)
          rw [← hA.out] at hAb
          by_cases hlt2 : j < E
          · have hji : (j : Int) < (E : Int) := by omega
            have hj0 : (0 : Int) ≤ (j : Int) := by omega
            have hjt : j < t.size := by have := HD.out; omega
            have hjti : (j : Int) < (t.size : Int) := by omega
            obtain ⟨y, hyv⟩ : ∃ y : Nat, y = (t[j]'hjt).toNat := ⟨_, rfl⟩
            have hyv2 : (t[j]'hjt).toNat = y := hyv.symm
            have hat : ds[j]? = some (t[j]'hjt) := by
              rw [← HT.out]
              have h1 : t.data.toList[j]? = some t.data[j] := by simp
              exact h1
            have hdg := isDg_iff.1 (HDG.out _ (List.mem_of_getElem? hat))
            rw [hyv2] at hdg
            have hnew := dv_take_succ ds hj1 hat
            rw [hyv2, ← hA.out] at hnew
            have hp5 : (10 : Nat) ^ (j - lo) ≤ 10 ^ 5 := Nat.pow_le_pow_right (by omega) (by have := HLO.out; omega)
            have hA5 : A < 100000 := Nat.lt_of_lt_of_le hAb hp5
            have HN := hide hnew.symm
            have y0 : (48 : Int) ≤ (y : Int) := by omega
            have y1 : (y : Int) ≤ 57 := by omega
            have a1 : (A : Int) < 100000 := by omega
            have HC := hide (show 10 * (A : Int) + ((y : Int) - 48) = ((A * 10 + (y - 48) : Nat) : Int) by omega)
            clear hat hyv hdg hnew hA hAb hp5 hA5
            go_wp2_with fail
            go_roundw
            case rel => exact ⟨j + 1, A * 10 + (y - 48), by omega, by omega, by go_num, by rw [← HC.out], HN, trivial⟩
            case measure => simp [intOf]; omega
          · obtain rfl : j = E := by omega
            have hji : ((j : Int) < (j : Int)) = False := eq_false (by omega)
            have hp6 : (10 : Nat) ^ (j - lo) ≤ 10 ^ 6 := Nat.pow_le_pow_right (by omega) (by have := HLO.out; omega)
            have hAl : A < 1000000 := Nat.lt_of_lt_of_le hAb hp6
            have HAL := hide hAl
            have HAE := hide hA.out
            have q1 := cell_blk R1.out 1
            have qf := froz_blk R1.out 1
            have HOW := hide (show (wo.alloc (.cells #[.int .i64 A] 3)).ownsRow (w.heap.size + 2) 3 1 (.slice va k vc) k (icells L) by
              have h := RO.out
              unfold OwnL at h
              rw [RL.out] at h
              exact h.alloc _)
            have HNW := hide (show ∀ j u, ([.int .i64 A] : List Value)[j]? = some u → (wo.alloc (.cells #[.int .i64 A] 3)).cell? ((⟨wo.heap.size, 0, none⟩ : Addr).add j) = some u from World.news_of_block (cs := #[.int .i64 A]) (t := 3) (fr := (0, 0)) (heap_alloc_new wo _))
            clear hA hAb hp6 hAl hlt2
            go_wp2_with (at_builtin; go_must (refine wpList_append_own _ rfl (.tmp 37) (.tmp 39) 46 rfl (w.heap.size + 2) 3 i0 _ 1 8 Tryz.underlying46 hi0 hz0 hz1 hz2 rfl (by decide) (.slice va k vc) _ _ rfl HOW.out ⟨wo.heap.size, 0, none⟩ 1 1 [.int .i64 A] rfl rfl HNW.out (by simp [Value.oneCell']) (by simp only [maxLen]; omega) (by omega) (by simp; omega) ?_); intro v1 w5 hown hg1 hiff; clear hiff; obtain ⟨va1, vc1, hvf⟩ := owns_form hown; subst hvf; have HOW5 := hide hown; have HB5 := hide (show Below (w.heap.size + 2) wo w5 from ((Below.refl (w.heap.size + 2) wo).alloc hwr _).grown hg1 (by simp; omega) (owns_ge RO.out (Nat.le_refl _))); clear hown hg1 q1 qf; have R1' := hide (below_blk HB5.out R1.out (by omega)); have R0' := hide (below_blk HB5.out R0.out (by omega)); have qf := froz_blk R1'.out 1; have qc5 := cell_blk R1'.out 1; have ql := lt_blk R1'.out)
            go_roundw
            case rel =>
              refine ⟨k + 1, by have := HE.out; have := HLO.out; congr 1; omega, by have := HE.out; omega, .slice va1 (k + 1) vc1, L ++ [A], (setCell_other (by omega)).trans R0'.out, ?_, (RB.out.trans (HB5.out.mono (by omega))).setCell (p := ⟨w.heap.size + 1, 1, none⟩) (by simp) _, ?_, by rw [List.length_append, RL.out]; rfl, ?_, ?_⟩
              · have h := R1'.out
                simp only [World.setCell, Array.getElem?_modify, h]
                rfl
              · refine OwnL.other ?_ (p := ⟨w.heap.size + 1, 1, none⟩) (by simp) _
                show World.ownsRow _ _ _ _ _ (L ++ [A]).length (icells (L ++ [A]))
                rw [List.length_append, RL.out, icells_append]
                exact HOW5.out
              · intro z hz
                rcases List.mem_append.1 hz with h | h
                · exact RT.out z h
                · simp only [List.mem_singleton] at h
                  rw [h]
                  exact HAL.out
              · rw [lv_snoc, RL.out, RV.out]
                have h1 := dv_cut ds (lo := lo) (e := j) hj1 (by rw [HDD.out]; exact hED)
                have e1 : D - 6 * (k + 1) = lo := by have := HE.out; have := HLO.out; omega
                have e2 : D - 6 * k = j := HE.out.symm
                have e3 : (1000000 : Nat) ^ k = 10 ^ (ds.length - j) := by
                  rw [show (1000000 : Nat) = 10 ^ 6 by decide, ← Nat.pow_mul]
                  congr 1
                  have := HE.out
                  have := HDD.out
                  omega
                rw [e1, e2, h1, ← HAE.out, e3, Nat.mul_comm A, Nat.add_comm]
            case measure => simp [intOf]; omega
      · have hEi : ((0 : Int) < (D : Int) - 6 * (k : Int)) = False := eq_false (by omega)
        have HT2 := hide (fun W (h : OwnL (w.heap.size + 2) W (.slice va k vc) L) => rtrim_any va vc L W.heap.size W (by rw [rl]; exact h.at_) (by omega) (by omega))
        rw [rl] at HT2
        have HT3 := hide (HT2.out wr ro)
        have q1 := cell_blk r1 1
        have q0 := cell_blk r1 0
        have qf := froz_blk r1 1
        have ql := lt_blk r1
        have z0 := cell_blk r0 0
        have z1 := cell_blk r0 1
        have zf := froz_blk r0 0
        have zg := froz_blk r0 1
        have zl := lt_blk r0
        have R0 := hide r0; have R1 := hide r1; have RB := hide rb; have RO := hide ro; have RL := hide rl; have RT := hide rt; have RV := hide rv
        have hk60 : k ≤ 60 := by omega
        clear r0 r1 rb ro rl rt rv hin HT2
        go_wp2_with fail
        refine HT3.out.mono ?_
        rintro e w1 ⟨rfl, rfl⟩
        go_wp2_with fail
        obtain ⟨Wa, hWa⟩ : ∃ Wa, Wa = wr.setCell ⟨w.heap.size + 1, 1, none⟩ (.slice va (trimTo L k) vc) := ⟨_, rfl⟩
        rw [← hWa]
        have A0 : Wa.heap[w.heap.size]? = some (.cells #[.bool false, .slice none 0 0] 55 (0, 0)) := by rw [hWa]; exact (setCell_other (by omega)).trans R0.out
        have AB : Below w.heap.size w Wa := by rw [hWa]; exact RB.out.setCell (p := ⟨w.heap.size + 1, 1, none⟩) (by simp) _
        have AO : OwnL (w.heap.size + 2) Wa (.slice va k vc) L := by rw [hWa]; exact RO.out.other (p := ⟨w.heap.size + 1, 1, none⟩) (by simp) _
        obtain ⟨s1, s2⟩ := set2 A0 (.bool true) (.slice va (trimTo L k) vc)
        refine exit_rread s1 rfl rfl ?_
        refine ⟨true, _, trimL L, rfl, AB.trans s2, ?_, trimL_norm RT.out, ?_, ?_⟩
        · have h1 := (((AO.other (p := ⟨w.heap.size, 0, none⟩) (by simp) (.bool true)).other (p := ⟨w.heap.size, 1, none⟩) (by simp) (.slice va (trimTo L k) vc)).cut (k := trimTo L k) (by have := trimTo_le L k; rw [RL.out]; exact this)).mono (show w.heap.size ≤ w.heap.size + 2 by omega)
          unfold trimL
          rw [RL.out]
          exact h1
        · rw [trimL_lv, RV.out, show D - 6 * k = 0 by omega, List.drop_zero, HV.out]
        · rw [trimL_len]
          have := trimTo_le L L.length
          have := RL.out
          omega
end Go.Proofs.YthkioajalhglfaaGreatDoor
namespace Go.Proofs.YthkioajalhglfaaGreatDoor
open Go.RowKit Go.KP Go.KI Go.Shelf
attribute [local go_sem] Oper.semAt_some

theorem exit_rneg {R : Ending → World → Prop} {a : Act} {W : World} {b : Nat} {m : Bool} {v : Value} (hb : W.heap[b]? = some (.cells #[.bool m, v] 55 (0, 0)))
    (h2 : a.tmps[2]? = some (.pointer (some ⟨b, 0, none⟩))) (hd : a.defers = []) (hR : R (.returned (numV m v)) W) : bodyPost Tryz.prog Tryz.f60 R .ret a W := by
  have hcell := fun o => cell_blk hb o
  refine bodyPost_ret ?_ hd hR
  simp [results, go_sem, hcell, h2]
/-- What negative returns: the same limbs, the other sign. -/
def NegRes (z : Int) (v : Value) (l : List Nat) (w : World) (e : Ending) (w2 : World) : Prop := ∃ m : Bool, e = .returned (numV m v) ∧ Below w.heap.size w w2 ∧ valS m (lv 1000000 l) = z
set_option maxRecDepth 100000 in
set_option maxHeartbeats 2000000 in
theorem rnegative_any (m : Bool) (a : Option Addr) (c : Nat) (l : List Nat) (w : World) :
    Calls Tryz.prog 60 #[numV m (.slice a l.length c)] w (NegRes (-valS m (lv 1000000 l)) (.slice a l.length c) l w) := by
  obtain ⟨p0, p1, ps, pb⟩ := heap2 w (.cells #[.bool m, .slice a l.length c] 55) (.cells #[.bool false, .slice none 0 0] 55)
  obtain ⟨w0, hw0⟩ : ∃ w0, (w.alloc (.cells #[.bool m, .slice a l.length c] 55)).alloc (.cells #[.bool false, .slice none 0 0] 55) = w0 := ⟨_, rfl⟩
  rw [hw0] at p0 p1 ps pb
  have P1 := hide p1; have PB := hide pb
  have c0 := cell_blk p0 0
  have c1 := cell_blk p0 1
  have d0 := cell_blk p1 0
  have d1 := cell_blk p1 1
  have f0 := froz_blk p1 0
  have f1 := froz_blk p1 1
  have hlt := lt_blk p1
  by_cases h0 : l = []
  · have hz : valS m (lv 1000000 l) = 0 := by rw [h0]; cases m <;> rfl
    have HZ := hide hz
    have hl0 : ((l.length : Int) == 0) = true := by rw [h0]; rfl
    clear h0 hz pb ps p0 p1
    go_enter Tryz.func60, Tryz.ntmps60
    go_wp2_with fail
    obtain ⟨s1, s2⟩ := set2 P1.out (.bool m) (.slice a l.length c)
    refine exit_rneg s1 rfl rfl ?_
    exact ⟨m, rfl, PB.out.trans (s2.mono (by omega)), by rw [HZ.out]; rfl⟩
  · have hl0 : ((l.length : Int) == 0) = false := by
      have : l.length ≠ 0 := fun h => h0 (List.eq_nil_of_length_eq_zero h)
      simp only [beq_eq_false_iff_ne, ne_eq]
      omega
    clear h0 pb ps p0 p1
    go_enter Tryz.func60, Tryz.ntmps60
    go_wp2_with fail
    obtain ⟨s1, s2⟩ := set2 P1.out (.bool (!m)) (.slice a l.length c)
    refine exit_rneg s1 rfl rfl ?_
    exact ⟨!m, rfl, PB.out.trans (s2.mono (by omega)), valS_not m _⟩
end Go.Proofs.YthkioajalhglfaaGreatDoor
namespace Go.Proofs.YthkioajalhglfaaGreatDoor
open Go.RowKit Go.KP Go.KI Go.Shelf
attribute [local go_sem] Oper.semAt_some

theorem exit_rmul {R : Ending → World → Prop} {a : Act} {W : World} {b : Nat} {m : Bool} {v : Value} (hb : W.heap[b]? = some (.cells #[.bool m, v] 55 (0, 0)))
    (h2 : a.tmps[4]? = some (.pointer (some ⟨b, 0, none⟩))) (hd : a.defers = []) (hR : R (.returned (numV m v)) W) : bodyPost Tryz.prog Tryz.f44 R .ret a W := by
  have hcell := fun o => cell_blk hb o
  refine bodyPost_ret ?_ hd hR
  simp [results, go_sem, hcell, h2]
theorem cell_set2 {w : World} {b b2 o : Nat} {u0 u1 : Value} (h : b ≠ b2) : ((w.setCell ⟨b, 0, none⟩ u0).setCell ⟨b, 1, none⟩ u1).cell? ⟨b2, o, none⟩ = w.cell? ⟨b2, o, none⟩ := by
  have h1 : ((w.setCell ⟨b, 0, none⟩ u0).setCell ⟨b, 1, none⟩ u1).heap[b2]? = w.heap[b2]? := (setCell_other h).trans (setCell_other h)
  simp only [World.cell?, h1]
theorem cell_alloc {w : World} {b2 o : Nat} {ob : Obj} (h : b2 < w.heap.size) : (w.alloc ob).cell? ⟨b2, o, none⟩ = w.cell? ⟨b2, o, none⟩ := by
  have h1 : (w.alloc ob).heap[b2]? = w.heap[b2]? := Below.heap_alloc _ _ _ h
  simp only [World.cell?, h1]
/-- A number in a block of its own. -/
abbrev bigO (m : Bool) (v : Value) : Obj := .cells #[.bool m, v] 55
theorem own_ne_big {base nb : Nat} {W : World} {v u : Value} {m : Bool} {l : List Nat} (h : OwnL base W v l) (hb : W.heap[nb]? = some (bigO m u)) : ∀ r, v.ownBlock = some r → r ≠ nb := by
  intro r hr he
  subst he
  rcases h.2 with ⟨hv, _⟩ | ⟨g, cap, cur, hv, _, hh, _⟩
  · rw [hv] at hr
    cases hr
  · rw [hv] at hr
    injection hr with hr
    subst hr
    rw [hb] at hh
    injection hh with hh
    injection hh with _ ht _
    exact absurd ht (by decide)
theorem mul_zero_z {m1 m2 : Bool} {x y : List Nat} {l : List Nat} (h : lv 1000000 l = lv 1000000 x * lv 1000000 y) (hl : l = []) : valS false (lv 1000000 l) = valS m1 (lv 1000000 x) * valS m2 (lv 1000000 y) := by
  rw [← valS_mul, ← h, hl]
  cases m1 <;> cases m2 <;> rfl
set_option maxRecDepth 100000 in
set_option maxHeartbeats 4000000 in
theorem rmul_any (m1 m2 : Bool) (a1 a2 : Option Addr) (c1 c2 : Nat) (x y : List Nat) (w : World) (ha : LimbAt w.heap.size w (.slice a1 x.length c1) x) (hb : LimbAt w.heap.size w (.slice a2 y.length c2) y) (hx : Lt 1000000 x) (hy : Lt 1000000 y) (lx : x.length ≤ 90000) (ly : y.length ≤ 90000) :
    Calls Tryz.prog 44 #[numV m1 (.slice a1 x.length c1), numV m2 (.slice a2 y.length c2)] w (RNum (valS m1 (lv 1000000 x) * valS m2 (lv 1000000 y)) (x.length + y.length + 1) w) := by
  obtain ⟨b0, b1, b2, hs0, hB0⟩ := heap3 w (bigO m1 (.slice a1 x.length c1)) (bigO m2 (.slice a2 y.length c2)) (bigO false (.slice none 0 0))
  obtain ⟨w0, hw0⟩ : ∃ w0, ((w.alloc (bigO m1 (.slice a1 x.length c1))).alloc (bigO m2 (.slice a2 y.length c2))).alloc (bigO false (.slice none 0 0)) = w0 := ⟨_, rfl⟩
  rw [hw0] at b0 b1 b2 hs0 hB0
  have P0 := hide b0; have P1 := hide b1; have P2 := hide b2; have PB := hide hB0
  have k0 := cell_blk b0 0
  have k1 := cell_blk b0 1
  have k2 := cell_blk b1 0
  have k3 := cell_blk b1 1
  have hsz : w.heap.size + 2 < w0.heap.size := by omega
  have HT := hide (fun W (h : Below w.heap.size w W) => rtimes_any (.slice a1 x.length c1) (.slice a2 y.length c2) x y w.heap.size W (ha.below h (Nat.le_refl _)) (hb.below h (Nat.le_refl _)) h.size hx hy (by omega) (by omega))
  clear ha hb hs0 b0 b1 b2 hB0
  go_enter Tryz.func44, Tryz.ntmps44
  go_wp2_with fail
  have HB1 := hide (show Below w0.heap.size w0 w0.drew from (Below.refl _ _).drew)
  have HB2 := hide (show Below w0.heap.size w0 (w0.drew.alloc (bigO false (.slice none 0 0))) from (Below.refl _ _).drew.alloc (Nat.le_refl _) _)
  have HP2 := hide (show (w0.drew.alloc (bigO false (.slice none 0 0))).heap[w0.heap.size]? = some (bigO false (.slice none 0 0)) from heap_alloc_new w0.drew _)
  go_region_held3 (fun w' => w'.cell? ⟨w.heap.size, 0, none⟩ = some (.bool m1) ∧ w'.cell? ⟨w.heap.size, 1, none⟩ = some (.slice a1 x.length c1) ∧ w'.cell? ⟨w.heap.size + 1, 0, none⟩ = some (.bool m2) ∧ w'.cell? ⟨w.heap.size + 1, 1, none⟩ = some (.slice a2 y.length c2)) (first | exact ⟨k0, k1, k2, k3⟩ | exact ⟨d0, d1, d2, d3⟩ | exact ⟨(cell_set2 (by omega)).trans d0, (cell_set2 (by omega)).trans d1, (cell_set2 (by omega)).trans d2, (cell_set2 (by omega)).trans d3⟩ | exact ⟨(cell_alloc (by omega)).trans d0, (cell_alloc (by omega)).trans d1, (cell_alloc (by omega)).trans d2, (cell_alloc (by omega)).trans d3⟩ | exact ⟨(cell_set2 (by simp; omega)).trans ((cell_alloc (by omega)).trans d0), (cell_set2 (by simp; omega)).trans ((cell_alloc (by omega)).trans d1), (cell_set2 (by simp; omega)).trans ((cell_alloc (by omega)).trans d2), (cell_set2 (by simp; omega)).trans ((cell_alloc (by omega)).trans d3)⟩ | go_keep)
    (first
      | (go_at_call 57
         refine (HT.out (w0.drew.alloc (bigO false (.slice none 0 0))) (PB.out.trans (HB2.out.mono PB.out.size))).mono ?_
         rintro e w1 ⟨l3, ⟨v3, rfl, hb1, o3⟩, n3, q3, k3'⟩
         obtain ⟨av3, cv3, hvf, _, _⟩ := o3.form
         subst hvf
         have E1 := hide (show Below w0.heap.size w0 w1 from HB2.out.trans (hb1.mono HB2.out.size))
         have T1 := hide (below_blk hb1 HP2.out (lt_blk HP2.out))
         have r0 := cell_blk T1.out 0
         have r1 := cell_blk T1.out 1
         have g0 := froz_blk T1.out 0
         have g1 := froz_blk T1.out 1
         have hsl := lt_blk T1.out
         have D0 := hide (below_blk E1.out P0.out (by omega)); have D1 := hide (below_blk E1.out P1.out (by omega)); have D2 := hide (below_blk E1.out P2.out (by omega))
         obtain ⟨d0, d1, d2, d3⟩ : w1.cell? ⟨w.heap.size, 0, none⟩ = some (.bool m1) ∧ w1.cell? ⟨w.heap.size, 1, none⟩ = some (.slice a1 x.length c1) ∧ w1.cell? ⟨w.heap.size + 1, 0, none⟩ = some (.bool m2) ∧ w1.cell? ⟨w.heap.size + 1, 1, none⟩ = some (.slice a2 y.length c2) := ⟨cell_blk D0.out 0, cell_blk D0.out 1, cell_blk D1.out 0, cell_blk D1.out 1⟩
         have hs1 : w0.heap.size ≤ w1.heap.size := E1.out.size
         have O3 := hide o3; have N3 := hide n3; have Q3 := hide q3; have K3 := hide k3'
         clear hb1 o3 n3 q3 k3')
      | (go_at_call 57
         refine (HT.out w0.drew (PB.out.trans (HB1.out.mono PB.out.size))).mono ?_
         rintro e w1 ⟨l3, ⟨v3, rfl, hb1, o3⟩, n3, q3, k3'⟩
         obtain ⟨av3, cv3, hvf, _, _⟩ := o3.form
         subst hvf
         have E1 := hide (show Below w0.heap.size w0 w1 from HB1.out.trans (hb1.mono HB1.out.size))
         have D0 := hide (below_blk E1.out P0.out (by omega)); have D1 := hide (below_blk E1.out P1.out (by omega)); have D2 := hide (below_blk E1.out P2.out (by omega))
         obtain ⟨d0, d1, d2, d3⟩ : w1.cell? ⟨w.heap.size, 0, none⟩ = some (.bool m1) ∧ w1.cell? ⟨w.heap.size, 1, none⟩ = some (.slice a1 x.length c1) ∧ w1.cell? ⟨w.heap.size + 1, 0, none⟩ = some (.bool m2) ∧ w1.cell? ⟨w.heap.size + 1, 1, none⟩ = some (.slice a2 y.length c2) := ⟨cell_blk D0.out 0, cell_blk D0.out 1, cell_blk D1.out 0, cell_blk D1.out 1⟩
         have hs1 : w0.heap.size ≤ w1.heap.size := E1.out.size
         have O3 := hide o3; have N3 := hide n3; have Q3 := hide q3; have K3 := hide k3'
         clear hb1 o3 n3 q3 k3')
      | fail)
  case' _ =>
    have TT := hide (heap_alloc_new w1 (bigO (!(m1 == m2)) (.slice av3 l3.length cv3)))
    have EE := hide (E1.out.alloc hs1 (bigO (!(m1 == m2)) (.slice av3 l3.length cv3)))
    have OO := hide ((O3.out.mono PB.out.size).keep ((Below.refl _ _).alloc (Nat.le_refl _) (bigO (!(m1 == m2)) (.slice av3 l3.length cv3))))
    obtain ⟨W, hW⟩ : ∃ W, w1.alloc (bigO (!(m1 == m2)) (.slice av3 l3.length cv3)) = W := ⟨_, rfl⟩
    rw [hW] at TT EE OO ⊢
    obtain ⟨nb, hnb⟩ : ∃ nb, w1.heap.size = nb := ⟨_, rfl⟩
    rw [hnb] at TT hs1 ⊢
    have hnb0 : w0.heap.size ≤ nb := hs1
  rotate_left
  case' _ =>
    obtain ⟨s1, s2⟩ := set2 T1.out (.bool (!(m1 == m2))) (.slice av3 l3.length cv3)
    have TT := hide s1
    have EE := hide (E1.out.trans s2)
    have OO := hide (((O3.out.other (p := ⟨w0.heap.size, 0, none⟩) (by simp) (.bool (!(m1 == m2)))).other (p := ⟨w0.heap.size, 1, none⟩) (by simp) (.slice av3 l3.length cv3)).mono (show w.heap.size ≤ _ by have := PB.out.size; simp; omega))
    clear r0 r1 g0 g1 T1 s1 s2
    obtain ⟨W, hW⟩ : ∃ W, (w1.setCell ⟨w0.heap.size, 0, none⟩ (.bool (!(m1 == m2)))).setCell ⟨w0.heap.size, 1, none⟩ (.slice av3 l3.length cv3) = W := ⟨_, rfl⟩
    rw [hW] at TT EE OO ⊢
    obtain ⟨nb, hnb⟩ : ∃ nb, w0.heap.size = nb := ⟨_, rfl⟩
    rw [hnb] at TT ⊢
    have hnb0 : w0.heap.size ≤ nb := by omega
  all_goals
    have r0 := cell_blk TT.out 0
    have r1 := cell_blk TT.out 1
    have g0 := froz_blk TT.out 0
    have hsl := lt_blk TT.out
    have RR := hide (below_blk EE.out P2.out (by omega))
    have s0 := cell_blk RR.out 0
    have s1 := cell_blk RR.out 1
    have z0 := froz_blk RR.out 0
    have z1 := froz_blk RR.out 1
    have hsr := lt_blk RR.out
    clear O3 E1 D0 D1 D2 d0 d1 d2 d3 k0 k1 k2 k3 HB1 HB2 HP2 HT hW hnb P0 P1 P2 hw0
    have hne : ¬ w.heap.size + 2 = nb := by omega
    by_cases h0 : l3 = []
    · have hl0 : ((l3.length : Int) == 0) = true := by rw [h0]; rfl
      have HL0 := hide h0
      clear h0
      go_wp2_with fail
      obtain ⟨y1, y2⟩ := set1 TT.out (.bool false)
      have RR2 := (setCell_other (w := W) (k := 0) (v := .bool false) (show nb ≠ w.heap.size + 2 by omega)).trans RR.out
      obtain ⟨y3, y4⟩ := set2 RR2 (.bool false) (.slice av3 l3.length cv3)
      refine exit_rmul y3 rfl rfl ⟨false, _, l3, rfl, ?_, ?_, N3.out, mul_zero_z Q3.out HL0.out, K3.out⟩
      · exact PB.out.trans ((EE.out.trans (y2.mono hnb0)).mono PB.out.size |>.trans (y4.mono (by omega)))
      · exact owns_stay OO.out (fun r hr => by
          have := own_ne_big OO.out TT.out r hr
          have := own_ne_big OO.out RR.out r hr
          rw [setCell_other (by omega), setCell_other (by omega), setCell_other (by omega)])
    · have hl0 : ((l3.length : Int) == 0) = false := by
        have : l3.length ≠ 0 := fun h => h0 (List.eq_nil_of_length_eq_zero h)
        simp only [beq_eq_false_iff_ne, ne_eq]
        omega
      have HL0 := hide h0
      clear h0
      go_wp2_with fail
      obtain ⟨y3, y4⟩ := set2 RR.out (.bool (!(m1 == m2))) (.slice av3 l3.length cv3)
      refine exit_rmul y3 rfl rfl ⟨_, _, l3, rfl, ?_, ?_, N3.out, by rw [Q3.out, valS_mul], K3.out⟩
      · exact PB.out.trans (EE.out.mono PB.out.size |>.trans (y4.mono (by omega)))
      · exact owns_stay OO.out (fun r hr => by
          have := own_ne_big OO.out RR.out r hr
          rw [setCell_other (by omega), setCell_other (by omega)])
end Go.Proofs.YthkioajalhglfaaGreatDoor
namespace Go.Proofs.YthkioajalhglfaaGreatDoor
open Go.RowKit Go.KP Go.KI Go.Shelf
attribute [local go_sem] Oper.semAt_some

theorem exit_radd {R : Ending → World → Prop} {a : Act} {W : World} {b : Nat} {m : Bool} {v : Value} (hb : W.heap[b]? = some (.cells #[.bool m, v] 55 (0, 0)))
    (h2 : a.tmps[4]? = some (.pointer (some ⟨b, 0, none⟩))) (hd : a.defers = []) (hR : R (.returned (numV m v)) W) : bodyPost Tryz.prog Tryz.f51 R .ret a W := by
  have hcell := fun o => cell_blk hb o
  refine bodyPost_ret ?_ hd hR
  simp [results, go_sem, hcell, h2]
set_option maxRecDepth 100000 in
set_option maxHeartbeats 4000000 in
theorem radd_any (m1 m2 : Bool) (a1 a2 : Option Addr) (c1 c2 : Nat) (x y : List Nat) (w : World) (ha : LimbAt w.heap.size w (.slice a1 x.length c1) x) (hb : LimbAt w.heap.size w (.slice a2 y.length c2) y) (hx : Norm 1000000 x) (hy : Norm 1000000 y) (lx : x.length ≤ 90000) (ly : y.length ≤ 90000) :
    Calls Tryz.prog 51 #[numV m1 (.slice a1 x.length c1), numV m2 (.slice a2 y.length c2)] w (RNum (valS m1 (lv 1000000 x) + valS m2 (lv 1000000 y)) (max x.length y.length + 1) w) := by
  obtain ⟨b0, b1, b2, hs0, hB0⟩ := heap3 w (bigO m1 (.slice a1 x.length c1)) (bigO m2 (.slice a2 y.length c2)) (bigO false (.slice none 0 0))
  obtain ⟨w0, hw0⟩ : ∃ w0, ((w.alloc (bigO m1 (.slice a1 x.length c1))).alloc (bigO m2 (.slice a2 y.length c2))).alloc (bigO false (.slice none 0 0)) = w0 := ⟨_, rfl⟩
  rw [hw0] at b0 b1 b2 hs0 hB0
  have P0 := hide b0; have P1 := hide b1; have P2 := hide b2; have PB := hide hB0
  have k0 := cell_blk b0 0
  have k1 := cell_blk b0 1
  have k2 := cell_blk b1 0
  have k3 := cell_blk b1 1
  have hsz : w.heap.size + 2 < w0.heap.size := by omega
  have HA := hide ha; have HB := hide hb; have HX := hide hx; have HY := hide hy
  clear ha hb hx hy hs0 b0 b1 b2 hB0
  by_cases hm : m1 = m2
  · subst hm
    have HT := hide (fun W (h : Below w.heap.size w W) => rplus_any (.slice a1 x.length c1) (.slice a2 y.length c2) x y w.heap.size W (HA.out.below h (Nat.le_refl _)) (HB.out.below h (Nat.le_refl _)) h.size HX.out.lt HY.out.lt (by omega) (by omega))
    have HB1 := hide (show Below w0.heap.size w0 w0.drew from (Below.refl _ _).drew)
    go_enter Tryz.func51, Tryz.ntmps51
    go_wp2_with fail
    go_region_held3 (fun w' => w'.cell? ⟨w.heap.size, 0, none⟩ = some (.bool m1) ∧ w'.cell? ⟨w.heap.size, 1, none⟩ = some (.slice a1 x.length c1) ∧ w'.cell? ⟨w.heap.size + 1, 1, none⟩ = some (.slice a2 y.length c2)) (first | exact ⟨k0, k1, k3⟩ | exact ⟨d0, d1, d3⟩ | exact ⟨(cell_set2 (by omega)).trans d0, (cell_set2 (by omega)).trans d1, (cell_set2 (by omega)).trans d3⟩ | go_keep)
      (first
        | (go_at_call 58
           refine (HT.out w0.drew (PB.out.trans (HB1.out.mono PB.out.size))).mono ?_
           rintro e w1 ⟨l3, ⟨v3, rfl, hb1, o3⟩, n3, q3, k3'⟩
           obtain ⟨av3, cv3, hvf, _, _⟩ := o3.form
           subst hvf
           have E1 := hide (show Below w0.heap.size w0 w1 from HB1.out.trans (hb1.mono HB1.out.size))
           have D0 := hide (below_blk E1.out P0.out (by omega)); have D1 := hide (below_blk E1.out P1.out (by omega)); have D2 := hide (below_blk E1.out P2.out (by omega))
           obtain ⟨d0, d1, d3⟩ : w1.cell? ⟨w.heap.size, 0, none⟩ = some (.bool m1) ∧ w1.cell? ⟨w.heap.size, 1, none⟩ = some (.slice a1 x.length c1) ∧ w1.cell? ⟨w.heap.size + 1, 1, none⟩ = some (.slice a2 y.length c2) := ⟨cell_blk D0.out 0, cell_blk D0.out 1, cell_blk D1.out 1⟩
           have s0 := cell_blk D2.out 0
           have s1 := cell_blk D2.out 1
           have z0 := froz_blk D2.out 0
           have z1 := froz_blk D2.out 1
           have hsr := lt_blk D2.out
           have hs1 : w0.heap.size ≤ w1.heap.size := E1.out.size
           have O3 := hide o3; have N3 := hide n3; have Q3 := hide q3; have K3 := hide k3'
           clear hb1 o3 n3 q3 k3')
        | fail)
    clear k0 k1 k2 k3 d0 d1 d3 s0 s1 z0 z1
    go_wp2_with fail
    obtain ⟨y3, y4⟩ := set2 D2.out (.bool m1) (.slice av3 l3.length cv3)
    refine exit_radd y3 rfl rfl ⟨_, _, l3, rfl, ?_, ?_, N3.out, by rw [Q3.out, valS_add], K3.out⟩
    · exact PB.out.trans (E1.out.mono PB.out.size |>.trans (y4.mono (by omega)))
    · exact owns_stay (O3.out.mono (show w.heap.size ≤ w0.drew.heap.size from PB.out.size)) (fun r hr => by
        have := own_ne_big O3.out D2.out r hr
        rw [setCell_other (by omega), setCell_other (by omega)])
  · obtain rfl : m2 = !m1 := by cases m1 <;> cases m2 <;> simp_all
    have hq : (m1 == !m1) = false := by cases m1 <;> rfl
    have HS := hide (rsize_any (.slice a1 x.length c1) (.slice a2 y.length c2) x y w.heap.size w0 (HA.out.below PB.out (Nat.le_refl _)) (HB.out.below PB.out (Nat.le_refl _)) PB.out.size HX.out HY.out (by omega))
    clear hm
    go_enter Tryz.func51, Tryz.ntmps51
    go_wp2_with fail
    refine HS.out.mono ?_
    rintro e w1 ⟨r, rfl, hr, hb1⟩
    have D0 := hide (below_blk hb1 P0.out (by omega)); have D1 := hide (below_blk hb1 P1.out (by omega)); have D2 := hide (below_blk hb1 P2.out (by omega))
    have E1 := hide (PB.out.trans (hb1.mono PB.out.size))
    have hs1 := hb1.size
    obtain ⟨d0, d1, d2, d3⟩ : w1.cell? ⟨w.heap.size, 0, none⟩ = some (.bool m1) ∧ w1.cell? ⟨w.heap.size, 1, none⟩ = some (.slice a1 x.length c1) ∧ w1.cell? ⟨w.heap.size + 1, 0, none⟩ = some (.bool !m1) ∧ w1.cell? ⟨w.heap.size + 1, 1, none⟩ = some (.slice a2 y.length c2) := ⟨cell_blk D0.out 0, cell_blk D0.out 1, cell_blk D1.out 0, cell_blk D1.out 1⟩
    have f0 := froz_blk D0.out 0
    have f1 := froz_blk D0.out 1
    have f2 := froz_blk D1.out 0
    have f3 := froz_blk D1.out 1
    have hsr := lt_blk D2.out
    clear hb1 HS k0 k1 k2 k3 P0 P1 P2 hw0
    by_cases h0 : 0 ≤ r
    · have hle : lv 1000000 y ≤ lv 1000000 x := by
        have h1 := hr.1
        have h2 : ¬ lv 1000000 x < lv 1000000 y := fun h => by have := h1.2 h; omega
        omega
      have h0' : (r < 0) = False := eq_false (by omega)
      have HLE := hide hle
      clear hr hle hq h0
      go_wp2_with fail
      have HZ := hide (valS_sub m1 HLE.out).symm
      have HT := hide (fun W2 (h : Below w.heap.size w W2) => rminus_any (.slice a1 x.length c1) (.slice a2 y.length c2) x y w.heap.size W2 (HA.out.below h (Nat.le_refl _)) (HB.out.below h (Nat.le_refl _)) h.size HX.out.lt HY.out (by omega) HLE.out)
      have HB1 := hide (show Below w1.heap.size w1 w1.drew from (Below.refl _ _).drew)
      have HB2 := hide (show Below w1.heap.size w1 (w1.drew.alloc (bigO false (.slice none 0 0))) from (Below.refl _ _).drew.alloc (Nat.le_refl _) _)
      have HP2 := hide (show (w1.drew.alloc (bigO false (.slice none 0 0))).heap[w1.heap.size]? = some (bigO false (.slice none 0 0)) from heap_alloc_new w1.drew _)
      go_region_held3 (fun w' => w'.cell? ⟨w.heap.size, 0, none⟩ = some (.bool m1) ∧ w'.cell? ⟨w.heap.size, 1, none⟩ = some (.slice a1 x.length c1) ∧ w'.cell? ⟨w.heap.size + 1, 1, none⟩ = some (.slice a2 y.length c2)) (first | exact ⟨d0, d1, d3⟩ | exact ⟨e0, e1, e3⟩ | exact ⟨(cell_set2 (by omega)).trans e0, (cell_set2 (by omega)).trans e1, (cell_set2 (by omega)).trans e3⟩ | exact ⟨(cell_alloc (by omega)).trans e0, (cell_alloc (by omega)).trans e1, (cell_alloc (by omega)).trans e3⟩ | go_keep)
        (first
          | (go_at_call 80
             refine (HT.out (w1.drew.alloc (bigO false (.slice none 0 0))) (E1.out.trans (HB2.out.mono E1.out.size))).mono ?_
             rintro e w2 ⟨l3, ⟨v3, rfl, hb1, o3⟩, n3, q3, k3'⟩
             obtain ⟨av3, cv3, hvf, _, _⟩ := o3.form
             subst hvf
             have E2 := hide (show Below w1.heap.size w1 w2 from HB2.out.trans (hb1.mono HB2.out.size))
             have T1 := hide (below_blk hb1 HP2.out (lt_blk HP2.out))
             have r0 := cell_blk T1.out 0
             have r1 := cell_blk T1.out 1
             have g0 := froz_blk T1.out 0
             have g1 := froz_blk T1.out 1
             have hsl := lt_blk T1.out
             obtain ⟨e0, e1, e3⟩ : w2.cell? ⟨w.heap.size, 0, none⟩ = some (.bool m1) ∧ w2.cell? ⟨w.heap.size, 1, none⟩ = some (.slice a1 x.length c1) ∧ w2.cell? ⟨w.heap.size + 1, 1, none⟩ = some (.slice a2 y.length c2) := ⟨cell_blk (below_blk E2.out D0.out (by omega)) 0, cell_blk (below_blk E2.out D0.out (by omega)) 1, cell_blk (below_blk E2.out D1.out (by omega)) 1⟩
             have hs2 : w1.heap.size ≤ w2.heap.size := E2.out.size
             have O3 := hide o3; have N3 := hide n3; have Q3 := hide q3; have K3 := hide k3'
             clear hb1 o3 n3 q3 k3')
          | (go_at_call 80
             refine (HT.out w1.drew (E1.out.trans (HB1.out.mono E1.out.size))).mono ?_
             rintro e w2 ⟨l3, ⟨v3, rfl, hb1, o3⟩, n3, q3, k3'⟩
             obtain ⟨av3, cv3, hvf, _, _⟩ := o3.form
             subst hvf
             have E2 := hide (show Below w1.heap.size w1 w2 from HB1.out.trans (hb1.mono HB1.out.size))
             obtain ⟨e0, e1, e3⟩ : w2.cell? ⟨w.heap.size, 0, none⟩ = some (.bool m1) ∧ w2.cell? ⟨w.heap.size, 1, none⟩ = some (.slice a1 x.length c1) ∧ w2.cell? ⟨w.heap.size + 1, 1, none⟩ = some (.slice a2 y.length c2) := ⟨cell_blk (below_blk E2.out D0.out (by omega)) 0, cell_blk (below_blk E2.out D0.out (by omega)) 1, cell_blk (below_blk E2.out D1.out (by omega)) 1⟩
             have hs2 : w1.heap.size ≤ w2.heap.size := E2.out.size
             have O3 := hide o3; have N3 := hide n3; have Q3 := hide q3; have K3 := hide k3'
             clear hb1 o3 n3 q3 k3')
          | fail)
      case' _ =>
        have TT := hide (heap_alloc_new w2 (bigO m1 (.slice av3 l3.length cv3)))
        have EE := hide (E2.out.alloc hs2 (bigO m1 (.slice av3 l3.length cv3)))
        have OO := hide ((O3.out.mono E1.out.size).keep ((Below.refl _ _).alloc (Nat.le_refl _) (bigO m1 (.slice av3 l3.length cv3))))
        obtain ⟨W, hW⟩ : ∃ W, w2.alloc (bigO m1 (.slice av3 l3.length cv3)) = W := ⟨_, rfl⟩
        rw [hW] at TT EE OO ⊢
        obtain ⟨nb, hnb⟩ : ∃ nb, w2.heap.size = nb := ⟨_, rfl⟩
        rw [hnb] at TT hs2 ⊢
        have hnb0 : w1.heap.size ≤ nb := hs2
      rotate_left
      case' _ =>
        obtain ⟨s1, s2⟩ := set2 T1.out (.bool m1) (.slice av3 l3.length cv3)
        have TT := hide s1
        have EE := hide (E2.out.trans s2)
        have OO := hide (((O3.out.other (p := ⟨w1.heap.size, 0, none⟩) (by simp) (.bool m1)).other (p := ⟨w1.heap.size, 1, none⟩) (by simp) (.slice av3 l3.length cv3)).mono (show w.heap.size ≤ _ by have := E1.out.size; simp; omega))
        clear r0 r1 g0 g1 T1 s1 s2
        obtain ⟨W, hW⟩ : ∃ W, (w2.setCell ⟨w1.heap.size, 0, none⟩ (.bool m1)).setCell ⟨w1.heap.size, 1, none⟩ (.slice av3 l3.length cv3) = W := ⟨_, rfl⟩
        rw [hW] at TT EE OO ⊢
        obtain ⟨nb, hnb⟩ : ∃ nb, w1.heap.size = nb := ⟨_, rfl⟩
        rw [hnb] at TT ⊢
        have hnb0 : w1.heap.size ≤ nb := by omega
      all_goals
        have RR := hide (below_blk EE.out D2.out hsr)
        have r0 := cell_blk TT.out 0
        have r1 := cell_blk TT.out 1
        have g0 := froz_blk TT.out 0
        have hsl := lt_blk TT.out
        have s0 := cell_blk RR.out 0
        have s1 := cell_blk RR.out 1
        have z0 := froz_blk RR.out 0
        have z1 := froz_blk RR.out 1
        have hsr2 := lt_blk RR.out
        clear O3 E2 D0 D1 D2 d0 d1 d2 d3 e0 e1 e3 HB1 HB2 HP2 HT hW hnb
        have hne : ¬ w.heap.size + 2 = nb := by omega
        have hz0 : valS m1 (lv 1000000 l3) = valS m1 (lv 1000000 x) + valS (!m1) (lv 1000000 y) := by rw [Q3.out]; exact HZ.out
        have HZ2 := hide hz0
        clear hz0
        by_cases h0 : l3 = []
        · have hl0 : ((l3.length : Int) == 0) = true := by rw [h0]; rfl
          have HL0 := hide (show valS false (lv 1000000 l3) = valS (m1) (lv 1000000 l3) by rw [h0]; cases m1 <;> rfl)
          clear h0
          go_wp2_with fail
          obtain ⟨y1, y2⟩ := set1 TT.out (.bool false)
          have RR2 := (setCell_other (w := W) (k := 0) (v := .bool false) (show nb ≠ w.heap.size + 2 by omega)).trans RR.out
          obtain ⟨y3, y4⟩ := set2 RR2 (.bool false) (.slice av3 l3.length cv3)
          refine exit_radd y3 rfl rfl ⟨false, _, l3, rfl, ?_, ?_, N3.out, HL0.out.trans HZ2.out, by have := K3.out; omega⟩
          · exact E1.out.trans ((EE.out.trans (y2.mono hnb0)).mono E1.out.size |>.trans (y4.mono (by omega)))
          · exact owns_stay OO.out (fun r hr => by
              have := own_ne_big OO.out TT.out r hr
              have := own_ne_big OO.out RR.out r hr
              rw [setCell_other (by omega), setCell_other (by omega), setCell_other (by omega)])
        · have hl0 : ((l3.length : Int) == 0) = false := by
            have : l3.length ≠ 0 := fun h => h0 (List.eq_nil_of_length_eq_zero h)
            simp only [beq_eq_false_iff_ne, ne_eq]
            omega
          clear h0
          go_wp2_with fail
          obtain ⟨y3, y4⟩ := set2 RR.out (.bool m1) (.slice av3 l3.length cv3)
          refine exit_radd y3 rfl rfl ⟨_, _, l3, rfl, ?_, ?_, N3.out, HZ2.out, by have := K3.out; omega⟩
          · exact E1.out.trans (EE.out.mono E1.out.size |>.trans (y4.mono (by omega)))
          · exact owns_stay OO.out (fun r hr => by
              have := own_ne_big OO.out RR.out r hr
              rw [setCell_other (by omega), setCell_other (by omega)])
    · have hle : lv 1000000 x ≤ lv 1000000 y := by
        have h1 := hr.1.1 (by omega)
        omega
      have HLE := hide hle
      have h0' : r < 0 := by omega
      clear hr hle hq h0
      go_wp2_with fail
      have HZ := hide (valS_sub2 m1 HLE.out).symm
      obtain ⟨s1, s2⟩ := set2 D0.out (.bool (!m1)) (.slice a2 y.length c2)
      have D1' := hide ((setCell_other (w := w1.setCell ⟨w.heap.size, 0, none⟩ (.bool (!m1))) (k := 1) (v := .slice a2 y.length c2) (show w.heap.size ≠ w.heap.size + 1 by omega)).trans ((setCell_other (w := w1) (k := 0) (v := .bool (!m1)) (show w.heap.size ≠ w.heap.size + 1 by omega)).trans D1.out))
      have D2' := hide ((setCell_other (w := w1.setCell ⟨w.heap.size, 0, none⟩ (.bool (!m1))) (k := 1) (v := .slice a2 y.length c2) (show w.heap.size ≠ w.heap.size + 2 by omega)).trans ((setCell_other (w := w1) (k := 0) (v := .bool (!m1)) (show w.heap.size ≠ w.heap.size + 2 by omega)).trans D2.out))
      obtain ⟨t1, t2⟩ := set2 D1'.out (.bool m1) (.slice a1 x.length c1)
      have D0 := hide ((setCell_other (k := 1) (v := .slice a1 x.length c1) (show w.heap.size + 1 ≠ w.heap.size by omega)).trans ((setCell_other (k := 0) (v := .bool m1) (show w.heap.size + 1 ≠ w.heap.size by omega)).trans s1))
      have D2 := hide ((setCell_other (k := 1) (v := .slice a1 x.length c1) (show w.heap.size + 1 ≠ w.heap.size + 2 by omega)).trans ((setCell_other (k := 0) (v := .bool m1) (show w.heap.size + 1 ≠ w.heap.size + 2 by omega)).trans D2'.out))
      have D1 := hide t1
      have E1 := hide (E1.out.trans (s2.trans (t2.mono (by omega))))
      clear s1 s2 t1 t2 D1' D2' d0 d1 d2 d3 f0 f1 f2 f3
      obtain ⟨W1, hW1⟩ : ∃ W1, (((w1.setCell ⟨w.heap.size, 0, none⟩ (.bool (!m1))).setCell ⟨w.heap.size, 1, none⟩ (.slice a2 y.length c2)).setCell ⟨w.heap.size + 1, 0, none⟩ (.bool m1)).setCell ⟨w.heap.size + 1, 1, none⟩ (.slice a1 x.length c1) = W1 := ⟨_, rfl⟩
      rw [hW1] at D0 D1 D2 E1 ⊢
      obtain ⟨d0, d1, d2, d3⟩ : W1.cell? ⟨w.heap.size, 0, none⟩ = some (.bool !m1) ∧ W1.cell? ⟨w.heap.size, 1, none⟩ = some (.slice a2 y.length c2) ∧ W1.cell? ⟨w.heap.size + 1, 0, none⟩ = some (.bool m1) ∧ W1.cell? ⟨w.heap.size + 1, 1, none⟩ = some (.slice a1 x.length c1) := ⟨cell_blk D0.out 0, cell_blk D0.out 1, cell_blk D1.out 0, cell_blk D1.out 1⟩
      have hsr := lt_blk D2.out
      clear hW1
      have HT := hide (fun W2 (h : Below w.heap.size w W2) => rminus_any (.slice a2 y.length c2) (.slice a1 x.length c1) y x w.heap.size W2 (HB.out.below h (Nat.le_refl _)) (HA.out.below h (Nat.le_refl _)) h.size HY.out.lt HX.out (by omega) HLE.out)
      have HB1 := hide (show Below W1.heap.size W1 W1.drew from (Below.refl _ _).drew)
      have HB2 := hide (show Below W1.heap.size W1 (W1.drew.alloc (bigO false (.slice none 0 0))) from (Below.refl _ _).drew.alloc (Nat.le_refl _) _)
      have HP2 := hide (show (W1.drew.alloc (bigO false (.slice none 0 0))).heap[W1.heap.size]? = some (bigO false (.slice none 0 0)) from heap_alloc_new W1.drew _)
      go_region_held3 (fun w' => w'.cell? ⟨w.heap.size, 0, none⟩ = some (.bool (!m1)) ∧ w'.cell? ⟨w.heap.size, 1, none⟩ = some (.slice a2 y.length c2) ∧ w'.cell? ⟨w.heap.size + 1, 1, none⟩ = some (.slice a1 x.length c1)) (first | exact ⟨d0, d1, d3⟩ | exact ⟨e0, e1, e3⟩ | exact ⟨(cell_set2 (by omega)).trans e0, (cell_set2 (by omega)).trans e1, (cell_set2 (by omega)).trans e3⟩ | exact ⟨(cell_alloc (by omega)).trans e0, (cell_alloc (by omega)).trans e1, (cell_alloc (by omega)).trans e3⟩ | go_keep)
        (first
          | (go_at_call 80
             refine (HT.out (W1.drew.alloc (bigO false (.slice none 0 0))) (E1.out.trans (HB2.out.mono E1.out.size))).mono ?_
             rintro e w2 ⟨l3, ⟨v3, rfl, hb1, o3⟩, n3, q3, k3'⟩
             obtain ⟨av3, cv3, hvf, _, _⟩ := o3.form
             subst hvf
             have E2 := hide (show Below W1.heap.size W1 w2 from HB2.out.trans (hb1.mono HB2.out.size))
             have T1 := hide (below_blk hb1 HP2.out (lt_blk HP2.out))
             have r0 := cell_blk T1.out 0
             have r1 := cell_blk T1.out 1
             have g0 := froz_blk T1.out 0
             have g1 := froz_blk T1.out 1
             have hsl := lt_blk T1.out
             obtain ⟨e0, e1, e3⟩ : w2.cell? ⟨w.heap.size, 0, none⟩ = some (.bool (!m1)) ∧ w2.cell? ⟨w.heap.size, 1, none⟩ = some (.slice a2 y.length c2) ∧ w2.cell? ⟨w.heap.size + 1, 1, none⟩ = some (.slice a1 x.length c1) := ⟨cell_blk (below_blk E2.out D0.out (by omega)) 0, cell_blk (below_blk E2.out D0.out (by omega)) 1, cell_blk (below_blk E2.out D1.out (by omega)) 1⟩
             have hs2 : W1.heap.size ≤ w2.heap.size := E2.out.size
             have O3 := hide o3; have N3 := hide n3; have Q3 := hide q3; have K3 := hide k3'
             clear hb1 o3 n3 q3 k3')
          | (go_at_call 80
             refine (HT.out W1.drew (E1.out.trans (HB1.out.mono E1.out.size))).mono ?_
             rintro e w2 ⟨l3, ⟨v3, rfl, hb1, o3⟩, n3, q3, k3'⟩
             obtain ⟨av3, cv3, hvf, _, _⟩ := o3.form
             subst hvf
             have E2 := hide (show Below W1.heap.size W1 w2 from HB1.out.trans (hb1.mono HB1.out.size))
             obtain ⟨e0, e1, e3⟩ : w2.cell? ⟨w.heap.size, 0, none⟩ = some (.bool (!m1)) ∧ w2.cell? ⟨w.heap.size, 1, none⟩ = some (.slice a2 y.length c2) ∧ w2.cell? ⟨w.heap.size + 1, 1, none⟩ = some (.slice a1 x.length c1) := ⟨cell_blk (below_blk E2.out D0.out (by omega)) 0, cell_blk (below_blk E2.out D0.out (by omega)) 1, cell_blk (below_blk E2.out D1.out (by omega)) 1⟩
             have hs2 : W1.heap.size ≤ w2.heap.size := E2.out.size
             have O3 := hide o3; have N3 := hide n3; have Q3 := hide q3; have K3 := hide k3'
             clear hb1 o3 n3 q3 k3')
          | fail)
      case' _ =>
        have TT := hide (heap_alloc_new w2 (bigO (!m1) (.slice av3 l3.length cv3)))
        have EE := hide (E2.out.alloc hs2 (bigO (!m1) (.slice av3 l3.length cv3)))
        have OO := hide ((O3.out.mono E1.out.size).keep ((Below.refl _ _).alloc (Nat.le_refl _) (bigO (!m1) (.slice av3 l3.length cv3))))
        obtain ⟨W, hW⟩ : ∃ W, w2.alloc (bigO (!m1) (.slice av3 l3.length cv3)) = W := ⟨_, rfl⟩
        rw [hW] at TT EE OO ⊢
        obtain ⟨nb, hnb⟩ : ∃ nb, w2.heap.size = nb := ⟨_, rfl⟩
        rw [hnb] at TT hs2 ⊢
        have hnb0 : W1.heap.size ≤ nb := hs2
      rotate_left
      case' _ =>
        obtain ⟨s1, s2⟩ := set2 T1.out (.bool (!m1)) (.slice av3 l3.length cv3)
        have TT := hide s1
        have EE := hide (E2.out.trans s2)
        have OO := hide (((O3.out.other (p := ⟨W1.heap.size, 0, none⟩) (by simp) (.bool (!m1))).other (p := ⟨W1.heap.size, 1, none⟩) (by simp) (.slice av3 l3.length cv3)).mono (show w.heap.size ≤ _ by have := E1.out.size; simp; omega))
        clear r0 r1 g0 g1 T1 s1 s2
        obtain ⟨W, hW⟩ : ∃ W, (w2.setCell ⟨W1.heap.size, 0, none⟩ (.bool (!m1))).setCell ⟨W1.heap.size, 1, none⟩ (.slice av3 l3.length cv3) = W := ⟨_, rfl⟩
        rw [hW] at TT EE OO ⊢
        obtain ⟨nb, hnb⟩ : ∃ nb, W1.heap.size = nb := ⟨_, rfl⟩
        rw [hnb] at TT ⊢
        have hnb0 : W1.heap.size ≤ nb := by omega
      all_goals
        have RR := hide (below_blk EE.out D2.out hsr)
        have r0 := cell_blk TT.out 0
        have r1 := cell_blk TT.out 1
        have g0 := froz_blk TT.out 0
        have hsl := lt_blk TT.out
        have s0 := cell_blk RR.out 0
        have s1 := cell_blk RR.out 1
        have z0 := froz_blk RR.out 0
        have z1 := froz_blk RR.out 1
        have hsr2 := lt_blk RR.out
        clear O3 E2 D0 D1 D2 d0 d1 d2 d3 e0 e1 e3 HB1 HB2 HP2 HT hW hnb
        have hne : ¬ w.heap.size + 2 = nb := by omega
        have hz0 : valS (!m1) (lv 1000000 l3) = valS m1 (lv 1000000 x) + valS (!m1) (lv 1000000 y) := by rw [Q3.out]; exact HZ.out
        have HZ2 := hide hz0
        clear hz0
        by_cases h0 : l3 = []
        · have hl0 : ((l3.length : Int) == 0) = true := by rw [h0]; rfl
          have HL0 := hide (show valS false (lv 1000000 l3) = valS ((!m1)) (lv 1000000 l3) by rw [h0]; cases (!m1) <;> rfl)
          clear h0
          go_wp2_with fail
          obtain ⟨y1, y2⟩ := set1 TT.out (.bool false)
          have RR2 := (setCell_other (w := W) (k := 0) (v := .bool false) (show nb ≠ w.heap.size + 2 by omega)).trans RR.out
          obtain ⟨y3, y4⟩ := set2 RR2 (.bool false) (.slice av3 l3.length cv3)
          refine exit_radd y3 rfl rfl ⟨false, _, l3, rfl, ?_, ?_, N3.out, HL0.out.trans HZ2.out, by have := K3.out; omega⟩
          · exact E1.out.trans ((EE.out.trans (y2.mono hnb0)).mono E1.out.size |>.trans (y4.mono (by omega)))
          · exact owns_stay OO.out (fun r hr => by
              have := own_ne_big OO.out TT.out r hr
              have := own_ne_big OO.out RR.out r hr
              rw [setCell_other (by omega), setCell_other (by omega), setCell_other (by omega)])
        · have hl0 : ((l3.length : Int) == 0) = false := by
            have : l3.length ≠ 0 := fun h => h0 (List.eq_nil_of_length_eq_zero h)
            simp only [beq_eq_false_iff_ne, ne_eq]
            omega
          clear h0
          go_wp2_with fail
          obtain ⟨y3, y4⟩ := set2 RR.out (.bool (!m1)) (.slice av3 l3.length cv3)
          refine exit_radd y3 rfl rfl ⟨_, _, l3, rfl, ?_, ?_, N3.out, HZ2.out, by have := K3.out; omega⟩
          · exact E1.out.trans (EE.out.mono E1.out.size |>.trans (y4.mono (by omega)))
          · exact owns_stay OO.out (fun r hr => by
              have := own_ne_big OO.out RR.out r hr
              rw [setCell_other (by omega), setCell_other (by omega)])
end Go.Proofs.YthkioajalhglfaaGreatDoor
namespace Go.KI
open Go
/-- Limb i's digit j: digit 6 i + j of the number. -/
theorem digit_at {l : List Nat} (hl : Lt 1000000 l) {i j : Nat} (hi : i < l.length) (hj : j < 6) : lv 1000000 l / 10 ^ (6 * i + j) % 10 = lat l i / 10 ^ j % 10 := by
  have h := lv_split (b := 1000000) hi
  have hlt := lvT_lt (b := 1000000) (by omega) hl i
  have e : (1000000 : Nat) ^ i = 10 ^ (6 * i) := by rw [show (1000000 : Nat) = 10 ^ 6 by decide, ← Nat.pow_mul]
  rw [e] at h hlt
  rw [Nat.pow_add, ← Nat.div_div_eq_div_mul, h, Nat.add_mul_div_left _ _ (Nat.pow_pos (by omega)), Nat.div_eq_of_lt hlt, Nat.zero_add]
  generalize lv 1000000 (l.drop (i + 1)) = r
  generalize lat l i = x
  rcases (show j = 0 ∨ j = 1 ∨ j = 2 ∨ j = 3 ∨ j = 4 ∨ j = 5 by omega) with h | h | h | h | h | h <;> subst h <;> simp only [Nat.reducePow] <;> omega
theorem dv_cons (c : UInt8) (r : List UInt8) : dv (c :: r) = (c.toNat - 48) * 10 ^ r.length + dv r := by
  have h := dv_append [c] r
  have h2 : dv [c] = c.toNat - 48 := by simp [dv]
  rw [h2] at h
  exact h
theorem drop_set_here {L : List UInt8} {p : Nat} (c : UInt8) (hp : p < L.length) : (L.set p c).drop p = c :: L.drop (p + 1) := by
  rw [List.drop_eq_getElem_cons (by rw [List.length_set]; exact hp)]
  simp [List.drop_set_of_lt]
/-- The state of writing: the last digits stand. -/
structure DigsAt (V done : Nat) (L : List UInt8) : Prop where
  le : done ≤ L.length
  dg : ∀ c ∈ L.drop (L.length - done), isDg c = true
  val : dv (L.drop (L.length - done)) = V % 10 ^ done
theorem DigsAt.start (V : Nat) (L : List UInt8) : DigsAt V 0 L := by
  refine ⟨Nat.zero_le _, ?_, ?_⟩
  · simp
  · simp [dv_nil, Nat.mod_one]
theorem DigsAt.step {V done p d : Nat} {L : List UInt8} (h : DigsAt V done L) (hp : p + done + 1 = L.length) (hd : V / 10 ^ done % 10 = d) : DigsAt V (done + 1) (L.set p (UInt8.ofNat (48 + d))) := by
  have hd10 : d < 10 := by rw [← hd]; exact Nat.mod_lt _ (by omega)
  have e1 : L.length - done = p + 1 := by omega
  have e2 : L.length - (done + 1) = p := by omega
  have h1 := h.dg
  have h2 := h.val
  rw [e1] at h1 h2
  refine ⟨by rw [List.length_set]; omega, ?_, ?_⟩
  · rw [List.length_set, e2, drop_set_here _ (by omega)]
    intro c hc
    rcases List.mem_cons.1 hc with h3 | h3
    · rw [h3, isDg_iff, dg_nat _ hd10]
      omega
    · exact h1 c h3
  · rw [List.length_set, e2, drop_set_here _ (by omega), dv_cons, dg_nat _ hd10, h2, List.length_drop, Nat.pow_succ, Nat.mod_mul, hd, show L.length - (p + 1) = done by omega, show 48 + d - 48 = d by omega, Nat.mul_comm d]
    omega
theorem dv_48 : ∀ l : List UInt8, (∀ c ∈ l, c = 48) → dv l = 0 := by
  intro l
  induction l with
  | nil => intro _; rfl
  | cons c r ih =>
    intro h
    rw [dv_cons, ih (fun c hc => h c (by simp [hc])), h c (by simp)]
    simp
theorem strip_dec {L : List UInt8} {o : Nat} {c : UInt8} (hd : ∀ c ∈ L, isDg c = true) (hz : ∀ c ∈ L.take o, c = 48) (hc : L[o]? = some c) (hne : c ≠ 48) : L.drop o = Lib.decDigits (dv L) := by
  have h1 : dv L = dv (L.drop o) := by
    conv => lhs; rw [← List.take_append_drop o L]
    rw [dv_append, dv_48 _ hz]
    omega
  rw [h1]
  have hlt : o < L.length := (List.getElem?_eq_some_iff.1 hc).1
  have hh : (L.drop o).head? = some c := by rw [List.head?_drop]; exact hc
  refine dec_of (fun e => by rw [e] at hh; simp at hh) (fun c hc => hd c (List.mem_of_mem_drop hc)) (fun _ => by rw [hh]; simpa using hne)
theorem wr_nums {n : Nat} (_ : n < 1000000) : ∃ R Q D : Nat, (n : Int) % 10 = (R : Int) ∧ (n : Int) / 10 = (Q : Int) ∧ IntKind.u8.wrap (48 + (R : Int)) = (D : Int) ∧ D = 48 + R ∧ R = n % 10 ∧ Q = n / 10 ∧ R < 10 := by
  refine ⟨n % 10, n / 10, 48 + n % 10, by omega, by omega, ?_, rfl, rfl, rfl, by omega⟩
  have : n % 10 < 10 := by omega
  generalize n % 10 = r at this ⊢
  rcases (show r = 0 ∨ r = 1 ∨ r = 2 ∨ r = 3 ∨ r = 4 ∨ r = 5 ∨ r = 6 ∨ r = 7 ∨ r = 8 ∨ r = 9 by omega) with h | h | h | h | h | h | h | h | h | h <;> subst h <;> rfl
end Go.KI
namespace Go.Proofs.YthkioajalhglfaaGreatDoor
open Go.RowKit Go.KP Go.KI Go.Shelf
attribute [local go_sem] Oper.semAt_some

/-- A block of bytes. -/
abbrev byteO (L : List UInt8) : Obj := .cells (Lib.byteCells L).toArray 5
theorem byte_cell {w : World} {g : Nat} {L : List UInt8} (h : w.heap[g]? = some (byteO L)) {i : Nat} {c : UInt8} (hi : L[i]? = some c) : w.cell? ⟨g, i, none⟩ = some (.int .u8 c.toNat) := by
  rw [cell_blk h]
  simp [Lib.byteCells, hi]
theorem byte_set {w : World} {g : Nat} {L : List UInt8} (h : w.heap[g]? = some (byteO L)) (k : Nat) (c : UInt8) {v : Nat} (hv : c.toNat = v) : (w.setCell ⟨g, k, none⟩ (.int .u8 v)).heap[g]? = some (byteO (L.set k c)) := by
  subst hv
  simp only [World.setCell, Array.getElem?_modify, h]
  simp [Lib.byteCells, List.map_set]
theorem info5 : (Tryz.prog.info? 5).map (fun i => (i.zero, i.size, i.bytes)) = some (some (.int .u8 0), 1, 1) := by kernel_rfl
theorem make_bytes (n : Nat) (hn : n ≤ 1000000) (W : World) :
    (Instr.makeSlice 89 (.int .i64 (n : Int)) (.int .i64 (n : Int))).run Tryz.prog W = .ok (.slice (some ⟨W.heap.size, 0, none⟩) n n) (W.alloc (byteO (List.replicate n 0))) := by
  obtain ⟨i0, hi0, hz0, hz1, hz2⟩ := info_parts info5
  have hr := run_make (P := Tryz.prog) W 89 5 i0 (.int .u8 0) Tryz.underlying89 hi0 hz0 .i64 .i64 n n (by omega) (Int.le_refl _) (by rw [hz2]; omega) (by omega)
  simp only [Int.toNat_natCast, hz1] at hr
  rw [hr]
  have e : madeCells (Value.int .u8 0).cells (n * 1) = (Lib.byteCells (List.replicate n 0)).toArray := by
    simp [madeCells, Value.cells, Lib.byteCells]
    apply Array.ext
    · simp
    · intro i h1 h2
      simp [Nat.mod_one]
  rw [e]
set_option maxRecDepth 100000 in
set_option maxHeartbeats 8000000 in
theorem rwrite_any (m : Bool) (v : Value) (l : List Nat) (B : Nat) (w : World) (h : LimbAt B w v l) (hB : B ≤ w.heap.size) (hn : Norm 1000000 l) (hl : l.length ≤ 100000) :
    Calls Tryz.prog 52 #[numV m v] w (Ret w (.string (strB (Lib.itoa (valS m (lv 1000000 l)))))) := by
  obtain ⟨a0, c0, hv⟩ := h.form
  subst hv
  have HL := hide h; have HN := hide hn
  clear h hn
  obtain ⟨n, hnn⟩ : ∃ n, n = l.length := ⟨_, rfl⟩
  have HNN := hide hnn
  rw [← hnn] at hl HL ⊢
  clear hnn
  obtain ⟨b0, bs0, bb0⟩ := heap1 w (.cells #[.bool m, .slice a0 n c0] 55)
  have c1' := cell_blk b0 0
  have c2' := cell_blk b0 1
  by_cases h0 : n = 0
  · have hnil : l = [] := List.eq_nil_of_length_eq_zero (HNN.out.symm.trans h0)
    have hq : ((n : Int) == 0) = true := by rw [h0]; rfl
    have HE := hide (show strB (Lib.itoa (valS m (lv 1000000 l))) = ⟨#[48]⟩ by
      rw [hnil, lv_nil]
      cases m <;> exact congrArg strB itoa_zero)
    have BB := hide bb0
    clear h0 hnil b0 bs0 bb0
    go_enter Tryz.func52, Tryz.ntmps52
    go_wp2_with fail
    go_ret
    rw [HE.out]
    exact ⟨rfl, BB.out⟩
  · have hq : ((n : Int) == 0) = false := by simpa using h0
    obtain ⟨N, hN⟩ : ∃ N, N = 6 * n := ⟨_, rfl⟩
    have h6 : 6 * (n : Int) = (N : Int) := by omega
    have hmk := make_bytes N (by omega)
    have hNl : N ≤ 600000 := by omega
    obtain ⟨w1, hw1⟩ : ∃ w1, w.alloc (.cells #[.bool m, .slice a0 n c0] 55) = w1 := ⟨_, rfl⟩
    obtain ⟨d0, ds0, db0⟩ := heap1 w1 (byteO (List.replicate N 0))
    have HW1 := hide hw1
    rw [hw1] at b0 bs0 bb0
    have B0 := hide (below_blk db0 b0 (by omega)); have BB := hide (bb0.trans (db0.mono (by omega))); rw [bs0] at d0; have D0 := hide d0
    have HNE := hide hN
    clear b0 bs0 bb0 d0 ds0 db0 hw1 hN
    go_enter Tryz.func52, Tryz.ntmps52
    go_wp2_with fail
    clear hmk h6 c1' c2'
    have hg1 : w.heap.size + 1 < (w1.alloc (byteO (List.replicate N 0))).heap.size := lt_blk D0.out
    obtain ⟨w2, hw2⟩ : ∃ w2, w1.alloc (byteO (List.replicate N 0)) = w2 := ⟨_, rfl⟩
    rw [HW1.out, hw2]
    rw [hw2] at B0 BB D0 hg1
    obtain ⟨V, hV⟩ : ∃ V, V = lv 1000000 l := ⟨_, rfl⟩
    have HV := hide hV
    have HNE2 := hide h0
    clear hV hw2 h0
    go_loopw [4] (fun i wr => ∃ k : Nat, k ≤ n ∧ i = .int .i64 k ∧ Hid (∃ L : List UInt8, L.length = N ∧ DigsAt V (6 * k) L ∧ wr.heap[w.heap.size + 1]? = some (byteO L) ∧ wr.heap[w.heap.size]? = some (.cells #[.bool m, .slice a0 n c0] 55 (0, 0)) ∧ Below w.heap.size w wr)) (fun i _ => n - (intOf i).toNat)
    case atStart => exact ⟨0, Nat.zero_le _, rfl, _, List.length_replicate, DigsAt.start _ _, D0.out, B0.out, BB.out⟩
    case round =>
      obtain ⟨i, hi, rfl, hin⟩ := hrel
      obtain ⟨L0, hL0, hD0, hg0, hb0, hw0⟩ := hin.out
      have c1 := cell_blk hb0 1
      have c2 := cell_blk hb0 0
      by_cases hlt : i < n
      · have e3 : (i : Int) < (n : Int) := by omega
        have i0 : (0 : Int) ≤ (i : Int) := by omega
        rcases LimbAt.cases (l := l) (HL.out.below hw0 hB) with ⟨_, _, _, hnil⟩ | ⟨b, o, cap, hv, hbb, hcl⟩
        · have := HNN.out
          rw [hnil] at this
          simp at this
          omega
        injection hv with hv1 hv2 hv3
        subst hv1; subst hv3
        have hcell := hcl i (by have := HNN.out; omega)
        have hxi := lat_lt (by omega) HN.out.lt i
        obtain ⟨X, hX⟩ : ∃ X, X = lat l i := ⟨_, rfl⟩
        rw [← hX] at hcell hxi
        have HX := hide hX; have HL0 := hide hL0; have HD0 := hide hD0; have HG0 := hide hg0; have HB0 := hide hb0; have HW0 := hide hw0
        clear hcl hv2 hX hL0 hD0 hg0 hb0 hw0 hin hbb
        obtain ⟨wo, hwo⟩ : ∃ wo, wo = wr := ⟨_, rfl⟩
        subst hwo
        go_wp2_with fail
        clear c1 c2 hcell
        have d1 := cell_blk HB0.out 1
        go_loopw [5, 6] (fun a k wr => ∃ (j A : Nat), j ≤ 6 ∧ k = .int .i64 ((j : Int) + 1) ∧ a = .int .i64 A ∧ A < 1000000 ∧ Hid (A = X / 10 ^ j) ∧ Hid (∃ L : List UInt8, L.length = N ∧ DigsAt V (6 * i + j) L ∧ wr.heap[w.heap.size + 1]? = some (byteO L) ∧ wr.heap[w.heap.size]? = some (.cells #[.bool m, .slice (some ⟨b, o, none⟩) n c0] 55 (0, 0)) ∧ Below w.heap.size w wr)) (fun _ k _ => 7 - (intOf k).toNat)
        case atStart => exact ⟨0, X, by omega, rfl, rfl, hxi, hide (by rw [Nat.pow_zero, Nat.div_one]), L0, HL0.out, HD0.out, HG0.out, HB0.out, HW0.out⟩
        case round =>
          obtain ⟨j, A, hj, rfl, rfl, hAl, hA, hin⟩ := hrel
          obtain ⟨L, hL, hD, hg, hb, hw⟩ := hin.out
          by_cases hlt2 : j < 6
          · have e4 : (j : Int) + 1 ≤ 6 := by omega
            obtain ⟨p, hp⟩ : ∃ p : Nat, p + (6 * i + j) + 1 = N := ⟨N - (6 * i + j) - 1, by have := HNE.out; omega⟩
            have hpi : (N : Int) - 6 * (i : Int) - ((j : Int) + 1) = (p : Int) := by omega
            have hpN : (p : Int) < (N : Int) := by omega
            have hpL : p < L.length := by omega
            obtain ⟨R, Q, Dg, hR, hQ, hDg, hDe, hRe, hQe, hR10⟩ := wr_nums hAl
            have q2 := froz_blk hg p
            have hc0 := byte_cell hg (List.getElem?_eq_getElem hpL)
            have HD := hide hD; have HG := hide hg; have HBB := hide hb; have HW := hide hw; have HP := hide hp; have HL2 := hide hL; have HRE := hide hRe; have HQE := hide hQe; have HDE := hide hDe; have HQI := hide hQ
            have hsz := lt_blk hg
            have hQl : Q < 1000000 := by omega
            clear hD hg hb hw hp hL hin hRe hQe hDe hlt2
            go_wp2_with fail
            go_roundw
            case rel => 
              refine ⟨j + 1, Q, by omega, by first | (congr 1; done) | (congr 1; omega), by first | rfl | rw [HQI.out], hQl, hide ?_, L.set p (UInt8.ofNat (48 + R)), by rw [List.length_set]; exact HL2.out, ?_, ?_, (setCell_other (by omega)).trans HBB.out, ?_⟩
              · rw [HQE.out, hA.out, Nat.pow_succ, Nat.div_div_eq_div_mul]
              · have hd := digit_at HN.out.lt (i := i) (j := j) (by have := HNN.out; omega) (by omega)
                rw [← HV.out, ← HX.out, ← hA.out, ← HRE.out] at hd
                exact HD.out.step (by have := HP.out; have := HL2.out; omega) hd
              · exact byte_set HG.out p _ (by rw [dg_nat _ hR10, HDE.out])
              · exact HW.out.setCell (p := ⟨w.heap.size + 1, p, none⟩) (by simp) _
            case measure => simp [intOf]; omega
          · obtain rfl : j = 6 := by omega
            have HL2 := hide hL; have HD := hide hD; have HG := hide hg; have HBB := hide hb; have HW := hide hw
            clear hL hD hg hb hw hin hlt2
            go_wp2_with fail
            go_roundw
            case rel => exact ⟨i + 1, by omega, by go_num, L, HL2.out, by have := HD.out; rwa [show 6 * i + 6 = 6 * (i + 1) by omega] at this, HG.out, HBB.out, HW.out⟩
            case measure => simp [intOf]; omega
      · obtain rfl : i = n := by omega
        have hki : ((i : Int) < (i : Int)) = False := eq_false (by omega)
        have hN6 : N = 6 * i := HNE.out
        have hfin : (∀ c ∈ L0, isDg c = true) ∧ dv L0 = V := by
          have h1 := hD0.dg
          have h2 := hD0.val
          rw [show L0.length - 6 * i = 0 by omega, List.drop_zero] at h1 h2
          refine ⟨h1, ?_⟩
          rw [h2]
          refine Nat.mod_eq_of_lt ?_
          have h3 := lv_lt HN.out.lt
          rw [← HV.out, show (1000000 : Nat) = 10 ^ 6 by decide, ← Nat.pow_mul, ← HNN.out] at h3
          exact h3
        have hpos : 1 ≤ V := by
          rcases Nat.eq_zero_or_pos V with h | h
          · exfalso
            rw [HV.out] at h
            have := (HN.out.zero (by omega)).1 h
            have := HNN.out
            rename_i h9
            rw [h9] at this
            exact HNE2.out this
          · exact h
        have HF := hide hfin; have HPS := hide hpos; have HL0 := hide hL0; have HG0 := hide hg0; have HB0 := hide hb0; have HW0 := hide hw0
        clear hlt hfin hpos hN6 hL0 hg0 hb0 hw0 hD0 hin
        obtain ⟨wo, hwo⟩ : ∃ wo, wo = wr := ⟨_, rfl⟩
        subst hwo
        go_wp2_with fail
        go_loopw [3] (fun s wr => ∃ o q : Nat, s = .slice (some ⟨w.heap.size + 1, o, none⟩) q q ∧ q ≤ N ∧ Hid (o + q = N) ∧ Hid (∀ c ∈ L0.take o, c = 48) ∧ wr = wo) (fun s _ => match s with | .slice _ n _ => n | _ => 0)
        case atStart => exact ⟨0, N, rfl, Nat.le_refl _, hide (by omega), hide (fun c hc => by simp at hc), rfl⟩
        case round =>
          obtain ⟨o, q, rfl, hqN, hoq, hz, rfl⟩ := hrel
          have hlo : o < N := by
            rcases Nat.lt_or_ge o N with h | h
            · exact h
            · exfalso
              have h1 := dv_48 _ hz.out
              rw [List.take_of_length_le (by rw [HL0.out]; exact h), HF.out.2] at h1
              have := HPS.out
              omega
          obtain ⟨c, hc⟩ : ∃ c, L0[o]? = some c := ⟨_, List.getElem?_eq_getElem (by rw [HL0.out]; exact hlo)⟩
          have hcell := byte_cell HG0.out hc
          have hoq2 := hoq.out
          have hq0 : (0 : Int) < (q : Int) := by omega
          have HC := hide hc; have HOQ := hide hoq2; have HZ := hide hz.out
          clear hc hoq hz hoq2
          by_cases hc48 : c = 48
          · obtain ⟨q', hq'⟩ : ∃ q', q = q' + 1 := ⟨q - 1, by omega⟩
            subst hq'
            have hq1 : (((c.toNat : Nat) : Int) == 48) = true := by rw [hc48]; rfl
            have hz2 : ∀ d ∈ L0.take (o + 1), d = 48 := fun d hd => by
              rw [List.take_add_one, HC.out] at hd
              rcases List.mem_append.1 hd with h | h
              · exact HZ.out d h
              · simp at h
                rw [h, hc48]
            have hq0' : (q' = 0) = False := eq_false (fun h => by
              have h1 := dv_48 _ hz2
              rw [List.take_of_length_le (by rw [HL0.out]; have := HOQ.out; omega), HF.out.2] at h1
              have := HPS.out
              omega)
            have HZ2 := hide hz2
            clear hc48 hlo hz2
            go_wp2_with fail
            refine ⟨⟨o + 1, q', rfl, by omega, hide (by have := HOQ.out; omega), HZ2, trivial⟩, by simp⟩
          · have hq1 : (((c.toNat : Nat) : Int) == 48) = false := by
              have : c.toNat ≠ 48 := fun e => hc48 (UInt8.toNat_inj.1 e)
              simp only [beq_eq_false_iff_ne, ne_eq]
              omega
            have hcv := run_convert_bytes_arg (P := Tryz.prog) wr 89 5 Tryz.underlying89 Tryz.underlying5 (w.heap.size + 1) o q q ((L0.drop o).map fun c => (c.toNat : Int)) (by rw [List.length_map, List.length_drop, HL0.out]; have := HOQ.out; omega) (fun j hj => by
              have hjl : o + j < L0.length := by rw [HL0.out]; have := HOQ.out; omega
              rw [byte_cell HG0.out (List.getElem?_eq_getElem hjl)]
              simp [List.getD, List.getElem?_drop, List.getElem?_eq_getElem hjl]) 9 Tryz.underlying9
            have hst : strOfNums ((L0.drop o).map fun c => (c.toNat : Int)) = strB (Lib.decDigits V) := by
              have h1 := strip_dec HF.out.1 HZ.out HC.out hc48
              rw [← HF.out.2, ← h1]
              apply bytes_eq
              rw [strOfNums_data, strB_list, List.map_map]
              conv => rhs; rw [← List.map_id (L0.drop o)]
              apply List.map_congr_left
              intro a _
              simp
            obtain ⟨t, ht⟩ : ∃ t, t = strB (Lib.decDigits V) := ⟨_, rfl⟩
            rw [hst, ← ht] at hcv
            have htl : t.size ≤ 600000 := by
              rw [ht, ← HF.out.2, ← strip_dec HF.out.1 HZ.out HC.out hc48, strB_size, List.length_drop, HL0.out]
              omega
            have hov : (9223372036854775807 < 1 + t.size) = False := eq_false (by omega)
            have HT := hide ht
            clear hc48 hlo hst ht
            have HIT := hide (fun m' => show Lib.itoa (valS m' (lv 1000000 l)) = (if m' then [45] else []) ++ Lib.decDigits V by rw [← HV.out]; exact valS_itoa HPS.out)
            cases m
            · go_wp2_with fail
              go_ret
              refine ⟨?_, HW0.out⟩
              rw [HIT.out, HT.out]
              rfl
            · go_wp2_with fail
              go_ret
              refine ⟨?_, HW0.out⟩
              rw [HIT.out, HT.out]
              congr 2
end Go.Proofs.YthkioajalhglfaaGreatDoor
namespace Go.Proofs.YthkioajalhglfaaGreatDoor
open Go.RowKit Go.KP Go.KI Go.Shelf
attribute [local go_sem] Oper.semAt_some

theorem itoa_size {m : Bool} {l : List Nat} (h : Lt 1000000 l) (hl : l.length ≤ 100000) : (strB (Lib.itoa (valS m (lv 1000000 l)))).size ≤ 700000 := by
  rw [strB_size]
  have h1 := lv_lt h
  have h2 : (Lib.decDigits (lv 1000000 l)).length ≤ 6 * l.length + 1 := (dec_len_le (by omega)).2 (Nat.lt_of_lt_of_le h1 (by
    rw [show (1000000 : Nat) = 10 ^ 6 by decide, ← Nat.pow_mul]
    exact Nat.pow_le_pow_right (by omega) (by omega)))
  have h3 : (valS m (lv 1000000 l)).natAbs = lv 1000000 l := by cases m <;> simp [valS]
  rcases itoa_cases (valS m (lv 1000000 l)) with ⟨_, h4⟩ | ⟨_, h4⟩
  · rw [h4, List.length_cons, h3]
    omega
  · rw [h4, h3]
    omega
set_option maxRecDepth 100000 in
set_option maxHeartbeats 2000000 in
theorem rresult_any (m : Bool) (v : Value) (l : List Nat) (B : Nat) (w : World) (h : LimbAt B w v l) (hB : B ≤ w.heap.size) (hn : Norm 1000000 l) (hl : l.length ≤ 100000) :
    Calls Tryz.prog 43 #[numV m v] w (Ret w (pairV (resS (valS m (lv 1000000 l))) (resE (valS m (lv 1000000 l))))) := by
  obtain ⟨a0, c0, hv⟩ := h.form
  subst hv
  have HW := hide (fun w2 (hb : Below w.heap.size w w2) => rwrite_any m _ l B w2 (h.below hb hB) (by have := hb.size; omega) hn hl)
  have hsz := itoa_size (m := m) hn.lt hl
  clear h hn
  obtain ⟨n, hnn⟩ : ∃ n, n = l.length := ⟨_, rfl⟩
  rw [← hnn] at hl HW ⊢
  clear hnn
  obtain ⟨z, hz⟩ : ∃ z, z = valS m (lv 1000000 l) := ⟨_, rfl⟩
  rw [← hz] at HW hsz ⊢
  clear hz
  obtain ⟨b0, bs0, bb0⟩ := heap1 w (.cells #[.bool m, .slice a0 n c0] 55)
  have BB := hide bb0
  have c0' := cell_blk b0 0
  have c1' := cell_blk b0 1
  clear b0 bs0 bb0
  have hck := chk_itoa z
  obtain ⟨t, ht⟩ : ∃ t, t = strB (Lib.itoa z) := ⟨_, rfl⟩
  have HC := hide (fun w => rcheck_any t (by rw [ht]; omega) w)
  rw [show t.data.toList = Lib.itoa z by rw [ht, strB_list], hck] at HC
  rw [← ht] at HW
  clear hck hsz
  by_cases hf : fits z
  · have HE := hide (show pairV (resS z) (resE z) = .tuple #[.string t, .int .i64 0] by
      unfold resS resE
      rw [if_pos hf, if_pos hf, ht])
    rw [if_pos hf] at HC
    clear hf ht
    go_enter Tryz.func43, Tryz.ntmps43
    go_wp2_with fail
    refine (HW.out _ BB.out).mono ?_
    rintro e w1 ⟨rfl, hb1⟩
    have HB1 := hide (BB.out.trans (hb1.mono (by have := BB.out.size; omega)))
    clear hb1 HW c0' c1' BB
    go_wp2_with fail
    refine (HC.out _).mono ?_
    rintro e w2 ⟨rfl, hb2⟩
    have HB2 := hide (HB1.out.trans (hb2.mono HB1.out.size))
    clear hb2 HC HB1
    go_wp2_with fail
    refine bodyPost_ret (results_tmp2 rfl _ _ _) rfl ?_
    rw [HE.out]
    exact ⟨rfl, HB2.out⟩
  · have HE := hide (show pairV (resS z) (resE z) = .tuple #[.string ⟨#[]⟩, .int .i64 4] by
      unfold resS resE
      rw [if_neg hf, if_neg hf]
      rfl)
    rw [if_neg hf] at HC
    clear hf ht
    go_enter Tryz.func43, Tryz.ntmps43
    go_wp2_with fail
    refine (HW.out _ BB.out).mono ?_
    rintro e w1 ⟨rfl, hb1⟩
    have HB1 := hide (BB.out.trans (hb1.mono (by have := BB.out.size; omega)))
    clear hb1 HW c0' c1' BB
    go_wp2_with fail
    refine (HC.out _).mono ?_
    rintro e w2 ⟨rfl, hb2⟩
    have HB2 := hide (HB1.out.trans (hb2.mono HB1.out.size))
    clear hb2 HC HB1
    go_wp2_with fail
    refine bodyPost_ret (results_tmp2 rfl _ _ _) rfl ?_
    rw [HE.out]
    exact ⟨rfl, HB2.out⟩
end Go.Proofs.YthkioajalhglfaaGreatDoor
