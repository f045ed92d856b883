/-
  Texts laid together.
-/
import Derived.Test.YtklgpilgalfckaaGreatDoorMJ12
import Derived.Test.YtklgpilgalfckaaGreatDoorMJ5
import Derived.Test.YtklgpilgalfckaaGreatDoorMJ9
import Derived.Laws.BytesArg
set_option maxRecDepth 100000
set_option maxHeartbeats 8000000
namespace Go.KI
open Go
theorem dv_cut (ds : List UInt8) {lo e : Nat} (h : lo ≤ e) (_ : e ≤ ds.length) : dv (ds.drop lo) = dv ((ds.drop lo).take (e - lo)) * 10 ^ (ds.length - e) + dv (ds.drop e) := by
  have h1 : ds.drop lo = (ds.drop lo).take (e - lo) ++ ds.drop e := by
    conv => lhs; rw [← List.take_append_drop (e - lo) (ds.drop lo)]
    rw [List.drop_drop]
    congr 2
    omega
  conv => lhs; rw [h1]
  rw [dv_append, List.length_drop]
theorem dv_take_lt {ds : List UInt8} (hd : ∀ c ∈ ds, isDg c = true) (lo j : Nat) : dv ((ds.drop lo).take j) < 10 ^ j := by
  have h1 := dv_lt ((ds.drop lo).take j) (fun c hc => hd c (List.mem_of_mem_drop (List.mem_of_mem_take hc)))
  exact Nat.lt_of_lt_of_le h1 (Nat.pow_le_pow_right (by omega) (List.length_take_le _ _))
theorem dv_take_succ (ds : List UInt8) {lo j : Nat} (h : lo ≤ j) {c : UInt8} (hc : ds[j]? = some c) : dv ((ds.drop lo).take (j + 1 - lo)) = dv ((ds.drop lo).take (j - lo)) * 10 + (c.toNat - 48) := by
  rw [show j + 1 - lo = (j - lo) + 1 by omega, List.take_add_one, List.getElem?_drop, show lo + (j - lo) = j by omega, hc]
  exact dv_snoc _ _
end Go.KI
namespace Go.Proofs.YtklgpilgalfckaaGreatDoor
open Go.RowKit Go.KP Go.KI Go.Shelf
attribute [local go_sem] Oper.semAt_some

theorem exit_rread {R : Ending → World → Prop} {a : Act} {W : World} {b : Nat} {m : Bool} {v : Value} (hb : W.heap[b]? = some (.cells #[.bool m, v] 222 (0, 0)))
    (h2 : a.tmps[2]? = some (.pointer (some ⟨b, 0, none⟩))) (hd : a.defers = []) (hR : R (.returned (numV m v)) W) : bodyPost Tryz.prog Tryz.f189 R .ret a W := by
  have hcell := fun o => cell_blk hb o
  refine bodyPost_ret ?_ hd hR
  simp [results, go_sem, hcell, h2]
def RNum (z : Int) (n : Nat) (w : World) (e : Ending) (w2 : World) : Prop := ∃ (m : Bool) (v : Value) (l : List Nat), e = .returned (numV m v) ∧ Below w.heap.size w w2 ∧ OwnL w.heap.size w2 v l ∧ Norm 1000000 l ∧ valS m (lv 1000000 l) = z ∧ l.length ≤ n
theorem rread_good (s : ByteArray) (c1 : chkI s.data.toList = 0) (w : World) :
    Calls Tryz.prog 189 #[.string s] w (RNum (valI s.data.toList) 60 w) := by
  obtain ⟨i0, hi0, hz0, hz1, hz2⟩ := info_parts info3
  obtain ⟨mi, hmi⟩ : ∃ mi, mi = decide (s.data.toList.head? = some 45) := ⟨_, rfl⟩
  have HV := hide (valI_S s.data.toList)
  rw [← hmi] at HV
  have hpos := chk_pos c1
  have hlen := (chk_digs c1).2
  rw [bytes_len] at hpos hlen
  have hne : s.data.toList ≠ [] := fun e => by have := bytes_len s; rw [e] at this; simp at this; omega
  obtain ⟨hp, hh⟩ := bytes_head hne
  have hp0 : (0 : Int) < (s.size : Int) := by omega
  have h45 : ((s[0].toNat : Int) == 45) = mi := by
    rw [hmi, hh]
    by_cases h : s[0] = 45
    · rw [h]; rfl
    · have : s[0].toNat ≠ 45 := fun e => h (UInt8.toNat_inj.1 e)
      have h2 : ((s[0].toNat : Int) == 45) = false := by
        simp only [beq_eq_false_iff_ne, ne_eq]
        omega
      rw [h2]
      simp [h]
  have HDG := hide (chk_digs c1).1
  obtain ⟨ds, hds⟩ : ∃ ds, ds = digs s.data.toList := ⟨_, rfl⟩
  have hd := digs_drop s.data.toList
  rw [← hds] at HDG HV hd
  have hdl : ds.length ≤ 300 := by
    have h1 := fits_len.1 (chk_ok c1).2
    have h2 := digs_itoa (valI s.data.toList)
    rw [← (chk_ok c1).1, ← hds] at h2
    rw [h2]
    exact h1
  obtain ⟨t, ht⟩ : ∃ t : ByteArray, t.data.toList = ds := ⟨strB ds, strB_list _⟩
  have htl : t.size = ds.length := by rw [← bytes_len, ht]
  have htT : mi = true → s.extract 1 s.size = t := fun h => by
    rw [h] at hmi
    apply bytes_eq
    rw [ht, hd, if_pos (of_decide_eq_true hmi.symm)]
    simp
    exact List.take_of_length_le (by rw [List.length_tail, bytes_len]; exact Nat.le_refl _)
  have htF : mi = false → s = t := fun h => by
    rw [h] at hmi
    apply bytes_eq
    rw [ht, hd, if_neg (of_decide_eq_false hmi.symm)]
    rfl
  have HTT := hide htT; have HTF := hide htF; have HT := hide ht
  obtain ⟨D, hD⟩ : ∃ D, D = t.size := ⟨_, rfl⟩
  have hDl : D ≤ 300 := by omega
  have HD := hide hD; have HDD := hide (show ds.length = D by omega)
  clear hmi hne hh c1 hd hds hlen hdl ht htl htT htF hpos hD
  go_enter Tryz.func189, Tryz.ntmps189
  cases mi
  · have HST := hide (HTF.out rfl)
    clear HTT HTF
    go_wp2_with fail
    have hst := HST.out
    subst hst
    have HSZ := hide (show s.size = D from HD.out.symm)
    obtain ⟨p0, p1, ps, pb⟩ := heap2 w (.cells #[.bool false, .slice none 0 0] 222) (.cells #[.bool false, .slice none 0 0] 222)
    obtain ⟨w0, hw0⟩ : ∃ w0, (w.alloc (.cells #[.bool false, .slice none 0 0] 222)).alloc (.cells #[.bool false, .slice none 0 0] 222) = w0 := ⟨_, rfl⟩
    rw [hw0] at p0 p1 ps pb ⊢
    have P0 := hide p0; have P1 := hide p1; have PB := hide pb; have PS := hide ps
    clear p0 p1 ps pb hw0 h45
    go_loopw [4] (fun e wr => ∃ k : Nat, e = .int .i64 ((D : Int) - 6 * (k : Int)) ∧ 6 * k ≤ D + 5 ∧ Hid (∃ (v : Value) (L : List Nat), wr.heap[w.heap.size]? = some (.cells #[.bool false, .slice none 0 0] 222 (0, 0)) ∧ wr.heap[w.heap.size + 1]? = some (.cells #[.bool false, v] 222 (0, 0)) ∧ Below w.heap.size w wr ∧ OwnL (w.heap.size + 2) wr v L ∧ L.length = k ∧ Lt 1000000 L ∧ lv 1000000 L = dv (ds.drop (D - 6 * k)))) (fun e _ => (intOf e).toNat)
    case atStart => exact ⟨0, by have := HSZ.out; first | rfl | (congr 1 <;> omega), by omega, .slice none 0 0, [], P0.out, P1.out, PB.out, OwnL.nil _ _, rfl, fun z hz => by simp at hz, by
      rw [List.drop_of_length_le (by have := HDD.out; omega)]; rfl⟩
    case round =>
      obtain ⟨k, rfl, hk6, hin⟩ := hrel
      obtain ⟨v, L, r0, r1, rb, ro, rl, rt, rv⟩ := hin.out
      obtain ⟨va, vc, hvf, hcap, _⟩ := ro.form
      rw [rl] at hvf hcap
      subst hvf
      have hwr : w.heap.size + 2 ≤ wr.heap.size := by
        have h1 := lt_blk r1
        omega
      by_cases hlt : 6 * k < D
      · obtain ⟨E, hE⟩ : ∃ E, E = D - 6 * k := ⟨_, rfl⟩
        have hEi : (D : Int) - 6 * (k : Int) = (E : Int) := by omega
        obtain ⟨lo, hlo⟩ : ∃ lo, lo = E - 6 := ⟨_, rfl⟩
        have hmax : max (0 : Int) ((E : Int) - 6) = (lo : Int) := by omega
        have hE0 : (0 : Int) < (E : Int) := by omega
        have hEl : (E : Int) ≤ 300 := by omega
        rw [hEi]
        have R0 := hide r0; have R1 := hide r1; have RB := hide rb; have RO := hide ro; have RL := hide rl; have RT := hide rt; have RV := hide rv
        have HE := hide hE; have HLO := hide hlo
        have hloE : lo ≤ E := by omega
        have hED : E ≤ D := by omega
        clear r0 r1 rb ro rl rt rv hin hE hlo hEi
        go_wp2_with fail
        clear hmax
        obtain ⟨wo, hwo⟩ : ∃ wo, wo = wr := ⟨_, rfl⟩
        subst hwo
        go_loopw [5, 6] (fun nn i wr2 => ∃ j A : Nat, lo ≤ j ∧ j ≤ E ∧ i = .int .i64 j ∧ nn = .int .i64 A ∧ Hid (A = dv ((ds.drop lo).take (j - lo))) ∧ wr2 = wo) (fun _ i _ => E - (intOf i).toNat)
        case atStart => exact ⟨lo, 0, Nat.le_refl _, hloE, rfl, rfl, by rw [Nat.sub_self]; rfl, rfl⟩
        case round =>
          obtain ⟨j, A, hj1, hj2, rfl, rfl, hA, hww⟩ := hrel
          obtain rfl := hww.symm
          have hAb := dv_take_lt HDG.out lo (j - lo)
          rw [← hA.out] at hAb
          by_cases hlt2 : j < E
          · have hji : (j : Int) < (E : Int) := by omega
            have hj0 : (0 : Int) ≤ (j : Int) := by omega
            have hjt : j < s.size := by have := HD.out; omega
            have hjti : (j : Int) < (s.size : Int) := by omega
            obtain ⟨y, hyv⟩ : ∃ y : Nat, y = (s[j]'hjt).toNat := ⟨_, rfl⟩
            have hyv2 : (s[j]'hjt).toNat = y := hyv.symm
            have hat : ds[j]? = some (s[j]'hjt) := by
              rw [← HT.out]
              have h1 : s.data.toList[j]? = some s.data[j] := by simp
              exact h1
            have hdg := isDg_iff.1 (HDG.out _ (List.mem_of_getElem? hat))
            rw [hyv2] at hdg
            have hnew := dv_take_succ ds hj1 hat
            rw [hyv2, ← hA.out] at hnew
            have hp5 : (10 : Nat) ^ (j - lo) ≤ 10 ^ 5 := Nat.pow_le_pow_right (by omega) (by have := HLO.out; omega)
            have hA5 : A < 100000 := Nat.lt_of_lt_of_le hAb hp5
            have HN := hide hnew.symm
            have y0 : (48 : Int) ≤ (y : Int) := by omega
            have y1 : (y : Int) ≤ 57 := by omega
            have a1 : (A : Int) < 100000 := by omega
            have HC := hide (show 10 * (A : Int) + ((y : Int) - 48) = ((A * 10 + (y - 48) : Nat) : Int) by omega)
            clear hat hyv hdg hnew hA hAb hp5 hA5
            go_wp2_with fail
            go_roundw
            case rel => exact ⟨j + 1, A * 10 + (y - 48), by omega, by omega, by go_num, by rw [← HC.out], HN, trivial⟩
            case measure => simp [intOf]; omega
          · obtain rfl : j = E := by omega
            have hji : ((j : Int) < (j : Int)) = False := eq_false (by omega)
            have hp6 : (10 : Nat) ^ (j - lo) ≤ 10 ^ 6 := Nat.pow_le_pow_right (by omega) (by have := HLO.out; omega)
            have hAl : A < 1000000 := Nat.lt_of_lt_of_le hAb hp6
            have HAL := hide hAl
            have HAE := hide hA.out
            have q1 := cell_blk R1.out 1
            have qf := froz_blk R1.out 1
            have HOW := hide (show (wo.alloc (.cells #[.int .i64 A] 3)).ownsRow (w.heap.size + 2) 3 1 (.slice va k vc) k (icells L) by
              have h := RO.out
              unfold OwnL at h
              rw [RL.out] at h
              exact h.alloc _)
            have HNW := hide (show ∀ j u, ([.int .i64 A] : List Value)[j]? = some u → (wo.alloc (.cells #[.int .i64 A] 3)).cell? ((⟨wo.heap.size, 0, none⟩ : Addr).add j) = some u from World.news_of_block (cs := #[.int .i64 A]) (t := 3) (fr := (0, 0)) (heap_alloc_new wo _))
            clear hA hAb hp6 hAl hlt2
            go_wp2_with (at_builtin; go_must (refine wpList_append_own _ rfl (.tmp 37) (.tmp 39) 199 rfl (w.heap.size + 2) 3 i0 _ 1 8 Tryz.underlying199 hi0 hz0 hz1 hz2 rfl (by decide) (.slice va k vc) _ _ rfl HOW.out ⟨wo.heap.size, 0, none⟩ 1 1 [.int .i64 A] rfl rfl HNW.out (by simp [Value.oneCell']) (by simp only [maxLen]; omega) (by omega) (by simp; omega) ?_); intro v1 w5 hown hg1 hiff; clear hiff; obtain ⟨va1, vc1, hvf⟩ := owns_form hown; subst hvf; have HOW5 := hide hown; have HB5 := hide (show Below (w.heap.size + 2) wo w5 from ((Below.refl (w.heap.size + 2) wo).alloc hwr _).grown hg1 (by simp; omega) (owns_ge RO.out (Nat.le_refl _))); clear hown hg1 q1 qf; have R1' := hide (below_blk HB5.out R1.out (by omega)); have R0' := hide (below_blk HB5.out R0.out (by omega)); have qf := froz_blk R1'.out 1; have qc5 := cell_blk R1'.out 1; have ql := lt_blk R1'.out)
            go_roundw
            case rel =>
              refine ⟨k + 1, by have := HE.out; have := HLO.out; congr 1; omega, by have := HE.out; omega, .slice va1 (k + 1) vc1, L ++ [A], (setCell_other (by omega)).trans R0'.out, ?_, (RB.out.trans (HB5.out.mono (by omega))).setCell (p := ⟨w.heap.size + 1, 1, none⟩) (by simp) _, ?_, by rw [List.length_append, RL.out]; rfl, ?_, ?_⟩
              · have h := R1'.out
                simp only [World.setCell, Array.getElem?_modify, h]
                rfl
              · refine OwnL.other ?_ (p := ⟨w.heap.size + 1, 1, none⟩) (by simp) _
                show World.ownsRow _ _ _ _ _ (L ++ [A]).length (icells (L ++ [A]))
                rw [List.length_append, RL.out, icells_append]
                exact HOW5.out
              · intro z hz
                rcases List.mem_append.1 hz with h | h
                · exact RT.out z h
                · simp only [List.mem_singleton] at h
                  rw [h]
                  exact HAL.out
              · rw [lv_snoc, RL.out, RV.out]
                have h1 := dv_cut ds (lo := lo) (e := j) hj1 (by rw [HDD.out]; exact hED)
                have e1 : D - 6 * (k + 1) = lo := by have := HE.out; have := HLO.out; omega
                have e2 : D - 6 * k = j := HE.out.symm
                have e3 : (1000000 : Nat) ^ k = 10 ^ (ds.length - j) := by
                  rw [show (1000000 : Nat) = 10 ^ 6 by decide, ← Nat.pow_mul]
                  congr 1
                  have := HE.out
                  have := HDD.out
                  omega
                rw [e1, e2, h1, ← HAE.out, e3, Nat.mul_comm A, Nat.add_comm]
            case measure => simp [intOf]; omega
      · have hEi : ((0 : Int) < (D : Int) - 6 * (k : Int)) = False := eq_false (by omega)
        have HT2 := hide (fun W (h : OwnL (w.heap.size + 2) W (.slice va k vc) L) => rtrim_any va vc L W.heap.size W (by rw [rl]; exact h.at_) (by omega) (by omega))
        rw [rl] at HT2
        have HT3 := hide (HT2.out wr ro)
        have q1 := cell_blk r1 1
        have q0 := cell_blk r1 0
        have qf := froz_blk r1 1
        have ql := lt_blk r1
        have z0 := cell_blk r0 0
        have z1 := cell_blk r0 1
        have zf := froz_blk r0 0
        have zg := froz_blk r0 1
        have zl := lt_blk r0
        have R0 := hide r0; have R1 := hide r1; have RB := hide rb; have RO := hide ro; have RL := hide rl; have RT := hide rt; have RV := hide rv
        have hk60 : k ≤ 60 := by omega
        clear r0 r1 rb ro rl rt rv hin HT2
        go_wp2_with fail
        refine HT3.out.mono ?_
        rintro e w1 ⟨rfl, rfl⟩
        go_wp2_with fail
        obtain ⟨Wa, hWa⟩ : ∃ Wa, Wa = wr.setCell ⟨w.heap.size + 1, 1, none⟩ (.slice va (trimTo L k) vc) := ⟨_, rfl⟩
        rw [← hWa]
        have A0 : Wa.heap[w.heap.size]? = some (.cells #[.bool false, .slice none 0 0] 222 (0, 0)) := by rw [hWa]; exact (setCell_other (by omega)).trans R0.out
        have AB : Below w.heap.size w Wa := by rw [hWa]; exact RB.out.setCell (p := ⟨w.heap.size + 1, 1, none⟩) (by simp) _
        have AO : OwnL (w.heap.size + 2) Wa (.slice va k vc) L := by rw [hWa]; exact RO.out.other (p := ⟨w.heap.size + 1, 1, none⟩) (by simp) _
        obtain ⟨s1, s2⟩ := set2 A0 (.bool false) (.slice va (trimTo L k) vc)
        refine exit_rread s1 rfl rfl ?_
        refine ⟨false, _, trimL L, rfl, AB.trans s2, ?_, trimL_norm RT.out, ?_, ?_⟩
        · have h1 := (((AO.other (p := ⟨w.heap.size, 0, none⟩) (by simp) (.bool false)).other (p := ⟨w.heap.size, 1, none⟩) (by simp) (.slice va (trimTo L k) vc)).cut (k := trimTo L k) (by have := trimTo_le L k; rw [RL.out]; exact this)).mono (show w.heap.size ≤ w.heap.size + 2 by omega)
          unfold trimL
          rw [RL.out]
          exact h1
        · rw [trimL_lv, RV.out, show D - 6 * k = 0 by omega, List.drop_zero, HV.out]
        · rw [trimL_len]
          have := trimTo_le L L.length
          have := RL.out
          omega
  · have HST := hide (HTT.out rfl)
    clear HTT HTF
    go_wp2_with fail
    have hst := HST.out
    have hsz : s.size - 1 = D := by
      rw [HD.out, ← hst]
      simp
    rw [hst, hsz]
    clear hst hsz
    have HSZ := hide (show D = D from rfl)
    obtain ⟨p0, p1, ps, pb⟩ := heap2 w (.cells #[.bool false, .slice none 0 0] 222) (.cells #[.bool true, .slice none 0 0] 222)
    obtain ⟨w0, hw0⟩ : ∃ w0, (w.alloc (.cells #[.bool false, .slice none 0 0] 222)).alloc (.cells #[.bool true, .slice none 0 0] 222) = w0 := ⟨_, rfl⟩
    rw [hw0] at p0 p1 ps pb ⊢
    have P0 := hide p0; have P1 := hide p1; have PB := hide pb; have PS := hide ps
    clear p0 p1 ps pb hw0 h45
    go_loopw [4] (fun e wr => ∃ k : Nat, e = .int .i64 ((D : Int) - 6 * (k : Int)) ∧ 6 * k ≤ D + 5 ∧ Hid (∃ (v : Value) (L : List Nat), wr.heap[w.heap.size]? = some (.cells #[.bool false, .slice none 0 0] 222 (0, 0)) ∧ wr.heap[w.heap.size + 1]? = some (.cells #[.bool true, v] 222 (0, 0)) ∧ Below w.heap.size w wr ∧ OwnL (w.heap.size + 2) wr v L ∧ L.length = k ∧ Lt 1000000 L ∧ lv 1000000 L = dv (ds.drop (D - 6 * k)))) (fun e _ => (intOf e).toNat)
    case atStart => exact ⟨0, by have := HSZ.out; first | rfl | (congr 1 <;> omega), by omega, .slice none 0 0, [], P0.out, P1.out, PB.out, OwnL.nil _ _, rfl, fun z hz => by simp at hz, by
      rw [List.drop_of_length_le (by have := HDD.out; omega)]; rfl⟩
    case round =>
      obtain ⟨k, rfl, hk6, hin⟩ := hrel
      obtain ⟨v, L, r0, r1, rb, ro, rl, rt, rv⟩ := hin.out
      obtain ⟨va, vc, hvf, hcap, _⟩ := ro.form
      rw [rl] at hvf hcap
      subst hvf
      have hwr : w.heap.size + 2 ≤ wr.heap.size := by
        have h1 := lt_blk r1
        omega
      by_cases hlt : 6 * k < D
      · obtain ⟨E, hE⟩ : ∃ E, E = D - 6 * k := ⟨_, rfl⟩
        have hEi : (D : Int) - 6 * (k : Int) = (E : Int) := by omega
        obtain ⟨lo, hlo⟩ : ∃ lo, lo = E - 6 := ⟨_, rfl⟩
        have hmax : max (0 : Int) ((E : Int) - 6) = (lo : Int) := by omega
        have hE0 : (0 : Int) < (E : Int) := by omega
        have hEl : (E : Int) ≤ 300 := by omega
        rw [hEi]
        have R0 := hide r0; have R1 := hide r1; have RB := hide rb; have RO := hide ro; have RL := hide rl; have RT := hide rt; have RV := hide rv
        have HE := hide hE; have HLO := hide hlo
        have hloE : lo ≤ E := by omega
        have hED : E ≤ D := by omega
        clear r0 r1 rb ro rl rt rv hin hE hlo hEi
        go_wp2_with fail
        clear hmax
        obtain ⟨wo, hwo⟩ : ∃ wo, wo = wr := ⟨_, rfl⟩
        subst hwo
        go_loopw [5, 6] (fun nn i wr2 => ∃ j A : Nat, lo ≤ j ∧ j ≤ E ∧ i = .int .i64 j ∧ nn = .int .i64 A ∧ Hid (A = dv ((ds.drop lo).take (j - lo))) ∧ wr2 = wo) (fun _ i _ => E - (intOf i).toNat)
        case atStart => exact ⟨lo, 0, Nat.le_refl _, hloE, rfl, rfl, by rw [Nat.sub_self]; rfl, rfl⟩
        case round =>
          obtain ⟨j, A, hj1, hj2, rfl, rfl, hA, hww⟩ := hrel
          obtain rfl := hww.symm
          have hAb := dv_take_lt HDG.out lo (j - lo)
          rw [← hA.out] at hAb
          by_cases hlt2 : j < E
          · have hji : (j : Int) < (E : Int) := by omega
            have hj0 : (0 : Int) ≤ (j : Int) := by omega
            have hjt : j < t.size := by have := HD.out; omega
            have hjti : (j : Int) < (t.size : Int) := by omega
            obtain ⟨y, hyv⟩ : ∃ y : Nat, y = (t[j]'hjt).toNat := ⟨_, rfl⟩
            have hyv2 : (t[j]'hjt).toNat = y := hyv.symm
            have hat : ds[j]? = some (t[j]'hjt) := by
              rw [← HT.out]
              have h1 : t.data.toList[j]? = some t.data[j] := by simp
              exact h1
            have hdg := isDg_iff.1 (HDG.out _ (List.mem_of_getElem? hat))
            rw [hyv2] at hdg
            have hnew := dv_take_succ ds hj1 hat
            rw [hyv2, ← hA.out] at hnew
            have hp5 : (10 : Nat) ^ (j - lo) ≤ 10 ^ 5 := Nat.pow_le_pow_right (by omega) (by have := HLO.out; omega)
            have hA5 : A < 100000 := Nat.lt_of_lt_of_le hAb hp5
            have HN := hide hnew.symm
            have y0 : (48 : Int) ≤ (y : Int) := by omega
            have y1 : (y : Int) ≤ 57 := by omega
            have a1 : (A : Int) < 100000 := by omega
            have HC := hide (show 10 * (A : Int) + ((y : Int) - 48) = ((A * 10 + (y - 48) : Nat) : Int) by omega)
            clear hat hyv hdg hnew hA hAb hp5 hA5
            go_wp2_with fail
            go_roundw
            case rel => exact ⟨j + 1, A * 10 + (y - 48), by omega, by omega, by go_num, by rw [← HC.out], HN, trivial⟩
            case measure => simp [intOf]; omega
          · obtain rfl : j = E := by omega
            have hji : ((j : Int) < (j : Int)) = False := eq_false (by omega)
            have hp6 : (10 : Nat) ^ (j - lo) ≤ 10 ^ 6 := Nat.pow_le_pow_right (by omega) (by have := HLO.out; omega)
            have hAl : A < 1000000 := Nat.lt_of_lt_of_le hAb hp6
            have HAL := hide hAl
            have HAE := hide hA.out
            have q1 := cell_blk R1.out 1
            have qf := froz_blk R1.out 1
            have HOW := hide (show (wo.alloc (.cells #[.int .i64 A] 3)).ownsRow (w.heap.size + 2) 3 1 (.slice va k vc) k (icells L) by
              have h := RO.out
              unfold OwnL at h
              rw [RL.out] at h
              exact h.alloc _)
            have HNW := hide (show ∀ j u, ([.int .i64 A] : List Value)[j]? = some u → (wo.alloc (.cells #[.int .i64 A] 3)).cell? ((⟨wo.heap.size, 0, none⟩ : Addr).add j) = some u from World.news_of_block (cs := #[.int .i64 A]) (t := 3) (fr := (0, 0)) (heap_alloc_new wo _))
            clear hA hAb hp6 hAl hlt2
            go_wp2_with (at_builtin; go_must (refine wpList_append_own _ rfl (.tmp 37) (.tmp 39) 199 rfl (w.heap.size + 2) 3 i0 _ 1 8 Tryz.underlying199 hi0 hz0 hz1 hz2 rfl (by decide) (.slice va k vc) _ _ rfl HOW.out ⟨wo.heap.size, 0, none⟩ 1 1 [.int .i64 A] rfl rfl HNW.out (by simp [Value.oneCell']) (by simp only [maxLen]; omega) (by omega) (by simp; omega) ?_); intro v1 w5 hown hg1 hiff; clear hiff; obtain ⟨va1, vc1, hvf⟩ := owns_form hown; subst hvf; have HOW5 := hide hown; have HB5 := hide (show Below (w.heap.size + 2) wo w5 from ((Below.refl (w.heap.size + 2) wo).alloc hwr _).grown hg1 (by simp; omega) (owns_ge RO.out (Nat.le_refl _))); clear hown hg1 q1 qf; have R1' := hide (below_blk HB5.out R1.out (by omega)); have R0' := hide (below_blk HB5.out R0.out (by omega)); have qf := froz_blk R1'.out 1; have qc5 := cell_blk R1'.out 1; have ql := lt_blk R1'.out)
            go_roundw
            case rel =>
              refine ⟨k + 1, by have := HE.out; have := HLO.out; congr 1; omega, by have := HE.out; omega, .slice va1 (k + 1) vc1, L ++ [A], (setCell_other (by omega)).trans R0'.out, ?_, (RB.out.trans (HB5.out.mono (by omega))).setCell (p := ⟨w.heap.size + 1, 1, none⟩) (by simp) _, ?_, by rw [List.length_append, RL.out]; rfl, ?_, ?_⟩
              · have h := R1'.out
                simp only [World.setCell, Array.getElem?_modify, h]
                rfl
              · refine OwnL.other ?_ (p := ⟨w.heap.size + 1, 1, none⟩) (by simp) _
                show World.ownsRow _ _ _ _ _ (L ++ [A]).length (icells (L ++ [A]))
                rw [List.length_append, RL.out, icells_append]
                exact HOW5.out
              · intro z hz
                rcases List.mem_append.1 hz with h | h
                · exact RT.out z h
                · simp only [List.mem_singleton] at h
                  rw [h]
                  exact HAL.out
              · rw [lv_snoc, RL.out, RV.out]
                have h1 := dv_cut ds (lo := lo) (e := j) hj1 (by rw [HDD.out]; exact hED)
                have e1 : D - 6 * (k + 1) = lo := by have := HE.out; have := HLO.out; omega
                have e2 : D - 6 * k = j := HE.out.symm
                have e3 : (1000000 : Nat) ^ k = 10 ^ (ds.length - j) := by
                  rw [show (1000000 : Nat) = 10 ^ 6 by decide, ← Nat.pow_mul]
                  congr 1
                  have := HE.out
                  have := HDD.out
                  omega
                rw [e1, e2, h1, ← HAE.out, e3, Nat.mul_comm A, Nat.add_comm]
            case measure => simp [intOf]; omega
      · have hEi : ((0 : Int) < (D : Int) - 6 * (k : Int)) = False := eq_false (by omega)
        have HT2 := hide (fun W (h : OwnL (w.heap.size + 2) W (.slice va k vc) L) => rtrim_any va vc L W.heap.size W (by rw [rl]; exact h.at_) (by omega) (by omega))
        rw [rl] at HT2
        have HT3 := hide (HT2.out wr ro)
        have q1 := cell_blk r1 1
        have q0 := cell_blk r1 0
        have qf := froz_blk r1 1
        have ql := lt_blk r1
        have z0 := cell_blk r0 0
        have z1 := cell_blk r0 1
        have zf := froz_blk r0 0
        have zg := froz_blk r0 1
        have zl := lt_blk r0
        have R0 := hide r0; have R1 := hide r1; have RB := hide rb; have RO := hide ro; have RL := hide rl; have RT := hide rt; have RV := hide rv
        have hk60 : k ≤ 60 := by omega
        clear r0 r1 rb ro rl rt rv hin HT2
        go_wp2_with fail
        refine HT3.out.mono ?_
        rintro e w1 ⟨rfl, rfl⟩
        go_wp2_with fail
        obtain ⟨Wa, hWa⟩ : ∃ Wa, Wa = wr.setCell ⟨w.heap.size + 1, 1, none⟩ (.slice va (trimTo L k) vc) := ⟨_, rfl⟩
        rw [← hWa]
        have A0 : Wa.heap[w.heap.size]? = some (.cells #[.bool false, .slice none 0 0] 222 (0, 0)) := by rw [hWa]; exact (setCell_other (by omega)).trans R0.out
        have AB : Below w.heap.size w Wa := by rw [hWa]; exact RB.out.setCell (p := ⟨w.heap.size + 1, 1, none⟩) (by simp) _
        have AO : OwnL (w.heap.size + 2) Wa (.slice va k vc) L := by rw [hWa]; exact RO.out.other (p := ⟨w.heap.size + 1, 1, none⟩) (by simp) _
        obtain ⟨s1, s2⟩ := set2 A0 (.bool true) (.slice va (trimTo L k) vc)
        refine exit_rread s1 rfl rfl ?_
        refine ⟨true, _, trimL L, rfl, AB.trans s2, ?_, trimL_norm RT.out, ?_, ?_⟩
        · have h1 := (((AO.other (p := ⟨w.heap.size, 0, none⟩) (by simp) (.bool true)).other (p := ⟨w.heap.size, 1, none⟩) (by simp) (.slice va (trimTo L k) vc)).cut (k := trimTo L k) (by have := trimTo_le L k; rw [RL.out]; exact this)).mono (show w.heap.size ≤ w.heap.size + 2 by omega)
          unfold trimL
          rw [RL.out]
          exact h1
        · rw [trimL_lv, RV.out, show D - 6 * k = 0 by omega, List.drop_zero, HV.out]
        · rw [trimL_len]
          have := trimTo_le L L.length
          have := RL.out
          omega
end Go.Proofs.YtklgpilgalfckaaGreatDoor
namespace Go.KI
open Go
theorem digit_at {l : List Nat} (hl : Lt 1000000 l) {i j : Nat} (hi : i < l.length) (hj : j < 6) : lv 1000000 l / 10 ^ (6 * i + j) % 10 = lat l i / 10 ^ j % 10 := by
  have h := lv_split (b := 1000000) hi
  have hlt := lvT_lt (b := 1000000) (by omega) hl i
  have e : (1000000 : Nat) ^ i = 10 ^ (6 * i) := by rw [show (1000000 : Nat) = 10 ^ 6 by decide, ← Nat.pow_mul]
  rw [e] at h hlt
  rw [Nat.pow_add, ← Nat.div_div_eq_div_mul, h, Nat.add_mul_div_left _ _ (Nat.pow_pos (by omega)), Nat.div_eq_of_lt hlt, Nat.zero_add]
  generalize lv 1000000 (l.drop (i + 1)) = r
  generalize lat l i = x
  rcases (show j = 0 ∨ j = 1 ∨ j = 2 ∨ j = 3 ∨ j = 4 ∨ j = 5 by omega) with h | h | h | h | h | h <;> subst h <;> simp only [Nat.reducePow] <;> omega
theorem dv_cons (c : UInt8) (r : List UInt8) : dv (c :: r) = (c.toNat - 48) * 10 ^ r.length + dv r := by
  have h := dv_append [c] r
  have h2 : dv [c] = c.toNat - 48 := by simp [dv]
  rw [h2] at h
  exact h
theorem drop_set_here {L : List UInt8} {p : Nat} (c : UInt8) (hp : p < L.length) : (L.set p c).drop p = c :: L.drop (p + 1) := by
  rw [List.drop_eq_getElem_cons (by rw [List.length_set]; exact hp)]
  simp [List.drop_set_of_lt]
structure DigsAt (V done : Nat) (L : List UInt8) : Prop where
  le : done ≤ L.length
  dg : ∀ c ∈ L.drop (L.length - done), isDg c = true
  val : dv (L.drop (L.length - done)) = V % 10 ^ done
theorem DigsAt.start (V : Nat) (L : List UInt8) : DigsAt V 0 L := by
  refine ⟨Nat.zero_le _, ?_, ?_⟩
  · simp
  · simp [dv_nil, Nat.mod_one]
theorem DigsAt.step {V done p d : Nat} {L : List UInt8} (h : DigsAt V done L) (hp : p + done + 1 = L.length) (hd : V / 10 ^ done % 10 = d) : DigsAt V (done + 1) (L.set p (UInt8.ofNat (48 + d))) := by
  have hd10 : d < 10 := by rw [← hd]; exact Nat.mod_lt _ (by omega)
  have e1 : L.length - done = p + 1 := by omega
  have e2 : L.length - (done + 1) = p := by omega
  have h1 := h.dg
  have h2 := h.val
  rw [e1] at h1 h2
  refine ⟨by rw [List.length_set]; omega, ?_, ?_⟩
  · rw [List.length_set, e2, drop_set_here _ (by omega)]
    intro c hc
    rcases List.mem_cons.1 hc with h3 | h3
    · rw [h3, isDg_iff, dg_nat _ hd10]
      omega
    · exact h1 c h3
  · rw [List.length_set, e2, drop_set_here _ (by omega), dv_cons, dg_nat _ hd10, h2, List.length_drop, Nat.pow_succ, Nat.mod_mul, hd, show L.length - (p + 1) = done by omega, show 48 + d - 48 = d by omega, Nat.mul_comm d]
    omega
theorem dv_48 : ∀ l : List UInt8, (∀ c ∈ l, c = 48) → dv l = 0 := by
  intro l
  induction l with
  | nil => intro _; rfl
  | cons c r ih =>
    intro h
    rw [dv_cons, ih (fun c hc => h c (by simp [hc])), h c (by simp)]
    simp
theorem strip_dec {L : List UInt8} {o : Nat} {c : UInt8} (hd : ∀ c ∈ L, isDg c = true) (hz : ∀ c ∈ L.take o, c = 48) (hc : L[o]? = some c) (hne : c ≠ 48) : L.drop o = Lib.decDigits (dv L) := by
  have h1 : dv L = dv (L.drop o) := by
    conv => lhs; rw [← List.take_append_drop o L]
    rw [dv_append, dv_48 _ hz]
    omega
  rw [h1]
  have hlt : o < L.length := (List.getElem?_eq_some_iff.1 hc).1
  have hh : (L.drop o).head? = some c := by rw [List.head?_drop]; exact hc
  refine dec_of (fun e => by rw [e] at hh; simp at hh) (fun c hc => hd c (List.mem_of_mem_drop hc)) (fun _ => by rw [hh]; simpa using hne)
theorem wr_nums {n : Nat} (_ : n < 1000000) : ∃ R Q D : Nat, (n : Int) % 10 = (R : Int) ∧ (n : Int) / 10 = (Q : Int) ∧ IntKind.u8.wrap (48 + (R : Int)) = (D : Int) ∧ D = 48 + R ∧ R = n % 10 ∧ Q = n / 10 ∧ R < 10 := by
  refine ⟨n % 10, n / 10, 48 + n % 10, by omega, by omega, ?_, rfl, rfl, rfl, by omega⟩
  have : n % 10 < 10 := by omega
  generalize n % 10 = r at this ⊢
  rcases (show r = 0 ∨ r = 1 ∨ r = 2 ∨ r = 3 ∨ r = 4 ∨ r = 5 ∨ r = 6 ∨ r = 7 ∨ r = 8 ∨ r = 9 by omega) with h | h | h | h | h | h | h | h | h | h <;> subst h <;> rfl
end Go.KI
namespace Go.Proofs.YtklgpilgalfckaaGreatDoor
open Go.RowKit Go.KP Go.KI Go.Shelf
attribute [local go_sem] Oper.semAt_some

abbrev byteO (L : List UInt8) : Obj := .cells (Lib.byteCells L).toArray 5
theorem byte_cell {w : World} {g : Nat} {L : List UInt8} (h : w.heap[g]? = some (byteO L)) {i : Nat} {c : UInt8} (hi : L[i]? = some c) : w.cell? ⟨g, i, none⟩ = some (.int .u8 c.toNat) := by
  rw [cell_blk h]
  simp [Lib.byteCells, hi]
theorem byte_set {w : World} {g : Nat} {L : List UInt8} (h : w.heap[g]? = some (byteO L)) (k : Nat) (c : UInt8) {v : Nat} (hv : c.toNat = v) : (w.setCell ⟨g, k, none⟩ (.int .u8 v)).heap[g]? = some (byteO (L.set k c)) := by
  subst hv
  simp only [World.setCell, Array.getElem?_modify, h]
  simp [Lib.byteCells, List.map_set]
theorem info5 : (Tryz.prog.info? 5).map (fun i => (i.zero, i.size, i.bytes)) = some (some (.int .u8 0), 1, 1) := by kernel_rfl
theorem make_bytes (n : Nat) (hn : n ≤ 1000000) (W : World) :
    (Instr.makeSlice 49 (.int .i64 (n : Int)) (.int .i64 (n : Int))).run Tryz.prog W = .ok (.slice (some ⟨W.heap.size, 0, none⟩) n n) (W.alloc (byteO (List.replicate n 0))) := by
  obtain ⟨i0, hi0, hz0, hz1, hz2⟩ := info_parts info5
  have hr := run_make (P := Tryz.prog) W 49 5 i0 (.int .u8 0) Tryz.underlying49 hi0 hz0 .i64 .i64 n n (by omega) (Int.le_refl _) (by rw [hz2]; omega) (by omega)
  simp only [Int.toNat_natCast, hz1] at hr
  rw [hr]
  have e : madeCells (Value.int .u8 0).cells (n * 1) = (Lib.byteCells (List.replicate n 0)).toArray := by
    simp [madeCells, Value.cells, Lib.byteCells]
    apply Array.ext
    · simp
    · intro i h1 h2
      simp [Nat.mod_one]
  rw [e]
theorem rwrite_any (m : Bool) (v : Value) (l : List Nat) (B : Nat) (w : World) (h : LimbAt B w v l) (hB : B ≤ w.heap.size) (hn : Norm 1000000 l) (hl : l.length ≤ 100000) :
    Calls Tryz.prog 206 #[numV m v] w (Ret w (.string (strB (Lib.itoa (valS m (lv 1000000 l)))))) := by
  obtain ⟨a0, c0, hv⟩ := h.form
  subst hv
  have HL := hide h; have HN := hide hn
  clear h hn
  obtain ⟨n, hnn⟩ : ∃ n, n = l.length := ⟨_, rfl⟩
  have HNN := hide hnn
  rw [← hnn] at hl HL ⊢
  clear hnn
  obtain ⟨b0, bs0, bb0⟩ := heap1 w (.cells #[.bool m, .slice a0 n c0] 222)
  have c1' := cell_blk b0 0
  have c2' := cell_blk b0 1
  by_cases h0 : n = 0
  · have hnil : l = [] := List.eq_nil_of_length_eq_zero (HNN.out.symm.trans h0)
    have hq : ((n : Int) == 0) = true := by rw [h0]; rfl
    have HE := hide (show strB (Lib.itoa (valS m (lv 1000000 l))) = ⟨#[48]⟩ by
      rw [hnil, lv_nil]
      cases m <;> exact congrArg strB itoa_zero)
    have BB := hide bb0
    clear h0 hnil b0 bs0 bb0
    go_enter Tryz.func206, Tryz.ntmps206
    go_wp2_with fail
    go_ret
    rw [HE.out]
    exact ⟨rfl, BB.out⟩
  · have hq : ((n : Int) == 0) = false := by simpa using h0
    obtain ⟨N, hN⟩ : ∃ N, N = 6 * n := ⟨_, rfl⟩
    have h6 : 6 * (n : Int) = (N : Int) := by omega
    have hmk := make_bytes N (by omega)
    have hNl : N ≤ 600000 := by omega
    obtain ⟨w1, hw1⟩ : ∃ w1, w.alloc (.cells #[.bool m, .slice a0 n c0] 222) = w1 := ⟨_, rfl⟩
    obtain ⟨d0, ds0, db0⟩ := heap1 w1 (byteO (List.replicate N 0))
    have HW1 := hide hw1
    rw [hw1] at b0 bs0 bb0
    have B0 := hide (below_blk db0 b0 (by omega)); have BB := hide (bb0.trans (db0.mono (by omega))); rw [bs0] at d0; have D0 := hide d0
    have HNE := hide hN
    clear b0 bs0 bb0 d0 ds0 db0 hw1 hN
    go_enter Tryz.func206, Tryz.ntmps206
    go_wp2_with fail
    clear hmk h6 c1' c2'
    have hg1 : w.heap.size + 1 < (w1.alloc (byteO (List.replicate N 0))).heap.size := lt_blk D0.out
    obtain ⟨w2, hw2⟩ : ∃ w2, w1.alloc (byteO (List.replicate N 0)) = w2 := ⟨_, rfl⟩
    rw [HW1.out, hw2]
    rw [hw2] at B0 BB D0 hg1
    obtain ⟨V, hV⟩ : ∃ V, V = lv 1000000 l := ⟨_, rfl⟩
    have HV := hide hV
    have HNE2 := hide h0
    clear hV hw2 h0
    go_loopw [4] (fun i wr => ∃ k : Nat, k ≤ n ∧ i = .int .i64 k ∧ Hid (∃ L : List UInt8, L.length = N ∧ DigsAt V (6 * k) L ∧ wr.heap[w.heap.size + 1]? = some (byteO L) ∧ wr.heap[w.heap.size]? = some (.cells #[.bool m, .slice a0 n c0] 222 (0, 0)) ∧ Below w.heap.size w wr)) (fun i _ => n - (intOf i).toNat)
    case atStart => exact ⟨0, Nat.zero_le _, rfl, _, List.length_replicate, DigsAt.start _ _, D0.out, B0.out, BB.out⟩
    case round =>
      obtain ⟨i, hi, rfl, hin⟩ := hrel
      obtain ⟨L0, hL0, hD0, hg0, hb0, hw0⟩ := hin.out
      have c1 := cell_blk hb0 1
      have c2 := cell_blk hb0 0
      by_cases hlt : i < n
      · have e3 : (i : Int) < (n : Int) := by omega
        have i0 : (0 : Int) ≤ (i : Int) := by omega
        rcases LimbAt.cases (l := l) (HL.out.below hw0 hB) with ⟨_, _, _, hnil⟩ | ⟨b, o, cap, hv, hbb, hcl⟩
        · have := HNN.out
          rw [hnil] at this
          simp at this
          omega
        injection hv with hv1 hv2 hv3
        subst hv1; subst hv3
        have hcell := hcl i (by have := HNN.out; omega)
        have hxi := lat_lt (by omega) HN.out.lt i
        obtain ⟨X, hX⟩ : ∃ X, X = lat l i := ⟨_, rfl⟩
        rw [← hX] at hcell hxi
        have HX := hide hX; have HL0 := hide hL0; have HD0 := hide hD0; have HG0 := hide hg0; have HB0 := hide hb0; have HW0 := hide hw0
        clear hcl hv2 hX hL0 hD0 hg0 hb0 hw0 hin hbb
        obtain ⟨wo, hwo⟩ : ∃ wo, wo = wr := ⟨_, rfl⟩
        subst hwo
        go_wp2_with fail
        clear c1 c2 hcell
        have d1 := cell_blk HB0.out 1
        go_loopw [5, 6] (fun a k wr => ∃ (j A : Nat), j ≤ 6 ∧ k = .int .i64 ((j : Int) + 1) ∧ a = .int .i64 A ∧ A < 1000000 ∧ Hid (A = X / 10 ^ j) ∧ Hid (∃ L : List UInt8, L.length = N ∧ DigsAt V (6 * i + j) L ∧ wr.heap[w.heap.size + 1]? = some (byteO L) ∧ wr.heap[w.heap.size]? = some (.cells #[.bool m, .slice (some ⟨b, o, none⟩) n c0] 222 (0, 0)) ∧ Below w.heap.size w wr)) (fun _ k _ => 7 - (intOf k).toNat)
        case atStart => exact ⟨0, X, by omega, rfl, rfl, hxi, hide (by rw [Nat.pow_zero, Nat.div_one]), L0, HL0.out, HD0.out, HG0.out, HB0.out, HW0.out⟩
        case round =>
          obtain ⟨j, A, hj, rfl, rfl, hAl, hA, hin⟩ := hrel
          obtain ⟨L, hL, hD, hg, hb, hw⟩ := hin.out
          by_cases hlt2 : j < 6
          · have e4 : (j : Int) + 1 ≤ 6 := by omega
            obtain ⟨p, hp⟩ : ∃ p : Nat, p + (6 * i + j) + 1 = N := ⟨N - (6 * i + j) - 1, by have := HNE.out; omega⟩
            have hpi : (N : Int) - 6 * (i : Int) - ((j : Int) + 1) = (p : Int) := by omega
            have hpN : (p : Int) < (N : Int) := by omega
            have hpL : p < L.length := by omega
            obtain ⟨R, Q, Dg, hR, hQ, hDg, hDe, hRe, hQe, hR10⟩ := wr_nums hAl
            have q2 := froz_blk hg p
            have hc0 := byte_cell hg (List.getElem?_eq_getElem hpL)
            have HD := hide hD; have HG := hide hg; have HBB := hide hb; have HW := hide hw; have HP := hide hp; have HL2 := hide hL; have HRE := hide hRe; have HQE := hide hQe; have HDE := hide hDe; have HQI := hide hQ
            have hsz := lt_blk hg
            have hQl : Q < 1000000 := by omega
            clear hD hg hb hw hp hL hin hRe hQe hDe hlt2
            go_wp2_with fail
            go_roundw
            case rel => 
              refine ⟨j + 1, Q, by omega, by first | (congr 1; done) | (congr 1; omega), by first | rfl | rw [HQI.out], hQl, hide ?_, L.set p (UInt8.ofNat (48 + R)), by rw [List.length_set]; exact HL2.out, ?_, ?_, (setCell_other (by omega)).trans HBB.out, ?_⟩
              · rw [HQE.out, hA.out, Nat.pow_succ, Nat.div_div_eq_div_mul]
              · have hd := digit_at HN.out.lt (i := i) (j := j) (by have := HNN.out; omega) (by omega)
                rw [← HV.out, ← HX.out, ← hA.out, ← HRE.out] at hd
                exact HD.out.step (by have := HP.out; have := HL2.out; omega) hd
              · exact byte_set HG.out p _ (by rw [dg_nat _ hR10, HDE.out])
              · exact HW.out.setCell (p := ⟨w.heap.size + 1, p, none⟩) (by simp) _
            case measure => simp [intOf]; omega
          · obtain rfl : j = 6 := by omega
            have HL2 := hide hL; have HD := hide hD; have HG := hide hg; have HBB := hide hb; have HW := hide hw
            clear hL hD hg hb hw hin hlt2
            go_wp2_with fail
            go_roundw
            case rel => exact ⟨i + 1, by omega, by go_num, L, HL2.out, by have := HD.out; rwa [show 6 * i + 6 = 6 * (i + 1) by omega] at this, HG.out, HBB.out, HW.out⟩
            case measure => simp [intOf]; omega
      · obtain rfl : i = n := by omega
        have hki : ((i : Int) < (i : Int)) = False := eq_false (by omega)
        have hN6 : N = 6 * i := HNE.out
        have hfin : (∀ c ∈ L0, isDg c = true) ∧ dv L0 = V := by
          have h1 := hD0.dg
          have h2 := hD0.val
          rw [show L0.length - 6 * i = 0 by omega, List.drop_zero] at h1 h2
          refine ⟨h1, ?_⟩
          rw [h2]
          refine Nat.mod_eq_of_lt ?_
          have h3 := lv_lt HN.out.lt
          rw [← HV.out, show (1000000 : Nat) = 10 ^ 6 by decide, ← Nat.pow_mul, ← HNN.out] at h3
          exact h3
        have hpos : 1 ≤ V := by
          rcases Nat.eq_zero_or_pos V with h | h
          · exfalso
            rw [HV.out] at h
            have := (HN.out.zero (by omega)).1 h
            have := HNN.out
            rename_i h9
            rw [h9] at this
            exact HNE2.out this
          · exact h
        have HF := hide hfin; have HPS := hide hpos; have HL0 := hide hL0; have HG0 := hide hg0; have HB0 := hide hb0; have HW0 := hide hw0
        clear hlt hfin hpos hN6 hL0 hg0 hb0 hw0 hD0 hin
        obtain ⟨wo, hwo⟩ : ∃ wo, wo = wr := ⟨_, rfl⟩
        subst hwo
        go_wp2_with fail
        go_loopw [3] (fun s wr => ∃ o q : Nat, s = .slice (some ⟨w.heap.size + 1, o, none⟩) q q ∧ q ≤ N ∧ Hid (o + q = N) ∧ Hid (∀ c ∈ L0.take o, c = 48) ∧ wr = wo) (fun s _ => match s with | .slice _ n _ => n | _ => 0)
        case atStart => exact ⟨0, N, rfl, Nat.le_refl _, hide (by omega), hide (fun c hc => by simp at hc), rfl⟩
        case round =>
          obtain ⟨o, q, rfl, hqN, hoq, hz, rfl⟩ := hrel
          have hlo : o < N := by
            rcases Nat.lt_or_ge o N with h | h
            · exact h
            · exfalso
              have h1 := dv_48 _ hz.out
              rw [List.take_of_length_le (by rw [HL0.out]; exact h), HF.out.2] at h1
              have := HPS.out
              omega
          obtain ⟨c, hc⟩ : ∃ c, L0[o]? = some c := ⟨_, List.getElem?_eq_getElem (by rw [HL0.out]; exact hlo)⟩
          have hcell := byte_cell HG0.out hc
          have hoq2 := hoq.out
          have hq0 : (0 : Int) < (q : Int) := by omega
          have HC := hide hc; have HOQ := hide hoq2; have HZ := hide hz.out
          clear hc hoq hz hoq2
          by_cases hc48 : c = 48
          · obtain ⟨q', hq'⟩ : ∃ q', q = q' + 1 := ⟨q - 1, by omega⟩
            subst hq'
            have hq1 : (((c.toNat : Nat) : Int) == 48) = true := by rw [hc48]; rfl
            have hz2 : ∀ d ∈ L0.take (o + 1), d = 48 := fun d hd => by
              rw [List.take_add_one, HC.out] at hd
              rcases List.mem_append.1 hd with h | h
              · exact HZ.out d h
              · simp at h
                rw [h, hc48]
            have hq0' : (q' = 0) = False := eq_false (fun h => by
              have h1 := dv_48 _ hz2
              rw [List.take_of_length_le (by rw [HL0.out]; have := HOQ.out; omega), HF.out.2] at h1
              have := HPS.out
              omega)
            have HZ2 := hide hz2
            clear hc48 hlo hz2
            go_wp2_with fail
            refine ⟨⟨o + 1, q', rfl, by omega, hide (by have := HOQ.out; omega), HZ2, trivial⟩, by simp⟩
          · have hq1 : (((c.toNat : Nat) : Int) == 48) = false := by
              have : c.toNat ≠ 48 := fun e => hc48 (UInt8.toNat_inj.1 e)
              simp only [beq_eq_false_iff_ne, ne_eq]
              omega
            have hcv := run_convert_bytes_arg (P := Tryz.prog) wr 49 5 Tryz.underlying49 Tryz.underlying5 (w.heap.size + 1) o q q ((L0.drop o).map fun c => (c.toNat : Int)) (by rw [List.length_map, List.length_drop, HL0.out]; have := HOQ.out; omega) (fun j hj => by
              have hjl : o + j < L0.length := by rw [HL0.out]; have := HOQ.out; omega
              rw [byte_cell HG0.out (List.getElem?_eq_getElem hjl)]
              simp [List.getD, List.getElem?_drop, List.getElem?_eq_getElem hjl]) 9 Tryz.underlying9
            have hst : strOfNums ((L0.drop o).map fun c => (c.toNat : Int)) = strB (Lib.decDigits V) := by
              have h1 := strip_dec HF.out.1 HZ.out HC.out hc48
              rw [← HF.out.2, ← h1]
              apply bytes_eq
              rw [strOfNums_data, strB_list, List.map_map]
              conv => rhs; rw [← List.map_id (L0.drop o)]
              apply List.map_congr_left
              intro a _
              simp
            obtain ⟨t, ht⟩ : ∃ t, t = strB (Lib.decDigits V) := ⟨_, rfl⟩
            rw [hst, ← ht] at hcv
            have htl : t.size ≤ 600000 := by
              rw [ht, ← HF.out.2, ← strip_dec HF.out.1 HZ.out HC.out hc48, strB_size, List.length_drop, HL0.out]
              omega
            have hov : (9223372036854775807 < 1 + t.size) = False := eq_false (by omega)
            have HT := hide ht
            clear hc48 hlo hst ht
            have HIT := hide (fun m' => show Lib.itoa (valS m' (lv 1000000 l)) = (if m' then [45] else []) ++ Lib.decDigits V by rw [← HV.out]; exact valS_itoa HPS.out)
            cases m
            · go_wp2_with fail
              go_ret
              refine ⟨?_, HW0.out⟩
              rw [HIT.out, HT.out]
              rfl
            · go_wp2_with fail
              go_ret
              refine ⟨?_, HW0.out⟩
              rw [HIT.out, HT.out]
              congr 2
end Go.Proofs.YtklgpilgalfckaaGreatDoor
namespace Go.KI
open Go
theorem DigsAt.fin {V done p : Nat} {L : List UInt8} (h : DigsAt V (done + 1) L) (hp : p + done + 1 = L.length) {A : Nat} (hA : A = V / 10 ^ done) (h10 : A / 10 = 0) (h0 : done ≠ 0 → A ≠ 0) (hc : L[p]? = some (UInt8.ofNat (48 + A % 10))) : L.drop p = Lib.decDigits V := by
  have e2 : L.length - (done + 1) = p := by omega
  have h1 := h.dg
  have h2 := h.val
  rw [e2] at h1 h2
  have hV : V < 10 ^ (done + 1) := by
    rw [hA, Nat.div_div_eq_div_mul, ← Nat.pow_succ] at h10
    exact Nat.lt_of_div_eq_zero (Nat.pow_pos (by omega)) h10
  rw [Nat.mod_eq_of_lt hV] at h2
  have hh : (L.drop p).head? = some (UInt8.ofNat (48 + A % 10)) := by rw [List.head?_drop]; exact hc
  have h3 := dec_of (l := L.drop p) (fun e => by rw [e] at hh; simp at hh) h1 (fun hl he => by
    rw [hh] at he
    injection he with he
    have h4 := congrArg UInt8.toNat he
    rw [dg_nat _ (Nat.mod_lt _ (by omega))] at h4
    rw [List.length_drop] at hl
    have h5 := h0 (by omega)
    have h6 : (48 : UInt8).toNat = 48 := rfl
    omega)
  rw [h2] at h3
  exact h3
end Go.KI
namespace Go.Proofs.YtklgpilgalfckaaGreatDoor
open Go.RowKit Go.KP Go.KI Go.Shelf
attribute [local go_sem] Oper.semAt_some

open Go.RowKit Go.KP Go.KI Go.Shelf
attribute [local go_sem] Oper.semAt_some

theorem r2small_any (s : ByteArray) (hd : ∀ c ∈ s.data.toList, isDg c = true) (hs : s.size ≤ 18) (w : World) :
    Calls Tryz.prog 136 #[.string s] w (Ret w (.int .i64 (dv s.data.toList : Nat))) := by
  have HD := hide hd
  have hdl : ∀ k ≤ s.size, dv (s.data.toList.take k) < 10 ^ 18 := by
    intro k hk
    refine Nat.lt_of_lt_of_le (dv_lt _ (fun c hc => hd c (List.mem_of_mem_take hc))) (Nat.pow_le_pow_right (by omega) ?_)
    rw [List.length_take]
    omega
  have HDL := hide hdl
  clear hd hdl
  go_enter Tryz.func136, Tryz.ntmps136
  go_wp2_with fail
  go_loopw [3, 4] (fun n i wr => ∃ k A : Nat, k ≤ s.size ∧ i = .int .i64 k ∧ n = .int .i64 A ∧ Hid (A = dv (s.data.toList.take k)) ∧ wr = w) (fun _ i _ => s.size - (intOf i).toNat)
  case atStart => exact ⟨0, 0, by omega, rfl, rfl, rfl, rfl⟩
  case round =>
    obtain ⟨k, A, hk, rfl, rfl, hA, rfl⟩ := hrel
    have hk0 : (0 : Int) ≤ (k : Int) := by omega
    by_cases hlt : k < s.size
    · have hki : (k : Int) < (s.size : Int) := by omega
      have hat : s.data.toList[k]? = some (s[k]'hlt) := by
        have h1 : s.data.toList[k]? = some s.data[k] := by simp
        exact h1
      obtain ⟨y, hyv⟩ : ∃ y : Nat, y = (s[k]'hlt).toNat := ⟨_, rfl⟩
      have hyv2 : (s[k]'hlt).toNat = y := hyv.symm
      have hdg : 48 ≤ y ∧ y ≤ 57 := by
        rw [hyv]
        exact isDg_iff.1 (HD.out _ (List.mem_of_getElem? hat))
      have hnew : dv (s.data.toList.take (k + 1)) = A * 10 + (y - 48) := by
        rw [List.take_add_one, hat]
        show dv (_ ++ [s[k]'hlt]) = _
        rw [dv_snoc, hyv2, hA.out]
      have hb1 := HDL.out (k + 1) (by omega)
      rw [hnew] at hb1
      have HN := hide hnew.symm
      have y0 : (48 : Int) ≤ (y : Int) := by omega
      have y1 : (y : Int) ≤ 57 := by omega
      have a1 : (A : Int) < 100000000000000000 := by omega
      have HC := hide (show 10 * (A : Int) + ((y : Int) - 48) = ((A * 10 + (y - 48) : Nat) : Int) by omega)
      clear hat hyv hdg hnew hA hb1
      go_wp2_with fail
      go_roundw
      case rel => exact ⟨k + 1, A * 10 + (y - 48), by omega, by go_num, by rw [← HC.out], HN, trivial⟩
      case measure => simp [intOf]; omega
    · have hki : ((k : Int) < (s.size : Int)) = False := eq_false (by omega)
      have HE := hide (show dv s.data.toList = A by rw [hA.out, List.take_of_length_le (by rw [bytes_len]; omega)])
      clear hA hlt
      go_wp2_with fail
      go_ret
      rw [HE.out]
      exact ⟨rfl, Below.refl _ _⟩
open Go.RowKit Go.KP Go.KI Go.Shelf
attribute [local go_sem] Oper.semAt_some

structure RShortAt (x : List Nat) (d k : Nat) (Q : List Nat) (R : Nat) : Prop where
  len : Q.length = x.length
  lt : Lt 1000000 Q
  rest : R < d
  val : lv 1000000 (x.drop (x.length - k)) = lv 1000000 (Q.drop (x.length - k)) * d + R
theorem RShortAt.start (x : List Nat) {d : Nat} (hd : 1 ≤ d) : RShortAt x d 0 (zeros x.length) 0 :=
  ⟨zeros_len _, zeros_lt _ _ (by omega), hd, by rw [Nat.sub_zero, List.drop_length, List.drop_of_length_le (by rw [zeros_len]; exact Nat.le_refl _)]; simp [lv]⟩
theorem RShortAt.step {x : List Nat} {d k R : Nat} {Q : List Nat} (h : RShortAt x d k Q R) (hx : Lt 1000000 x) (hd2 : d < 1000000) (hk : k < x.length) {i : Nat} (hi : i = x.length - 1 - k) :
    lat x i + R * 1000000 < d * 1000000 ∧ (lat x i + R * 1000000) / d < 1000000 ∧ RShortAt x d (k + 1) (Q.set i ((lat x i + R * 1000000) / d)) ((lat x i + R * 1000000) % d) := by
  have hr := h.rest
  have hxi := lat_lt (by omega) hx i
  have h1 : (R + 1) * 1000000 ≤ d * 1000000 := Nat.mul_le_mul_right _ hr
  have h2 : lat x i + R * 1000000 < d * 1000000 := by omega
  have hdp : 0 < d := by omega
  have h3 : (lat x i + R * 1000000) / d < 1000000 := by
    rw [Nat.div_lt_iff_lt_mul hdp]
    omega
  refine ⟨h2, h3, by rw [List.length_set]; exact h.len, lt_set h.lt h3, Nat.mod_lt _ hdp, ?_⟩
  have e1 : x.length - (k + 1) = i := by omega
  have e2 : x.length - k = i + 1 := by omega
  have hv := h.val
  rw [e2] at hv
  rw [e1]
  have hl : i < x.length := by omega
  have hlq : i < Q.length := by rw [h.len]; exact hl
  have f1 : lv 1000000 (x.drop i) = lat x i + 1000000 * lv 1000000 (x.drop (i + 1)) := by
    rw [List.drop_eq_getElem_cons hl, lat_at hl]
    rfl
  have f2 : (Q.set i ((lat x i + R * 1000000) / d)).drop i = ((lat x i + R * 1000000) / d) :: Q.drop (i + 1) := by
    rw [List.drop_eq_getElem_cons (by rw [List.length_set]; exact hlq), List.getElem_set_self, List.drop_set_of_lt (by omega)]
  rw [f1, f2, hv]
  show lat x i + 1000000 * (lv 1000000 (Q.drop (i + 1)) * d + R) = ((lat x i + R * 1000000) / d + 1000000 * lv 1000000 (Q.drop (i + 1))) * d + (lat x i + R * 1000000) % d
  have h4 := Nat.div_add_mod (lat x i + R * 1000000) d
  rw [Nat.add_mul, Nat.mul_comm (_ / d) d]
  have e5 : 1000000 * lv 1000000 (Q.drop (i + 1)) * d = 1000000 * (lv 1000000 (Q.drop (i + 1)) * d) := by rw [Nat.mul_assoc]
  rw [e5]
  omega
theorem RShortAt.done {x : List Nat} {d R : Nat} {Q : List Nat} (h : RShortAt x d x.length Q R) : lv 1000000 Q = lv 1000000 x / d ∧ R = lv 1000000 x % d := by
  have hv := h.val
  rw [Nat.sub_self, List.drop_zero, List.drop_zero] at hv
  have hr := h.rest
  rw [hv]
  constructor
  · rw [Nat.add_comm, Nat.add_mul_div_right _ _ (by omega), Nat.div_eq_of_lt hr, Nat.zero_add]
  · rw [Nat.add_comm, Nat.add_mul_mod_self_right, Nat.mod_eq_of_lt hr]
theorem rshort_nums {X R d : Nat} (hX : X < 1000000) (hR : R < d) (hd : d < 1000000) :
    ∃ T q r : Nat, T = X + R * 1000000 ∧ q = T / d ∧ r = T % d ∧ IntKind.i64.wrap ((R : Int) * 1000000) = (R : Int) * 1000000 ∧ IntKind.i64.wrap ((R : Int) * 1000000 + (X : Int)) = (T : Int) ∧ (T : Int) / (d : Int) = (q : Int) ∧ (T : Int) % (d : Int) = (r : Int) ∧ (T : Int) < 1000000000000 ∧ ((d : Int) == 0) = false ∧ r < d := by
  have h1 : X + R * 1000000 < 1000000000000 := by omega
  have h2 : (d : Int) ≠ 0 := by omega
  obtain ⟨T, hT⟩ : ∃ T, T = X + R * 1000000 := ⟨_, rfl⟩
  have h3 : (R : Int) * 1000000 + (X : Int) = (T : Int) := by omega
  exact ⟨T, T / d, T % d, hT, rfl, rfl, IntWalk.i64_in _ (by omega), by rw [h3]; exact IntWalk.i64_in _ (by omega), Int.natCast_ediv .., Int.natCast_emod .., by omega, by simpa using h2, Nat.mod_lt _ (by omega)⟩
def RDivRes (x y : List Nat) (w : World) (e : Ending) (w' : World) : Prop := ∃ (vq vr : Value) (q r : List Nat), e = .returned (.tuple #[vq, vr]) ∧ Below w.heap.size w w' ∧ OwnL w.heap.size w' vq q ∧ OwnL w.heap.size w' vr r ∧
  Norm 1000000 q ∧ Norm 1000000 r ∧ lv 1000000 q = lv 1000000 x / lv 1000000 y ∧ lv 1000000 r = lv 1000000 x % lv 1000000 y ∧ q.length ≤ x.length
theorem rshort_any (va : Value) (x : List Nat) (d : Nat) (B : Nat) (w : World) (ha : LimbAt B w va x) (hB : B ≤ w.heap.size) (hx : Lt 1000000 x) (lx : x.length ≤ 200000) (hd : 1 ≤ d) (hd2 : d < 1000000) :
    Calls Tryz.prog 244 #[va, .int .i64 d] w (RDivRes x [d] w) := by
  obtain ⟨a0, c0, hva⟩ := ha.form
  subst hva
  have HA := hide ha; have HX := hide hx
  clear ha hx
  obtain ⟨n, hn⟩ : ∃ n, n = x.length := ⟨_, rfl⟩
  have HN := hide hn
  have hmk := make_ints n (by omega)
  rw [← hn] at lx ⊢
  clear hn
  have H0 := hide (heap_alloc_new w (rowO (zeros n))); have HB0 := hide ((Below.refl w.heap.size w).alloc (Nat.le_refl _) (rowO (zeros n)))
  go_enter Tryz.func244, Tryz.ntmps244
  go_wp2_with fail
  clear hmk
  go_loopw [7, 8] (fun rr i wr => ∃ (k R : Nat), k ≤ n ∧ i = .int .i64 ((n : Int) - 1 - k) ∧ rr = .int .i64 R ∧ Hid (∃ Q : List Nat, RShortAt x d k Q R ∧ wr.heap[w.heap.size]? = some (rowO Q) ∧ Below w.heap.size w wr)) (fun _ i _ => (intOf i + 1).toNat)
  case atStart => exact ⟨0, 0, Nat.zero_le _, by simp, rfl, zeros n, by have := RShortAt.start x hd; rw [← HN.out] at this; exact this, H0.out, HB0.out⟩
  case round =>
    obtain ⟨k, R, hk, rfl, rfl, hin⟩ := hrel
    obtain ⟨Q, h1, hQ, hW⟩ := hin.out
    have hsz := lt_blk hQ
    by_cases hlt : k < n
    · obtain ⟨m, hm⟩ : ∃ m : Nat, (n : Int) - 1 - (k : Int) = m := ⟨n - 1 - k, by omega⟩
      have hm2 : m = x.length - 1 - k := by have := HN.out; omega
      have hst := h1.step HX.out hd2 (by have := HN.out; omega) hm2
      obtain ⟨t1, t2, t3⟩ := hst
      have hxm := lat_lt (by omega) HX.out m
      rw [hm]
      rcases (HA.out.below hW hB).cases with ⟨_, _, _, hnil⟩ | ⟨g, o, cap, hv, hg, hc⟩
      · have := HN.out
        rw [hnil] at this
        simp at this
        omega
      injection hv with hv1 hv2 hv3
      subst hv1
      have q1 := hc m (by have := HN.out; omega)
      obtain ⟨X, hX⟩ : ∃ X, X = lat x m := ⟨_, rfl⟩
      rw [← hX] at hxm t1 t2 t3 q1
      obtain ⟨T, q, r, hT, hq, hr, hw1, hwt, hqi, hri, hTl, hd0, hrl⟩ := rshort_nums hxm h1.rest hd2
      rw [← hT] at t1 t2 t3
      rw [← hq, ← hr] at t3
      rw [← hq] at t2
      have hmi : (m : Int) < (n : Int) := by omega
      have hmq : m < Q.length := by rw [h1.len, ← HN.out]; omega
      have c3 := row_cell hQ hmq
      have f3 := row_froz hQ m
      have hkn : k + 1 ≤ n := hlt
      have T3 := hide t3; have HQ := hide hQ; have HW := hide hW; have HM := hide hm; have HRI := hide hri
      clear hm hm2 t3 hQ hW h1 hX hT hq hr t1 hc hv2 hv3 hg hin hlt
      go_wp2_with fail
      go_roundw
      case rel => exact ⟨k + 1, r, by omega, by have := HM.out; congr 1; omega, by first | rfl | rw [HRI.out], Q.set m q, T3.out, row_set HQ.out m q, HW.out.setCell (p := ⟨w.heap.size, m, none⟩) (Nat.le_refl _) _⟩
      case measure => simp [intOf]
    · obtain rfl : k = n := by omega
      have hm : (k : Int) - 1 - (k : Int) = -1 := by omega
      rw [hm]
      have hQn : Q.length = k := h1.len.trans HN.out.symm
      have HTq := hide (rtrim_any (some ⟨w.heap.size, 0, none⟩) k Q wr.heap.size wr (by
        have := row_limbs hQ (by unfold maxLen; omega)
        rw [hQn] at this ⊢
        exact this) (by omega) (by omega))
      rw [hQn] at HTq
      have HTr := hide (show Calls Tryz.prog 224 #[.slice (some ⟨wr.heap.size, 0, none⟩) 1 1] (wr.alloc (.cells #[.int .i64 R] 3)) (fun e w'' => e = .returned (.slice (some ⟨wr.heap.size, 0, none⟩) (trimTo [R] 1) 1) ∧ wr.alloc (.cells #[.int .i64 R] 3) = w'') from
        rtrim_any (some ⟨wr.heap.size, 0, none⟩) 1 [R] _ (wr.alloc (rowO [R])) (row_limbs (heap_alloc_new wr (rowO [R])) (by unfold maxLen; simp)) (by simp) (by simp))
      have H1 := hide h1; have HQ := hide hQ; have HW := hide hW; have HQN := hide hQn
      clear h1 hQ hW hQn hin hlt hm
      go_wp2_with fail
      refine HTq.out.mono ?_
      rintro e w1 ⟨rfl, rfl⟩
      go_wp2_with fail
      refine HTr.out.mono ?_
      rintro e w1 ⟨rfl, rfl⟩
      go_wp2_with fail
      refine bodyPost_ret (results_tmp2 rfl _ _ _) rfl ?_
      obtain ⟨e1, e2⟩ := (show RShortAt x d x.length Q R by have := H1.out; rw [HN.out] at this; exact this).done
      have hR : Lt 1000000 [R] := fun z hz => by
        simp only [List.mem_singleton] at hz
        have := H1.out.rest
        omega
      have hE2 : (wr.alloc (rowO [R])).heap[w.heap.size]? = some (rowO Q) := (Below.heap_alloc _ _ _ hsz).trans HQ.out
      have o1 := (row_owns (base := w.heap.size) hE2 (Nat.le_refl _) (by rw [HQN.out]; unfold maxLen; omega)).cut (k := trimTo Q Q.length) (trimTo_le _ _)
      have o2 := (row_owns (base := w.heap.size) (heap_alloc_new wr (rowO [R])) HW.out.size (by unfold maxLen; simp)).cut (k := trimTo [R] 1) (trimTo_le _ _)
      have hv : lv 1000000 [d] = d := by simp [lv]
      have hr1 : lv 1000000 [R] = R := by simp [lv]
      refine ⟨_, _, trimL Q, trimL [R], rfl, HW.out.alloc HW.out.size _, ?_, ?_, trimL_norm H1.out.lt, trimL_norm hR, by rw [trimL_lv, e1, hv], by rw [trimL_lv, hr1, hv, e2], ?_⟩
      · unfold trimL
        rw [HQN.out] at o1 ⊢
        exact o1
      · exact o2
      · rw [trimL_len]
        have := trimTo_le Q Q.length
        have := HQN.out
        have := HN.out
        omega
open Go.RowKit Go.KP Go.KI Go.Shelf

structure RDivAt (x : List Nat) (d k : Nat) (Q : List Nat) (R : Nat) : Prop where
  len : Q.length = x.length
  lt : Lt 1000000 Q
  rest : R < d
  val : lv 1000000 (x.drop (x.length - k)) = lv 1000000 (Q.drop (x.length - k)) * d + R
theorem RDivAt.start (x : List Nat) {d : Nat} (hd : 1 ≤ d) : RDivAt x d 0 (zeros x.length) 0 :=
  ⟨zeros_len _, zeros_lt _ _ (by omega), hd, by rw [Nat.sub_zero, List.drop_length, List.drop_of_length_le (by rw [zeros_len]; exact Nat.le_refl _)]; simp [lv]⟩
theorem RDivAt.step {x : List Nat} {d k R g r : Nat} {Q : List Nat} (h : RDivAt x d k Q R) (hk : k < x.length) {i : Nat} (hi : i = x.length - 1 - k) (hg : g < 1000000) (hr : r < d) (hv : lat x i + 1000000 * R = g * d + r) :
    RDivAt x d (k + 1) (Q.set i g) r := by
  refine ⟨by rw [List.length_set]; exact h.len, lt_set h.lt hg, hr, ?_⟩
  have e1 : x.length - (k + 1) = i := by omega
  have e2 : x.length - k = i + 1 := by omega
  have hw := h.val
  rw [e2] at hw
  rw [e1]
  have hl : i < x.length := by omega
  have hlq : i < Q.length := by rw [h.len]; exact hl
  have f1 : lv 1000000 (x.drop i) = lat x i + 1000000 * lv 1000000 (x.drop (i + 1)) := by
    rw [List.drop_eq_getElem_cons hl, lat_at hl]
    rfl
  have f2 : (Q.set i g).drop i = g :: Q.drop (i + 1) := by
    rw [List.drop_eq_getElem_cons (by rw [List.length_set]; exact hlq), List.getElem_set_self, List.drop_set_of_lt (by omega)]
  rw [f1, f2, hw]
  show lat x i + 1000000 * (lv 1000000 (Q.drop (i + 1)) * d + R) = (g + 1000000 * lv 1000000 (Q.drop (i + 1))) * d + r
  rw [Nat.add_mul, Nat.mul_add, Nat.mul_assoc]
  omega
theorem RDivAt.done {x : List Nat} {d R : Nat} {Q : List Nat} (h : RDivAt x d x.length Q R) : lv 1000000 Q = lv 1000000 x / d ∧ R = lv 1000000 x % d := by
  have hv := h.val
  rw [Nat.sub_self, List.drop_zero, List.drop_zero] at hv
  have hr := h.rest
  rw [hv]
  constructor
  · rw [Nat.add_comm, Nat.add_mul_div_right _ _ (by omega), Nat.div_eq_of_lt hr, Nat.zero_add]
  · rw [Nat.add_comm, Nat.add_mul_mod_self_right, Nat.mod_eq_of_lt hr]
theorem up3 {l : List Nat} (hl : Lt 1000000 l) {m : Nat} (h : l.length ≤ m + 3) : (lat l (m + 2) * 1000000 + lat l (m + 1)) * 1000000 + lat l m = lv 1000000 l / 1000000 ^ m := by
  have h1 := lvT_all (b := 1000000) h
  rw [lvT_succ, lvT_succ, lvT_succ] at h1
  have h2 := lvT_lt (b := 1000000) (by omega) hl m
  have e1 : (1000000 : Nat) ^ (m + 1) = 1000000 ^ m * 1000000 := Nat.pow_succ ..
  have e2 : (1000000 : Nat) ^ (m + 2) = 1000000 ^ m * 1000000 * 1000000 := by rw [Nat.pow_succ, Nat.pow_succ]
  rw [← h1, e1, e2]
  have e3 : lvT 1000000 l m + 1000000 ^ m * lat l m + 1000000 ^ m * 1000000 * lat l (m + 1) + 1000000 ^ m * 1000000 * 1000000 * lat l (m + 2) = lvT 1000000 l m + 1000000 ^ m * ((lat l (m + 2) * 1000000 + lat l (m + 1)) * 1000000 + lat l m) := by grind
  rw [e3, Nat.add_mul_div_left _ _ (Nat.pow_pos (by omega)), Nat.div_eq_of_lt h2, Nat.zero_add]
theorem up2 {l : List Nat} (hl : Lt 1000000 l) {m : Nat} (h : l.length ≤ m + 2) : lat l (m + 1) * 1000000 + lat l m = lv 1000000 l / 1000000 ^ m := by
  have h1 := up3 hl (m := m) (by omega)
  rw [lat_past (i := m + 2) h, Nat.zero_mul, Nat.zero_add] at h1
  exact h1
theorem guess_le {r y P g : Nat} (hP : 0 < P) (hg : g = r / P / (y / P + 1)) : g * y ≤ r := by
  have h1 : g * (y / P + 1) ≤ r / P := by rw [hg]; exact Nat.div_mul_le_self _ _
  have h2 : y ≤ P * (y / P + 1) := by
    have := Nat.div_add_mod y P
    have := Nat.mod_lt y hP
    rw [Nat.mul_add]
    omega
  calc g * y ≤ g * (P * (y / P + 1)) := Nat.mul_le_mul_left _ h2
    _ = P * (g * (y / P + 1)) := by grind
    _ ≤ P * (r / P) := Nat.mul_le_mul_left _ h1
    _ ≤ r := Nat.mul_div_le _ _
theorem guess_lt {r y g : Nat} (h : g * y ≤ r) (hr : r < 1000000 * y) : g < 1000000 := by
  rcases Nat.lt_or_ge g 1000000 with h1 | h1
  · exact h1
  · have := Nat.mul_le_mul_right y h1
    omega
theorem rdiv_nums (L2 L1 L0 T : Nat) :
    ∃ G : Nat, (((L2 : Int) * 1000000 + (L1 : Int)) * 1000000 + (L0 : Int)) / ((T : Int) + 1) = (G : Int) ∧ G = ((L2 * 1000000 + L1) * 1000000 + L0) / (T + 1) := by
  refine ⟨((L2 * 1000000 + L1) * 1000000 + L0) / (T + 1), ?_, rfl⟩
  rw [Int.natCast_ediv]
  congr 1
open Go.RowKit Go.KP Go.KI Go.Shelf
attribute [local go_sem] Oper.semAt_some

theorem rtimes_nums {X Y Q C : Nat} (hX : X < 1000000) (hY : Y < 1000000) (hQ : Q < 1000000) (hC : C < 1000000) :
    ∃ p T D R : Nat, p = X * Y ∧ (X : Int) * (Y : Int) = (p : Int) ∧ IntKind.i64.wrap (p : Int) = (p : Int) ∧ IntKind.i64.wrap ((Q : Int) + (p : Int)) = (Q : Int) + (p : Int) ∧ IntKind.i64.wrap ((Q : Int) + (p : Int) + (C : Int)) = (T : Int) ∧
      (T : Int) / 1000000 = (D : Int) ∧ (T : Int) % 1000000 = (R : Int) ∧ T ≤ 1000000000000 ∧ D < 1000000 ∧ R < 1000000 ∧ Q + X * Y + C = R + 1000000 * D := by
  have hm : X * Y ≤ 999999 * 999999 := Nat.mul_le_mul (by omega) (by omega)
  obtain ⟨p, hp⟩ : ∃ p, p = X * Y := ⟨_, rfl⟩
  rw [← hp] at hm
  have hpi : (X : Int) * (Y : Int) = (p : Int) := by rw [hp, Int.natCast_mul]
  refine ⟨p, Q + p + C, (Q + p + C) / 1000000, (Q + p + C) % 1000000, hp, hpi, IntWalk.i64_in _ (by omega), IntWalk.i64_in _ (by omega), ?_, by omega, by omega, by omega, by omega, by omega, by rw [← hp]; omega⟩
  rw [IntWalk.i64_in _ (by omega)]
  omega
theorem rtimes_any (va vb : Value) (x y : List Nat) (B : Nat) (w : World) (ha : LimbAt B w va x) (hb : LimbAt B w vb y) (hB : B ≤ w.heap.size) (hx : Lt 1000000 x) (hy : Lt 1000000 y) (lx : x.length ≤ 100000) (ly : y.length ≤ 100000) :
    Calls Tryz.prog 210 #[va, vb] w (RowRes (lv 1000000 x * lv 1000000 y) (x.length + y.length + 1) w) := by
  obtain ⟨a0, c0, hva⟩ := ha.form
  obtain ⟨a1, c1, hvb⟩ := hb.form
  subst hva; subst hvb
  obtain ⟨n, hn⟩ : ∃ n, n = x.length + y.length + 1 := ⟨_, rfl⟩
  have hn2 : (x.length : Int) + (y.length : Int) + 1 = (n : Int) := by omega
  have hmk := make_ints n (by omega)
  have HA := hide ha; have HBB := hide hb; have HX := hide hx; have HY := hide hy; have HN := hide hn
  have hnb : n ≤ 200001 := by omega
  clear ha hb hx hy hn
  go_enter Tryz.func210, Tryz.ntmps210
  go_wp2_with fail
  clear hmk hn2
  have H0 := hide (heap_alloc_new w (rowO (zeros n))); have HB0 := hide ((Below.refl w.heap.size w).alloc (Nat.le_refl _) (rowO (zeros n)))
  go_loopw [6] (fun i wr => ∃ k : Nat, k ≤ x.length ∧ i = .int .i64 k ∧ Hid (∃ L : List Nat, L.length = n ∧ Lt 1000000 L ∧ lv 1000000 L = lvT 1000000 x k * lv 1000000 y ∧ wr.heap[w.heap.size]? = some (rowO L) ∧ Below w.heap.size w wr)) (fun i _ => x.length - (intOf i).toNat)
  case atStart =>
    refine ⟨0, Nat.zero_le _, rfl, zeros n, zeros_len n, zeros_lt _ _ (by omega), ?_, H0.out, HB0.out⟩
    rw [lvT_zero, zeros, lv_zeros]
    simp
  case round =>
    obtain ⟨i, hi, rfl, hin⟩ := hrel
    obtain ⟨L0, hL0n, hL0t, hL0v, hL0b, hL0w⟩ := hin.out
    have hsz := lt_blk hL0b
    by_cases hlt : i < x.length
    · have e3 : (i : Int) < (x.length : Int) := by omega
      rcases (HA.out.below hL0w hB).cases with ⟨_, _, _, hnil⟩ | ⟨b, o, cap, hv, hbb, hcl⟩
      · rw [hnil] at hlt
        simp at hlt
      injection hv with hv1 hv2 hv3
      subst hv1; subst hv3
      have hcell := hide (fun W (h : Below w.heap.size w W) => (h.cell (p := ⟨b, o + i, none⟩) (by simp; omega)).trans ((hL0w.cell (p := ⟨b, o + i, none⟩) (by simp; omega)).symm.trans (hcl i hlt)))
      have hxi := lat_lt (by omega) HX.out i
      obtain ⟨X, hX⟩ : ∃ X, X = lat x i := ⟨_, rfl⟩
      rw [← hX] at hcell hxi
      have HXE := hide hX; have HL0 := hide hL0b; have HW0 := hide hL0w; have HV0 := hide hL0v; have HN0 := hide hL0n; have HT0 := hide hL0t
      clear hcl hv2 hX hL0n hL0t hL0v hL0b hL0w hin hbb
      obtain ⟨wo, hwo⟩ : ∃ wo, wo = wr := ⟨_, rfl⟩
      subst hwo
      go_wp2_with fail
      go_loopw [7, 8] (fun c j wr => ∃ (k C : Nat), k ≤ y.length + 1 ∧ j = .int .i64 k ∧ c = .int .i64 C ∧ C < 1000000 ∧ Hid (∃ L : List Nat, L.length = n ∧ Lt 1000000 L ∧ lv 1000000 L + 1000000 ^ (i + k) * C = lv 1000000 L0 + X * lvT 1000000 y k * 1000000 ^ i ∧ wr.heap[w.heap.size]? = some (rowO L) ∧ Below w.heap.size w wr)) (fun _ j _ => y.length + 1 - (intOf j).toNat)
      case atStart =>
        refine ⟨0, 0, Nat.zero_le _, rfl, rfl, by omega, L0, HN0.out, HT0.out, ?_, HL0.out, HW0.out⟩
        rw [lvT_zero]
        simp
      case round =>
        obtain ⟨k, C, hk, rfl, rfl, hC, hin⟩ := hrel
        obtain ⟨L, hLn, hLt, hLv, hLb, hLw⟩ := hin.out
        have hsz2 := lt_blk hLb
        have hzero : y.length + 1 ≤ k → C = 0 := fun h => by
          have hk1 : k = y.length + 1 := by omega
          exact times_zero (by omega) HX.out HY.out hk1 (hLv.trans (times_total HV0.out (X := X) HXE.out (k := k) (by omega)))
        have hdone : ¬ k < y.length → C = 0 → lv 1000000 L = lvT 1000000 x (i + 1) * lv 1000000 y := fun h h2 => by
          have htot := hLv.trans (times_total HV0.out (X := X) HXE.out (k := k) (by omega))
          rw [h2] at htot
          simpa using htot
        rcases (show (k < y.length) ∨ (¬ k < y.length ∧ 0 < C) ∨ (¬ k < y.length ∧ C = 0) by omega) with h1 | ⟨h1, h2⟩ | ⟨h1, h2⟩
        case' inl =>
          have e4 : (k : Int) < (y.length : Int) := by omega
          have hkl : k < y.length + 1 := by omega
        case' inr.inl =>
          have e4 : ((k : Int) < (y.length : Int)) = False := eq_false (by omega)
          have e5 : 0 < C := h2
          have hkl : k < y.length + 1 := by
            rcases Nat.lt_or_ge k (y.length + 1) with h | h
            · exact h
            · have := hzero h
              omega
        rotate_right
        · have e4 : ((k : Int) < (y.length : Int)) = False := eq_false (by omega)
          have HLE := hide (hdone h1 h2)
          subst h2
          have HLt := hide hLt; have HLn := hide hLn; have HLb := hide hLb; have HLw := hide hLw
          clear hLv hLt hLn hLb hLw hzero hdone hin h1
          go_wp2_with fail
          go_roundw
          case rel => exact ⟨i + 1, by omega, by go_num, L, HLn.out, HLt.out, HLE.out, HLb.out, HLw.out⟩
          case measure => simp [intOf]; omega
        all_goals
          have hik : i + k < L.length := by rw [hLn, HN.out]; omega
          have q1 := row_cell hLb hik
          have q2 := row_froz hLb (i + k)
          have q3 := hcell.out wr hLw
          have hyk := lat_lt (by omega) HY.out k
          have hlk := lat_lt (by omega) hLt (i + k)
          have hlim := hide (fun m : Nat => rlimb_any (.slice a1 y.length c1) y k B (wr.drewN m) (HBB.out.below (below_drewN hLw m) hB) (by omega))
          obtain ⟨Y, hY⟩ : ∃ Y, Y = lat y k := ⟨_, rfl⟩
          obtain ⟨Q, hQ⟩ : ∃ Q, Q = lat L (i + k) := ⟨_, rfl⟩
          rw [← hY] at hyk hlim
          rw [← hQ] at hlk q1
          obtain ⟨p, T, Dv, R, -, hpi, w2, w3, w4, hD, hR, hTl, hDl, hRl, hs⟩ := rtimes_nums hxi hyk hlk hC
          have w1 : IntKind.i64.wrap ((i : Int) + (k : Int)) = (i : Int) + (k : Int) := IntWalk.i64_in _ (by omega)
          have j0 : (0 : Int) ≤ (i : Int) + (k : Int) := by omega
          have j1 : (i : Int) + (k : Int) < (n : Int) := by have := HN.out; omega
          have j2 : ((i : Int) + (k : Int)).toNat = i + k := by omega
          have HLv := hide hLv; have HLt := hide hLt; have HLn := hide hLn; have HLb := hide hLb; have HLw := hide hLw; have HYE := hide hY; have HQE := hide hQ; have HIK := hide hik; have HS := hide hs; have HDE := hide hD
          clear hLv hLt hLn hLb hLw hY hQ hik hin hs hzero hdone h1
          go_wp2_with fail
          go_quiet ((go_at_call 245; exact Calls.quiet_of_same (hlim.out _)))
          clear w2 w3 w4 hpi hlim
          go_wp2_with fail
          go_roundw
          case rel =>
            refine ⟨k + 1, Dv, by omega, by go_num, by first | rfl | rw [HDE.out], hDl, L.set (i + k) R, by rw [List.length_set]; exact HLn.out, lt_set HLt.out hRl, ?_, ?_, ?_⟩
            · rw [lvT_succ, ← HYE.out]
              have h1 := lv_set (b := 1000000) R HIK.out
              rw [← HQE.out] at h1
              exact times_step HLv.out h1 HS.out
            · exact row_set (w := wr.drewN nq) HLb.out (i + k) _
            · exact (below_drewN HLw.out nq).setCell (p := ⟨w.heap.size, i + k, none⟩) (Nat.le_refl _) _
          case measure => simp [intOf]; omega
    · have e3 : ¬ (i : Int) < (x.length : Int) := by omega
      have HE := hide (show lv 1000000 L0 = lv 1000000 x * lv 1000000 y by rw [hL0v, lvT_all (l := x) (i := i) (by omega)])
      have HT := hide (rtrim_any (some ⟨w.heap.size, 0, none⟩) n L0 wr.heap.size wr (by
        have := row_limbs hL0b (by unfold maxLen; omega)
        rw [hL0n] at this ⊢
        exact this) (by omega) (by omega))
      rw [hL0n] at HT
      have HO := hide (row_owns hL0b (Nat.le_refl _) (by unfold maxLen; omega))
      have HLn := hide hL0n; have HLw := hide hL0w; have HLt := hide hL0t
      clear hL0n hL0t hL0v hL0b hL0w hin
      go_wp2_with fail
      refine HT.out.mono ?_
      rintro e w1 ⟨rfl, rfl⟩
      go_wp2_with fail
      go_ret
      refine ⟨trimL L0, ⟨_, rfl, HLw.out, ?_⟩, trimL_norm HLt.out, by rw [trimL_lv, HE.out], ?_⟩
      · have hc := HO.out.cut (k := trimTo L0 n) (by rw [HLn.out]; exact trimTo_le _ _)
        rw [HLn.out] at hc
        unfold trimL
        rw [HLn.out]
        exact hc
      · rw [trimL_len]
        have := trimTo_le L0 L0.length
        have := HLn.out
        have := HN.out
        omega
open Go.RowKit Go.KP Go.KI Go.Shelf
attribute [local go_sem] Oper.semAt_some

theorem cell_alloc {w : World} {b2 o : Nat} {ob : Obj} (h : b2 < w.heap.size) : (w.alloc ob).cell? ⟨b2, o, none⟩ = w.cell? ⟨b2, o, none⟩ := by
  have h1 : (w.alloc ob).heap[b2]? = w.heap[b2]? := Below.heap_alloc _ _ _ h
  simp only [World.cell?, h1]
abbrev bigO (m : Bool) (v : Value) : Obj := .cells #[.bool m, v] 222
open Go.RowKit Go.KP Go.KI Go.Shelf
attribute [local go_sem] Oper.semAt_some

theorem pow17 : (10 : Nat) ^ 17 = 100000000000000000 := by decide
end Go.Proofs.YtklgpilgalfckaaGreatDoor
