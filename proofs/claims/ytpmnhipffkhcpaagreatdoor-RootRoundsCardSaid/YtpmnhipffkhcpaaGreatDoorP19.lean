/-
  Texts laid together.
-/
import Derived.Test.YtpmnhipffkhcpaaGreatDoorP9
import Derived.Test.YtpmnhipffkhcpaaGreatDoorP17
import Derived.Test.YtpmnhipffkhcpaaGreatDoorP18
import Derived.Lib.MinMax
set_option maxRecDepth 100000
set_option maxHeartbeats 16000000
namespace Go.KP
open Go
theorem in_load_row {P : Program} {F : Fence} {n : Nat} {ops : Array Oper} {rest : List Oper} {o : Oper} {a : Act} {w : World} {Q : Exit → Act → World → Prop} (hgd : o.guard = none) (ty : TypeId) (x : Operand) (ho : o.op = .load ty x)
    (g : Nat) (hx : a.eval x = .pointer (some ⟨g, 0, none⟩)) (t : TypeId) (cs : Array Value) (fr : Nat × Nat) (d : TypeDesc) (hg : w.heap[g]? = some (.cells cs t fr))
    (hu : P.underlying ty = some d) (hd : (match d with | .struct _ | .array _ _ => true | _ => false) = true) (hi : (P.info? ty).map (·.size) = some cs.size)
    (h : wpListIn F n P ops Q rest (a.put o.dst (.agg cs)) w) : wpListIn F n P ops Q (o :: rest) a w := by
  refine wpListIn_plain hgd fun K hK => ?_
  unfold Oper.wpIn
  refine ⟨?_, ?_⟩
  · simp [Oper.about, ho]
  · rw [Oper.semAt_plain F _ _ (by rw [ho]; intro c hc'; cases hc')]
    simp only [execOp, ho, hx, Instr.loadAt, Instr.sureAddr, Sem.run_bind, Sem.run_pure, Result.andThen_ok, run_loadVar_row w g t ty cs fr d hg hu hd hi]
    exact hK _ _ h
end Go.KP
namespace Go.Proofs.YtpmnhipffkhcpaaGreatDoor
open Go.RowKit Go.KP Go.KI Go.Shelf
attribute [local go_sem] Oper.semAt_some

abbrev boxS (s : ByteArray) : Obj := .cells #[.string s] 9
theorem primeB_iB (k : Nat) : primeB k = iB ((primes25.getD k 0 : Nat) : Int) := by
  apply bytes_eq
  rw [iB_nonneg (by omega), Int.natAbs_natCast]
  exact strB_list _
theorem squares_any (s : ByteArray) (w : World) :
    Calls Tryz.prog 291 #[.string s] w (fun e w' => e = .returned (.func (.func 369) #[] #[.pointer (some ⟨w.heap.size, 0, none⟩)]) ∧ w' = w.alloc (boxS s)) := by
  go_enter Tryz.func291, Tryz.ntmps291
  go_wp2_with fail
  go_ret
  exact ⟨rfl, rfl⟩
def boxN (bx : Nat) (W : World) : Nat := match W.heap[bx]? with | some (.cells cs _ _) => (match cs[0]? with | some (Value.string s) => (valI s.data.toList).toNat | _ => 0) | _ => 0
theorem boxN_of {bx : Nat} {W : World} {r : Nat} (h : W.heap[bx]? = some (boxS (iB (r : Int)))) : boxN bx W = r := by
  unfold boxN
  rw [h]
  simp [iB_list, val_itoa]
theorem box_set {bx : Nat} {W : World} {s : ByteArray} (h : W.heap[bx]? = some (boxS s)) (t : ByteArray) : (W.setCell ⟨bx, 0, none⟩ (.string t)).heap[bx]? = some (boxS t) := by
  simp only [World.setCell, Array.getElem?_modify, h, Option.map_some, if_true]
  rfl
theorem squaresSeq_any (m : Nat) (hm : 0 < m) (hf : fits (m : Int)) (bx : Nat) (B : Nat) (w : World) (hb : w.heap[bx]? = some (boxS (iB (m : Int)))) (hB : B ≤ bx) :
    IterOwn Tryz.prog 369 #[.pointer (some ⟨bx, 0, none⟩)] (fun k => #[.string (iB ((stepAt m k).1 : Int)), .string (iB ((stepAt m k).2 : Int))]) (allS m).length (fun _ W => PR B W) (fun b => b = bx) w := by
  intro l J Jx W hown hJ hJx hJS hKe hY h0
  refine callsIn_of_wp Tryz.func369 rfl trivial ?_ rfl
  simp only [Tryz.ntmps369, List.size_toArray, List.length_cons, List.length_nil, Nat.reduceAdd, Nat.reduceSub, Array.replicate_succ, Array.replicate_zero, List.push_toArray, List.append_toArray, List.nil_append, List.cons_append]
  have HBX := hide (show bx < W.heap.size ∧ W.heap[bx]? = some (boxS (iB (m : Int))) from ⟨(hown bx rfl).1, (hown bx rfl).2.trans hb⟩)
  obtain ⟨tt, fr, hg1⟩ := (hKe 0 _ _ (Nat.zero_le _) h0).pr
  have HJ := hide hJ; have HJx := hide hJx; have HJS := hide hJS; have HY := hide hY; have H0 := hide h0; have HK := hide hKe
  have HF := hide hf
  clear hJ hJx hJS hY h0 hKe hb hown hf
  gi_wp2_with (refine in_load_row rfl 351 _ rfl 1 rfl tt _ fr _ hg1 Tryz.underlying351 rfl (by kernel_rfl) ?_)
  clear hg1
  gi_loopw [9] (fun i wr => ∃ (j k r : Nat) (S : Nat → Prop), j ≤ 25 ∧ i = .int .i64 j ∧ 0 < r ∧ Hid (k ≤ (allS m).length ∧ (allS m).drop k = remS j r ∧ r ≤ m ∧ J k S wr ∧ bx < wr.heap.size ∧ wr.heap[bx]? = some (boxS (iB (r : Int))) ∧ W.heap.size ≤ wr.heap.size)) (fun i _ => 25 - (intOf i).toNat)
  case atStart => exact ⟨0, 0, m, _, by omega, rfl, hm, Nat.zero_le _, rfl, Nat.le_refl _, H0.out, HBX.out.1, HBX.out.2, Nat.le_refl _⟩
  case round =>
    obtain ⟨j, k, r, S, hj, rfl, hr0, hin⟩ := hrel
    have IN := hide hin.out
    clear hin
    by_cases hlt : j < 25
    · have hji : (j : Int) < 25 := by omega
      have hpx := fun w => pidx hlt w
      obtain ⟨b1, b2⟩ := prime_bounds hlt
      rw [primeB_iB] at hpx
      have HST := hide (fun r => @remS_step j r hlt b1)
      have HNX := hide (fun r => @remS_next j r hlt)
      obtain ⟨q, hq⟩ : ∃ q, q = primes25.getD j 0 := ⟨_, rfl⟩
      rw [← hq] at hpx b1 b2 HST HNX
      have HP := hide (HK.out k S wr IN.out.1 IN.out.2.2.2.1)
      have fq : fits (q : Int) := fits_small (n := 3) (by rw [most_eq]; omega) (by omega)
      have hqq : 4 ≤ q * q ∧ q * q ≤ 9409 := ⟨Nat.mul_le_mul b1 b1, Nat.mul_le_mul b2 b2⟩
      have fqq : fits ((q : Int) * (q : Int)) := fits_small (n := 5) (by rw [most_eq]; omega) (by rw [Int.natAbs_mul, Int.natAbs_natCast]; omega)
      have HM := hide (fun w hB hT => rmul_I fq fq fqq B w hB hT)
      have HSM := hide hm
      have FQQ := hide fqq
      have QQ := hide (show (q : Int) * (q : Int) = ((q * q : Nat) : Int) from (Int.natCast_mul q q).symm)
      clear hq fq fqq hm hlt
      gi_wp2
      refine ⟨trivial, rfl, (callsIn_wide.2 (HM.out _ (Nat.le_trans hB (Nat.le_of_lt IN.out.2.2.2.2.1)) HP.out.pq.p10)).mono ?_⟩
      rintro e w1 ⟨rfl, hb1⟩
      have IN1 := hide (show k ≤ (allS m).length ∧ (allS m).drop k = remS j r ∧ r ≤ m ∧ J k S w1 ∧ bx < w1.heap.size ∧ w1.heap[bx]? = some (boxS (iB (r : Int))) ∧ W.heap.size ≤ w1.heap.size from
        ⟨IN.out.1, IN.out.2.1, IN.out.2.2.1, HJ.out k _ _ _ IN.out.2.2.2.1 ((QuietO.refl _ _ _ wr).of_below hb1 (Nat.le_refl _)), Nat.lt_of_lt_of_le IN.out.2.2.2.2.1 hb1.size, below_blk hb1 IN.out.2.2.2.2.2.1 IN.out.2.2.2.2.1, Nat.le_trans IN.out.2.2.2.2.2.2 hb1.size⟩)
      clear hb1 IN HP hpx HM
      gi_wp2
      gi_loopw [6] (fun _ wr2 => ∃ (k r : Nat) (S : Nat → Prop), 0 < r ∧ Hid (k ≤ (allS m).length ∧ (allS m).drop k = remS j r ∧ r ≤ m ∧ J k S wr2 ∧ bx < wr2.heap.size ∧ wr2.heap[bx]? = some (boxS (iB (r : Int))) ∧ W.heap.size ≤ wr2.heap.size)) (fun _ wr2 => boxN bx wr2)
      case atStart => exact ⟨k, r, S, hr0, IN1.out⟩
      clear IN1 hr0
      case round =>
        obtain ⟨k, r, S, hr0, hin⟩ := hrel
        have I2 := hide hin.out
        clear hin
        have c0 := cell_blk I2.out.2.2.2.2.2.1 0
        have l0 := I2.out.2.2.2.2.1
        have HP := hide (HK.out k S _ I2.out.1 I2.out.2.2.2.1)
        have fr := hide (show fits (r : Int) from fits_of_le HF.out (by have := I2.out.2.2.1; omega))
        have HD := hide (fun w hB hT => rquot_I fr.out FQQ.out (by have := QQ.out; omega) B w hB hT)
        by_cases hd : r % (q * q) = 0
        · have HS := hide ((HST.out r hr0 hd))
          obtain ⟨R, hR⟩ : ∃ R, R = r / (q * q) := ⟨_, rfl⟩
          have e1 : (r : Int) / ((q : Int) * (q : Int)) = (R : Int) := by rw [QQ.out, hR, Int.natCast_ediv]
          have e2 : (r : Int) % ((q : Int) * (q : Int)) = 0 := by rw [QQ.out, ← Int.natCast_emod, hd]; rfl
          obtain ⟨p1, p2⟩ := strip_less b1 hr0 hd
          rw [← hR] at p1 p2 HS
          rw [e1, e2] at HD
          have hz : ((iB 0).toList == [48]) = true := by rw [iB_zero_test]; rfl
          clear e1 e2 hd hR
          gi_wp2
          refine ⟨trivial, rfl, (callsIn_wide.2 (HD.out _ (Nat.le_trans hB (Nat.le_of_lt l0)) HP.out.pq.p10)).mono ?_⟩
          rintro e w3 ⟨rfl, hb3⟩
          have HB3 := hide (below_blk hb3 I2.out.2.2.2.2.2.1 l0)
          have l3 : bx < w3.heap.size := Nat.lt_of_lt_of_le l0 hb3.size
          have hdr := drop_at (I2.out.2.1.trans HS.out)
          have hJ4 : J k S (w3.setCell ⟨bx, 0, none⟩ (.string (iB (R : Int)))) := HJ.out k _ _ _ I2.out.2.2.2.1 (QuietO.set (O := fun b => b = bx) (p := ⟨bx, 0, none⟩) ((QuietO.refl (fun b => b = bx) W.heap.size S wr).of_below hb3 (Nat.le_refl _)) rfl _)
          have hs4 : W.heap.size ≤ (w3.setCell ⟨bx, 0, none⟩ (.string (iB (R : Int)))).heap.size := by
            have := hb3.size
            have := I2.out.2.2.2.2.2.2
            simp [World.setCell]
            omega
          have hyy := HY.out k S _ hdr.1 hJ4 hs4
          rw [hdr.2.1] at hyy
          dsimp only at hyy
          obtain ⟨fn, tmps, assign, body, hy, hR⟩ := hyy
          have HR := hide hR
          have H4 := hide (And.intro hdr.1 (And.intro hdr.2.2 (And.intro hs4 (box_set HB3.out (iB (R : Int))))))
          have HRM := hide (show R ≤ m by have := I2.out.2.2.1; omega)
          have HBN := hide (boxN_of I2.out.2.2.2.2.2.1)
          have c3 := cell_blk HB3.out 0
          have f3 := froz_blk HB3.out 0
          clear hR hdr hJ4 hs4 hb3 c0 l0 HD HP fr HS I2
          gi_wp2
          refine ⟨rfl, HR.out.mono ?_⟩
          rintro e W5 ⟨S3, hu3, ho3, (⟨rfl, hJ3⟩ | ⟨rfl, hJx3⟩)⟩
          · have HJ3 := hide hJ3
            have H5 := hide (show W5.heap[bx]? = some (boxS (iB (R : Int))) from (ho3 bx rfl).trans H4.out.2.2.2)
            have H6 := hide (Nat.le_trans H4.out.2.2.1 hu3.size)
            clear hu3 ho3 hJ3 hy HR c3 f3 l3 HB3
            gi_wp2
            go_roundw
            case rel => exact ⟨k + 1, R, S3, p1, H4.out.1, H4.out.2.1, HRM.out, HJ3.out, lt_blk H5.out, H5.out, H6.out⟩
            case measure =>
              rw [HBN.out, boxN_of H5.out]
              exact p2
          · clear hu3 ho3 hy HR c3 f3 l3 HB3
            gi_wp2
            refine bodyPost_ret (results_none rfl _ _ _) rfl ?_
            exact ⟨⟨_, rfl⟩, S3, .inr hJx3⟩
        · have HS := hide (HNX.out r hr0 hd)
          have e2 : (r : Int) % ((q : Int) * (q : Int)) = ((r % (q * q) : Nat) : Int) := by rw [QQ.out, Int.natCast_emod]
          rw [e2] at HD
          have hz : ((iB ((r % (q * q) : Nat) : Int)).toList == [48]) = false := by
            rw [iB_zero_test, decide_eq_false_iff_not]
            omega
          generalize iB ((r % (q * q) : Nat) : Int) = Z at HD hz
          generalize iB ((r : Int) / ((q : Int) * (q : Int))) = Y at HD
          clear e2 hd
          gi_wp2
          refine ⟨trivial, rfl, (callsIn_wide.2 (HD.out _ (Nat.le_trans hB (Nat.le_of_lt l0)) HP.out.pq.p10)).mono ?_⟩
          rintro e w3 ⟨rfl, hb3⟩
          have H3 := hide (show k ≤ (allS m).length ∧ (allS m).drop k = remS (j + 1) r ∧ r ≤ m ∧ J k S w3 ∧ bx < w3.heap.size ∧ w3.heap[bx]? = some (boxS (iB (r : Int))) ∧ W.heap.size ≤ w3.heap.size from
            ⟨I2.out.1, I2.out.2.1.trans HS.out, I2.out.2.2.1, HJ.out k _ _ _ I2.out.2.2.2.1 ((QuietO.refl _ _ _ wr).of_below hb3 (Nat.le_refl _)), Nat.lt_of_lt_of_le l0 hb3.size, below_blk hb3 I2.out.2.2.2.2.2.1 l0, Nat.le_trans I2.out.2.2.2.2.2.2 hb3.size⟩)
          clear hb3 c0 l0 HD HP fr I2 HS
          gi_wp2
          go_roundw
          case rel => exact ⟨j + 1, k, r, S, by omega, by simp, hr0, H3.out⟩
          case measure => simp [intOf]; omega
    · obtain rfl : j = 25 := by omega
      have HE := hide (drop_end IN.out.1 (IN.out.2.1.trans (remS_end r)))
      clear hlt
      gi_wp2
      refine bodyPost_end (results_none rfl _ _ _) rfl ?_
      exact ⟨⟨_, rfl⟩, S, .inl (by rw [← HE.out]; exact IN.out.2.2.2.1)⟩
end Go.Proofs.YtpmnhipffkhcpaaGreatDoor
namespace Go.KI
open Go
theorem long_fits {q : Rat} (h1 : (Lib.decDigits q.num.natAbs).length ≤ 90) (h2 : (Lib.decDigits q.den).length ≤ 90) (h0 : 0 < q.num) : fits ((q.num.toNat * q.den : Nat) : Int) := by
  refine fits_small (n := 180) (by rw [most_eq]; omega) ?_
  rw [Int.natAbs_natCast]
  have a := (dec_len_le (n := 90) (by omega)).1 h1
  have b := (dec_len_le (n := 90) (by omega)).1 h2
  have e : q.num.toNat = q.num.natAbs := by omega
  rw [e]
  exact mul_pow_lt a b
end Go.KI
namespace Go.Proofs.YtpmnhipffkhcpaaGreatDoor
open Go.RowKit Go.KP Go.KI Go.Shelf
attribute [local go_sem] Oper.semAt_some

theorem cls_retQ {g : Nat} {args : Array Value} {v : Value} {B m : Nat} {w0 : World} (h : ∀ w, B ≤ w.heap.size → PQ B w → Calls Tryz.prog g args w (Ret w v)) (hT : PQ B w0) (hB : B ≤ m) (hm : m ≤ w0.heap.size) (x : Of (Below m w0)) :
    Calls Tryz.prog g args x.w fun e w' => e = .returned v ∧ Cls (Below m w0) w' :=
  (h x.w (by have := x.h.size; omega) (hT.on x.h hB)).mono fun _ _ ⟨h, hb⟩ => ⟨h, Cls.mk (x.h.trans (hb.mono (by have := x.h.size; omega)))⟩
instance ofBelow (n : Nat) (w : World) : Nonempty (Of (Below n w)) := ⟨⟨w, Below.refl n w⟩⟩
theorem set_off {w : World} {b c o : Nat} {x : Obj} (h : w.heap[b]? = some x) (hne : c ≠ b) (v : Value) : (w.setCell ⟨c, o, none⟩ v).heap[b]? = some x := by
  simp only [World.setCell]
  rw [Array.getElem?_modify, if_neg hne]
  exact h
theorem below_set2 {n b c : Nat} {w w1 : World} (h : Below n w w1) (hb : n ≤ b) (hc : n ≤ c) (u v : Value) : Below n w ((w1.setCell ⟨b, 0, none⟩ u).setCell ⟨c, 0, none⟩ v) :=
  h.trans ⟨rfl, rfl, rfl, by simp [World.setCell], fun j hj => (Below.heap_setCell _ _ _ _ (by show j ≠ c; omega)).trans (Below.heap_setCell _ _ _ _ (by show j ≠ b; omega))⟩
theorem rNormal_long {q : Rat} (fq : roomy q) (h0 : 0 < q.num) (hs : 17 < (numB q).size + (denB q).size) (B : Nat) (w : World) (hB : B ≤ w.heap.size) (hT : PR B w) :
    Calls Tryz.prog 162 #[.string (T q)] w (Ret w (.tuple #[.string (T (normC q)), .string (iB (normL q : Nat)), .int .i64 0])) := by
  have HT := hide hT
  have X0 := hide (heap2 w (.cells #[.string (T q)] 22) (.cells #[.string (T q)] 22))
  have HC := hide (rCheck_ok w.heap.size (w.heap.size + 1) [q] [q] (by simp) (by simp) (fun x hx => by simp at hx; rw [hx]; exact fq) (fun x hx => by simp at hx; rw [hx]; omega) B _ (nums1 X0.out.1) (nums1 X0.out.2.1) (Nat.le_trans hB X0.out.2.2.2.size) (hT.pq.on X0.out.2.2.2 hB))
  have HO := hide (fun w hB hT => rOf_T fq.1 B w hB hT)
  obtain ⟨m, hm⟩ : ∃ m, m = q.num.toNat * q.den := ⟨_, rfl⟩
  have fm : fits (m : Int) := by rw [hm]; exact long_fits fq.2.1 fq.2.2 h0
  have hm0 : 0 < m := by rw [hm]; exact Nat.mul_pos (by omega) q.den_pos
  have hN : numB q = iB q.num := rfl
  have hD : denB q = iB (q.den : Int) := rfl
  have hnd : q.num * (q.den : Int) = (m : Int) := by
    rw [hm, Int.natCast_mul]
    congr 1
    omega
  have HM := hide (fun w hB hT => rmul_I fq.1.1 fq.1.2 (by rw [hnd]; exact fm) B w hB hT)
  rw [hnd] at HM
  have hz : ((iB q.num).toList == [48]) = false := by
    rw [iB_zero_test, decide_eq_false_iff_not]
    omega
  have hsz : ((((numB q).size : Int) + ((denB q).size : Int)) ≤ 17) = False := eq_false (by omega)
  have fN := iB_size fq.1.1
  have fD := iB_size fq.1.2
  have hnorm : T (normC q) = T (((normN m).1 : Rat) / (q.den : Rat)) ∧ iB (normL q : Nat) = iB ((normN m).2 : Nat) := by
    unfold normC normL
    rw [← hm, Rat.divInt_eq_div]
    exact ⟨rfl, rfl⟩
  rw [hnorm.1, hnorm.2]
  obtain ⟨V1, hV1⟩ : ∃ V, V = T (((normN m).1 : Rat) / (q.den : Rat)) := ⟨_, rfl⟩
  obtain ⟨V2, hV2⟩ : ∃ V, V = iB ((normN m).2 : Nat) := ⟨_, rfl⟩
  rw [← hV1, ← hV2]
  have fd := fq.1.2
  have hd0 := q.den_pos
  rw [hN, hD] at HO hsz
  generalize hNN : iB q.num = N at HM HO hz hsz fN
  generalize hDD : iB (q.den : Int) = D at HM HO hsz fD
  generalize hXX : T q = X at HC HO X0 ⊢
  obtain ⟨dd, hdd⟩ : ∃ d, d = q.den := ⟨_, rfl⟩
  rw [← hdd] at fd hd0 hDD hV1
  have HV1 := hide hV1
  have HV2 := hide hV2
  have FM := hide fm
  have FD := hide fd
  have HDD := hide hDD
  clear hV1 hV2 fm fd hDD
  clear hdd hXX hNN hm hN hD hnd hnorm hs h0 fq hT
  refine (callsIn_wide (n := 0)).1 ?_
  refine callsIn_of_wp_marks Tryz.func162 rfl trivial ?_ rfl
  simp only [Tryz.ntmps162, List.size_toArray, List.length_cons, List.length_nil, Nat.reduceAdd, Nat.reduceSub, Array.replicate_succ, Array.replicate_zero, List.push_toArray, List.append_toArray, List.nil_append, List.cons_append]
  gi_wp2_with fail
  refine ⟨trivial, rfl, (callsIn_wide.2 HC.out).mono ?_⟩
  rintro e w1 ⟨rfl, hb1⟩
  have HB1 := hide (X0.out.2.2.2.trans (hb1.mono X0.out.2.2.2.size))
  clear hb1 HC X0
  gi_wp2_with fail
  refine ⟨trivial, rfl, (callsIn_wide.2 (HO.out _ (Nat.le_trans hB HB1.out.size) (HT.out.on HB1.out hB).pq)).mono ?_⟩
  rintro e w2 ⟨rfl, hb2⟩
  have X2 := hide (heap1 w2 (rpairO N D))
  have G2 := hide X2.out.1
  have HB2 := hide (HB1.out.trans ((hb2.trans (X2.out.2.2.mono hb2.size)).mono HB1.out.size))
  have hsz2 := HB1.out.size
  have hsz2b := hb2.size
  clear hb2 X2
  have k0 := cell_blk G2.out 0
  have k1 := cell_blk G2.out 1
  have kl := lt_blk G2.out
  gi_wp2_with fail
  refine ⟨trivial, rfl, (callsIn_wide.2 (HM.out _ (Nat.le_trans hB HB2.out.size) (HT.out.on HB2.out hB).pq.p10)).mono ?_⟩
  rintro e w3 ⟨rfl, hb3⟩
  have G3 := hide (below_blk hb3 G2.out (lt_blk G2.out))
  have HB3 := hide (HB2.out.trans (hb3.mono HB2.out.size))
  have hsz3 : w2.heap.size < w3.heap.size := Nat.lt_of_lt_of_le kl hb3.size
  clear hb3 k0 k1 kl G2
  gi_wp2_with fail
  refine ⟨trivial, rfl, (callsIn_wide.2 (squares_any (iB (m : Int)) _)).mono ?_⟩
  rintro e w4 ⟨rfl, hw4⟩
  obtain ⟨Y1, Y2, Y3, Y4, Y5⟩ := heap3 w3 (boxS ⟨#[49]⟩) (boxS (iB (m : Int))) (boxS (iB (m : Int)))
  rw [← hw4] at Y1 Y2 Y3 Y4 Y5
  have y4 := Y4
  have C0 := hide Y1; have L0 := hide Y2; have B0 := hide Y3
  have P0 := hide (below_blk Y5 G3.out (lt_blk G3.out))
  have HB4 := hide (HB3.out.trans (Y5.mono HB3.out.size))
  clear Y1 Y2 Y3 Y4 Y5 hw4 G3
  have B4 := hide (Nat.le_trans hB HB3.out.size)
  gi_wp2_with fail
  refine wp_iter_own (gf := 369) (lb := #[.pointer (some ⟨w3.heap.size + 1 + 1, 0, none⟩)]) rfl (enters_of Tryz.func369 (by kernel_rfl) rfl)
    (squaresSeq_any m hm0 FM.out (w3.heap.size + 2) B w4 B0.out (Nat.le_trans B4.out (by omega))) (fun b hb => ⟨by rw [hb, y4]; omega, rfl⟩) (fun _ => rfl)
    (fun k S W => S = (fun _ => False) ∧ W.heap[w2.heap.size]? = some (rpairO N D) ∧ W.heap[w3.heap.size]? = some (boxS (iB ((prodK m k : Nat) : Int))) ∧ W.heap[w3.heap.size + 1]? = some (boxS (iB ((leftK m k : Nat) : Int))) ∧ Below w.heap.size w W)
    (fun _ _ _ => False) ?hI (fun _ _ _ _ h _ => h) ?h0 ?hke
    (fun k S a1' W => a1' = { tmps := #[.string X, undef, .string ⟨#[]⟩, .string ⟨#[]⟩, .int .i64 0, .int .i64 0, .pointer (some ⟨w2.heap.size, 0, none⟩), undef, undef, undef, undef, undef, undef, .pointer (some ⟨w3.heap.size, 0, none⟩), .pointer (some ⟨w3.heap.size + 1, 0, none⟩), .string (iB ((stepAt m k).1 : Int)), .string (iB ((stepAt m k).2 : Int)), undef, undef, .string X, .slice (some ⟨w.heap.size, 0, none⟩) 1 1, .string X, .slice (some ⟨w.heap.size + 1, 0, none⟩) 1 1, .int .i64 0, .int .i64 0, .bool false, undef, .string X, rpairV N D, .pointer (some ⟨w2.heap.size, 0, none⟩), .string N, .bool false, .pointer (some ⟨w2.heap.size, 0, none⟩), .string N, .int .i64 N.size, .pointer (some ⟨w2.heap.size, 1, none⟩), .string D, .int .i64 D.size, .int .i64 ((N.size : Int) + (D.size : Int)), .bool false, undef, undef, undef, undef, undef, undef, undef, undef, undef, undef, undef, undef, undef, undef, undef, undef, undef, undef, undef, undef, .pointer (some ⟨w2.heap.size, 0, none⟩), .string N, .pointer (some ⟨w2.heap.size, 1, none⟩), .string D, .string (iB (m : Int)), .string (iB (m : Int)), .func (.func 369) #[] #[.pointer (some ⟨w3.heap.size + 1 + 1, 0, none⟩)], .string (iB ((stepAt m k).1 : Int)), .string (iB ((stepAt m k).2 : Int)), undef, undef, undef, undef, undef, undef, undef, undef, undef, undef, undef, undef, undef, undef, undef, undef, undef, undef], defers := [] })
    ?hAx ?hassign ?hS ?hbody ?hdone ?hstop
  case hI =>
    rintro k S W W2 ⟨rfl, h1, h2, h3, h4⟩ hq
    have e : ∀ {b : Nat} {o : Obj}, b < w3.heap.size + 2 → W.heap[b]? = some o → W2.heap[b]? = some o := fun {b} {o} hb h => (hq.block b (by omega) (.inl (by omega)) (lt_blk h)).trans h
    have hs1 := HB3.out.size
    exact ⟨rfl, e (by omega) h1, e (by omega) h2, e (by omega) h3, ⟨hq.os.trans h4.os, hq.tape.trans h4.tape, hq.output.trans h4.output, Nat.le_trans h4.size hq.size, fun j hj => (hq.block j (by omega) (.inl (by omega)) (by have := h4.size; omega)).trans (h4.block j hj)⟩⟩
  case h0 => exact ⟨rfl, P0.out, by rw [(prodK_zero m).1, show ((1 : Nat) : Int) = 1 from rfl, iB1]; exact C0.out, by rw [(prodK_zero m).2]; exact L0.out, HB4.out⟩
  case hke =>
    rintro k S W _ ⟨rfl, _, _, _, h4⟩
    exact HT.out.on h4 hB
  case hAx =>
    rintro k S a1' W l r r2 h _
    exact h
  case hassign =>
    intro lp k S W K hsz hSlt hK
    have HK := hide hK
    clear hK
    gi_wp2
    exact HK.out _ _ (Quiet.refl _ _ _) (Upd.refl _ _ _) rfl
  case hS =>
    rintro k S W ⟨rfl, _⟩ b hb
    exact hb.elim
  case hstop =>
    intro D c S W _ h
    exact h.elim
  case hbody =>
    rintro lp k S a1' W hk ⟨rfl, h1, h2, h3, h4⟩ rfl hsz
    obtain ⟨s1, s2⟩ := prodK_succ hk
    have hmul : ((prodK m k : Nat) : Int) * (((stepAt m k).1 : Nat) : Int) = ((prodK m (k + 1) : Nat) : Int) := by rw [s1, Int.natCast_mul]
    have HMU := hide (fun w hB hT => rmul_I (x := ((prodK m k : Nat) : Int)) (y := (((stepAt m k).1 : Nat) : Int)) (fits_of_le FM.out (by have := (prodK_le hm0 k).1; omega)) (fits_of_le FM.out (by have := step_le hm0 hk; omega)) (by rw [hmul]; exact fits_of_le FM.out (by have := (prodK_le hm0 (k + 1)).1; omega)) B w hB hT)
    rw [hmul] at HMU
    have S2 := hide s2
    have G1 := hide h1; have G2 := hide h2; have G3 := hide h3; have G4 := hide h4
    have c0 := cell_blk h2 0
    have cl := lt_blk h2
    clear hmul s1 s2 h1 h2 h3 h4 C0 L0 B0 P0
    gi_wp2
    refine ⟨trivial, rfl, (CallsIn.inRound lp (callsIn_wide.2 (HMU.out W (Nat.le_trans hB G4.out.size) (HT.out.on G4.out hB).pq.p10))).mono ?_⟩
    rintro e W2 ⟨rfl, hb2⟩
    have K1 := hide (below_blk hb2 G1.out (lt_blk G1.out)); have K2 := hide (below_blk hb2 G2.out (lt_blk G2.out)); have K3 := hide (below_blk hb2 G3.out (lt_blk G3.out)); have K4 := hide (G4.out.trans (hb2.mono G4.out.size))
    have BB := hide hb2
    clear hb2 c0 cl
    have c0 := cell_blk K2.out 0
    have cl := lt_blk K2.out
    have d0 := cell_blk K3.out 0
    have dl := lt_blk K3.out
    have f0 := froz_blk K2.out 0
    have g0 := froz_blk K3.out 0
    have hs1 := HB3.out.size
    gi_wp2
    refine ⟨_, (((Upd.refl _ _ W).of_below BB.out (Nat.le_refl _)).setBox (p := ⟨w3.heap.size, 0, none⟩) (show w3.heap.size < w4.heap.size by omega) _).setBox (p := ⟨w3.heap.size + 1, 0, none⟩) (show w3.heap.size + 1 < w4.heap.size by omega) _, ?_, rfl, ?_, ?_, ?_, ?_⟩
    · rintro b rfl
      rw [Below.heap_setCell _ _ _ _ (show w3.heap.size + 2 ≠ w3.heap.size + 1 by omega), Below.heap_setCell _ _ _ _ (show w3.heap.size + 2 ≠ w3.heap.size by omega)]
      exact BB.out.block _ (by omega)
    · exact set_off (set_off K1.out (by omega) _) (by omega) _
    · exact set_off (box_set K2.out _) (by omega) _
    · rw [S2.out]
      exact box_set (set_off K3.out (by omega) _) _
    · exact below_set2 K4.out (by omega) (by omega) _ _
  case hdone =>
    rintro D' S W hD' ⟨rfl, h1, h2, h3, h4⟩ hDf
    obtain ⟨n, hn⟩ : ∃ n, n = (allS m).length := ⟨_, rfl⟩
    rw [← hn] at h2 h3
    obtain ⟨q1, q2, q3⟩ := prodK_law hm0 n
    obtain ⟨q4, q5⟩ := prodK_le hm0 n
    have hNS := normN_steps hm0
    rw [← hn] at hNS
    obtain ⟨c, hc⟩ : ∃ c, c = prodK m n := ⟨_, rfl⟩
    obtain ⟨l, hl⟩ : ∃ c, c = leftK m n := ⟨_, rfl⟩
    rw [← hc] at h2 q1 q3 q4 hNS
    rw [← hl] at h3 q1 q2 q5 hNS
    have fl : fits (l : Int) := fits_of_le FM.out (by omega)
    have HE := hide (fun w hB hT => rexact_I fl B w hB hT)
    have hdz : ((dd : Nat) : Int) ≠ 0 := by omega
    have hs1 := HB3.out.size
    have hld := lt_blk hDf
    have G1 := hide h1; have G2 := hide h2; have G3 := hide h3; have G4 := hide h4; have GD := hide hDf
    have d0 := cell_blk h3 0
    have dl := lt_blk h3
    clear h1 h2 h3 h4 hDf C0 L0 B0 P0 hc hl hn
    obtain ⟨b, hb⟩ : ∃ b, b = sqI l := ⟨_, rfl⟩
    rw [← hb] at HE hNS
    cases b
    · rw [if_neg (by simp)] at hNS
      have e1 : T (((c : Nat) : Rat) / (dd : Rat)) = V1 := by rw [HV1.out, hNS]
      have e2 : iB (l : Int) = V2 := by rw [HV2.out, hNS]
      have HFR := hide (fun w hB hT => rfraction_I (x := ((c : Nat) : Int)) (y := ((dd : Nat) : Int)) (fits_of_le FM.out (by omega)) FD.out hdz B w hB hT)
      rw [show (((c : Nat) : Int) : Rat) = ((c : Nat) : Rat) from rfl, show (((dd : Nat) : Int) : Rat) = ((dd : Nat) : Rat) from rfl, e1, HDD.out] at HFR
      rw [e2] at HE G3 d0
      generalize iB ((c : Nat) : Int) = CB at HFR G2
      generalize iB ((rootN l : Nat) : Int) = RB at HE
      clear e1 e2 hNS hb q1 q2 q3 q4 q5 fl hdz
      gi_wp2
      refine ⟨trivial, rfl, (callsIn_wide.2 (HE.out W (Nat.le_trans hB G4.out.size) (HT.out.on G4.out hB).pq.p10)).mono ?_⟩
      rintro e W2 ⟨rfl, hb2⟩
      have K1 := hide (below_blk hb2 G1.out (lt_blk G1.out)); have K2 := hide (below_blk hb2 G2.out (lt_blk G2.out)); have K3 := hide (below_blk hb2 G3.out dl); have K4 := hide (G4.out.trans (hb2.mono G4.out.size)); have KD := hide (below_blk hb2 GD.out hld)
      have ld2 : D' < W2.heap.size := Nat.lt_of_lt_of_le hld hb2.size
      clear hb2 d0 dl G1 G2 G3 HE
      gi_wp2
      have hTn := HT.out.on K4.out hB
      have hBn := Nat.le_trans hB K4.out.size
      have KF := hide (fun x => cls_retQ (m := W2.heap.size) (w0 := W2) HFR.out hTn.pq hBn (Nat.le_refl _) x)
      have hx1 : ∀ x : Of (Below W2.heap.size W2), ∀ o, x.w.cell? ⟨w2.heap.size, o, none⟩ = W2.cell? ⟨w2.heap.size, o, none⟩ := fun x o => x.h.cell (p := ⟨w2.heap.size, o, none⟩) (lt_blk K1.out)
      have hx2 : ∀ x : Of (Below W2.heap.size W2), ∀ o, x.w.cell? ⟨w3.heap.size, o, none⟩ = W2.cell? ⟨w3.heap.size, o, none⟩ := fun x o => x.h.cell (p := ⟨w3.heap.size, o, none⟩) (lt_blk K2.out)
      have hx3 : ∀ x : Of (Below W2.heap.size W2), ∀ o, x.w.cell? ⟨w3.heap.size + 1, o, none⟩ = W2.cell? ⟨w3.heap.size + 1, o, none⟩ := fun x o => x.h.cell (p := ⟨w3.heap.size + 1, o, none⟩) (lt_blk K3.out)
      have c1 := fun o => cell_blk K1.out o
      have c2 := fun o => cell_blk K2.out o
      have c3 := fun o => cell_blk K3.out o
      clear hTn hBn
      refine region_calm ?_
      refine region_class (C := Cls (Below W2.heap.size W2)) (by kernel_rfl) (by kernel_rfl) (by kernel_rfl) (Cls.mk (Below.refl _ _).drew) ?_
      repeat (go_big_quiet_step (with_reducible exact KF.out _))
      refine wpQuiet_nil ?_
      intro W5 hcl
      have HB5 := hide (K4.out.trans (hcl.out.mono K4.out.size))
      have GD5 := hide (below_blk hcl.out KD.out (lt_blk KD.out))
      clear hcl hx1 hx2 hx3 c1 c2 c3
      refine calm_normal ?_
      gi_wp2
      refine ⟨by simp, .inl ⟨_, _, rfl, run_takeDeferred GD5.out, ?_⟩⟩
      refine ⟨_, results_tmp3 rfl _ _ _, rfl, ?_⟩
      exact HB5.out.trans (belowK_b (w := w) (Nat.le_refl _) _ D' _ _ (by have := HB5.out.size; omega) GD5.out rfl rfl)
    · rw [if_pos rfl] at hNS
      have e1 : T ((((c * rootN l : Nat) : Nat) : Rat) / (dd : Rat)) = V1 := by rw [HV1.out, hNS]
      have e2 : (⟨#[49]⟩ : ByteArray) = V2 := by rw [HV2.out, hNS, ← iB1]; rfl
      have hr0 : rootN l ≤ l := Nat.le_trans (Nat.le_mul_of_pos_left _ (root_pos q2)) (rootN_spec l).1
      have hcr : c * rootN l ≤ m := by
        have h1 : c * rootN l ≤ c * l := Nat.mul_le_mul (Nat.le_refl _) hr0
        have h2 : 1 * (c * l) ≤ c * (c * l) := Nat.mul_le_mul q3 (Nat.le_refl _)
        rw [Nat.one_mul, ← Nat.mul_assoc, q1] at h2
        omega
      have hmul : ((c : Nat) : Int) * ((rootN l : Nat) : Int) = ((c * rootN l : Nat) : Int) := (Int.natCast_mul _ _).symm
      have HMU := hide (fun w hB hT => rmul_I (x := ((c : Nat) : Int)) (y := ((rootN l : Nat) : Int)) (fits_of_le FM.out (by omega)) (fits_of_le FM.out (by omega)) (by rw [hmul]; exact fits_of_le FM.out (by omega)) B w hB hT)
      rw [hmul] at HMU
      have HFR := hide (fun w hB hT => rfraction_I (x := ((c * rootN l : Nat) : Int)) (y := ((dd : Nat) : Int)) (fits_of_le FM.out (by omega)) FD.out hdz B w hB hT)
      rw [show (((c * rootN l : Nat) : Int) : Rat) = ((c * rootN l : Nat) : Rat) from rfl, show (((dd : Nat) : Int) : Rat) = ((dd : Nat) : Rat) from rfl, e1, HDD.out] at HFR
      subst e2
      generalize iB ((c * rootN l : Nat) : Int) = CR at HFR HMU
      generalize iB ((c : Nat) : Int) = CB at HMU G2
      generalize iB ((rootN l : Nat) : Int) = RB at HE HMU
      generalize iB (l : Int) = LB at HE G3 d0
      clear e1 hNS hb q1 q2 q3 q4 q5 fl hdz hr0 hcr hmul
      gi_wp2
      refine ⟨trivial, rfl, (callsIn_wide.2 (HE.out W (Nat.le_trans hB G4.out.size) (HT.out.on G4.out hB).pq.p10)).mono ?_⟩
      rintro e W2 ⟨rfl, hb2⟩
      have K1 := hide (below_blk hb2 G1.out (lt_blk G1.out)); have K2 := hide (below_blk hb2 G2.out (lt_blk G2.out)); have K3 := hide (below_blk hb2 G3.out dl); have K4 := hide (G4.out.trans (hb2.mono G4.out.size)); have KD := hide (below_blk hb2 GD.out hld)
      have ld2 : D' < W2.heap.size := Nat.lt_of_lt_of_le hld hb2.size
      clear hb2 d0 dl G1 G2 G3 HE
      have c0 := cell_blk K2.out 0
      have cl := lt_blk K2.out
      gi_wp2
      refine ⟨trivial, rfl, (callsIn_wide.2 (HMU.out W2 (Nat.le_trans hB K4.out.size) (HT.out.on K4.out hB).pq.p10)).mono ?_⟩
      rintro e W3 ⟨rfl, hb3⟩
      have M1 := hide (below_blk hb3 K1.out (lt_blk K1.out)); have M2 := hide (below_blk hb3 K2.out (lt_blk K2.out)); have M3 := hide (below_blk hb3 K3.out (lt_blk K3.out)); have M4 := hide (K4.out.trans (hb3.mono K4.out.size)); have MD := hide (below_blk hb3 KD.out ld2)
      clear hb3 c0 cl K1 K2 K3 K4 KD ld2
      have c0 := cell_blk M2.out 0
      have cl := lt_blk M2.out
      have d0 := cell_blk M3.out 0
      have dl := lt_blk M3.out
      have f0 := froz_blk M2.out 0
      have g0 := froz_blk M3.out 0
      gi_wp2
      clear c0 cl d0 dl f0 g0
      obtain ⟨W4, hW4⟩ : ∃ W4, W4 = (W3.setCell ⟨w3.heap.size, 0, none⟩ (.string CR)).setCell ⟨w3.heap.size + 1, 0, none⟩ (.string ⟨#[49]⟩) := ⟨_, rfl⟩
      rw [← hW4]
      have K1 := hide (show W4.heap[w2.heap.size]? = some (rpairO N D) from by rw [hW4]; exact set_off (set_off M1.out (by omega) _) (by omega) _)
      have K2 := hide (show W4.heap[w3.heap.size]? = some (boxS CR) from by rw [hW4]; exact set_off (box_set M2.out _) (by omega) _)
      have K3 := hide (show W4.heap[w3.heap.size + 1]? = some (boxS ⟨#[49]⟩) from by rw [hW4]; exact box_set (set_off M3.out (by omega) _) _)
      have K4 := hide (show Below w.heap.size w W4 from by rw [hW4]; exact below_set2 M4.out (by omega) (by omega) _ _)
      have KD := hide (show W4.heap[D']? = some (.deferred (some [])) from by rw [hW4]; exact set_off (set_off MD.out (by omega) _) (by omega) _)
      clear hW4 M1 M2 M3 M4 MD
      have hTn := HT.out.on K4.out hB
      have hBn := Nat.le_trans hB K4.out.size
      have KF := hide (fun x => cls_retQ (m := W4.heap.size) (w0 := W4) HFR.out hTn.pq hBn (Nat.le_refl _) x)
      have hx1 : ∀ x : Of (Below W4.heap.size W4), ∀ o, x.w.cell? ⟨w2.heap.size, o, none⟩ = W4.cell? ⟨w2.heap.size, o, none⟩ := fun x o => x.h.cell (p := ⟨w2.heap.size, o, none⟩) (lt_blk K1.out)
      have hx2 : ∀ x : Of (Below W4.heap.size W4), ∀ o, x.w.cell? ⟨w3.heap.size, o, none⟩ = W4.cell? ⟨w3.heap.size, o, none⟩ := fun x o => x.h.cell (p := ⟨w3.heap.size, o, none⟩) (lt_blk K2.out)
      have hx3 : ∀ x : Of (Below W4.heap.size W4), ∀ o, x.w.cell? ⟨w3.heap.size + 1, o, none⟩ = W4.cell? ⟨w3.heap.size + 1, o, none⟩ := fun x o => x.h.cell (p := ⟨w3.heap.size + 1, o, none⟩) (lt_blk K3.out)
      have c1 := fun o => cell_blk K1.out o
      have c2 := fun o => cell_blk K2.out o
      have c3 := fun o => cell_blk K3.out o
      clear hTn hBn
      refine region_calm ?_
      refine region_class (C := Cls (Below W4.heap.size W4)) (by kernel_rfl) (by kernel_rfl) (by kernel_rfl) (Cls.mk (Below.refl _ _).drew) ?_
      repeat (go_big_quiet_step (with_reducible exact KF.out _))
      refine wpQuiet_nil ?_
      intro W5 hcl
      have HB5 := hide (K4.out.trans (hcl.out.mono K4.out.size))
      have GD5 := hide (below_blk hcl.out KD.out (lt_blk KD.out))
      clear hcl hx1 hx2 hx3 c1 c2 c3
      refine calm_normal ?_
      gi_wp2
      refine ⟨by simp, .inl ⟨_, _, rfl, run_takeDeferred GD5.out, ?_⟩⟩
      refine ⟨_, results_tmp3 rfl _ _ _, rfl, ?_⟩
      exact HB5.out.trans (belowK_b (w := w) (Nat.le_refl _) _ D' _ _ (by have := HB5.out.size; omega) GD5.out rfl rfl)
open Go.RowKit Go.KP Go.KI Go.Shelf
attribute [local go_sem] Oper.semAt_some

theorem rNormal_pos {q : Rat} (fq : roomy q) (h0 : 0 < q.num) (B : Nat) (w : World) (hB : B ≤ w.heap.size) (hT : PR B w) :
    Calls Tryz.prog 162 #[.string (T q)] w (Ret w (.tuple #[.string (T (normC q)), .string (iB (normL q : Nat)), .int .i64 0])) := by
  by_cases hs : (numB q).size + (denB q).size ≤ 17
  · exact rNormal_small fq h0 hs B w hB hT
  · exact rNormal_long fq h0 (by omega) B w hB hT
open Go.RowKit Go.KP Go.KI Go.Shelf
attribute [local go_sem] Oper.semAt_some

theorem clsq_call {f : Nat} {args : Array Value} {v : Value} {B n : Nat} {W0 : World} (hT : PQ B W0) (hB : B ≤ n) (H : ∀ w, B ≤ w.heap.size → PQ B w → Calls Tryz.prog f args w (Ret w v)) (x : Of (Below n W0)) (hx : n ≤ x.w.heap.size) :
    Calls Tryz.prog f args x.w fun e w' => e = .returned v ∧ Cls (Below n W0) w' :=
  (H x.w (Nat.le_trans hB hx) (hT.on x.h hB)).mono fun _ _ ⟨h, hb⟩ => ⟨h, Cls.mk (x.h.trans (hb.mono hx))⟩
theorem rExact_T {q : Rat} (rq : roomy q) (hq : 0 ≤ q.num) (B : Nat) (w : World) (hB : B ≤ w.heap.size) (hT : PQ B w) :
    Calls Tryz.prog 163 #[.string (T q)] w (Ret w (.tuple #[.string (rootT (sqR q)), .bool (rootB (sqR q)), .int .i64 0])) := by
  have HT := hide hT
  have X0 := hide (heap2 w (.cells #[.string (T q)] 22) (.cells #[.string (T q)] 22))
  have HC := hide (rCheck_ok w.heap.size (w.heap.size + 1) [q] [q] (by simp) (by simp) (fun x hx => by simp at hx; subst hx; exact rq) (fun x hx => by simp at hx; subst hx; omega) B _ (nums1 X0.out.1) (nums1 X0.out.2.1) (Nat.le_trans hB X0.out.2.2.2.size) (hT.on X0.out.2.2.2 hB))
  have HO := hide (fun w hB hT => rOf_T rq.1 B w hB hT)
  have HR := hide (fun w hB hT => rrootOf_T rq.1 hq B w hB hT)
  generalize rootT (sqR q) = RT at HR ⊢
  generalize rootB (sqR q) = RB at HR ⊢
  generalize numB q = N at HO HR
  generalize denB q = D at HO HR
  generalize T q = X at *
  clear rq hq hT
  go_enter Tryz.func163, Tryz.ntmps163
  go_wp2_with fail
  refine HC.out.mono ?_
  rintro e w1 ⟨rfl, hb1⟩
  have HB1 := hide (X0.out.2.2.2.trans (hb1.mono X0.out.2.2.2.size))
  clear hb1
  go_wp2_with fail
  refine (HO.out _ (Nat.le_trans hB HB1.out.size) (HT.out.on HB1.out hB)).mono ?_
  rintro e w2 ⟨rfl, hb2⟩
  have HB2 := hide (HB1.out.trans (hb2.mono HB1.out.size))
  clear hb2
  go_wp2_with fail
  refine (HR.out _ (Nat.le_trans hB HB2.out.size) (HT.out.on HB2.out hB)).mono ?_
  rintro e w3 ⟨rfl, hb3⟩
  have HB3 := hide (HB2.out.trans (hb3.mono HB2.out.size))
  clear hb3
  go_wp2_with fail
  refine bodyPost_ret (results_tmp3 rfl _ _ _) rfl ?_
  exact ⟨rfl, HB3.out⟩
theorem fits_pow {E : Nat} (h : E < 300) : fits ((10 ^ E : Nat) : Int) := fits_small (n := E + 1) (by rw [most_eq]; omega) (nat_abs_lt ((Nat.pow_lt_pow_iff_right (by omega)).2 (by omega)))
theorem bound4 {A B C D : Int} {E : Nat} (hE : E < 300) (h1 : A.natAbs < 10 ^ E) (h2 : B.natAbs < 10 ^ E) (h3 : C.natAbs < 10 ^ E) (h4 : D.natAbs < 10 ^ E) : ∃ N : Nat, fits (N : Int) ∧ A.natAbs ≤ N ∧ B.natAbs ≤ N ∧ C.natAbs ≤ N ∧ D.natAbs ≤ N :=
  ⟨10 ^ E, fits_pow hE, Nat.le_of_lt h1, Nat.le_of_lt h2, Nat.le_of_lt h3, Nat.le_of_lt h4⟩
theorem nums4 {w : World} {b : Nat} {p q r s : Rat} (h : w.heap[b]? = some (.cells #[.string (T p), .string (T q), .string (T r), .string (T s)] 22 (0, 0))) : NumsAt w b [p, q, r, s] := by
  refine ⟨lt_blk h, fun i x hx => ?_⟩
  match i with
  | 0 => simp at hx; rw [← hx]; exact cell_blk h 0
  | 1 => simp at hx; rw [← hx]; exact cell_blk h 1
  | 2 => simp at hx; rw [← hx]; exact cell_blk h 2
  | 3 => simp at hx; rw [← hx]; exact cell_blk h 3
  | i + 4 => simp at hx
theorem cmp_parts (a p b q : Rat) : cmpP (a.num * a.num * p.num) ((a.den : Int) * a.den * p.den) (b.num * b.num * q.num) ((b.den : Int) * b.den * q.den) = cmpR (a * a * p) (b * b * q) := by
  have key : ∀ x y : Rat, ((x.num * x.num * y.num : Int) : Rat) = x * x * y * (((x.den : Int) * x.den * y.den : Int) : Rat) := fun x y => by
    simp only [Rat.intCast_mul, Rat.intCast_natCast]
    rw [num_is x, num_is y]
    generalize ((x.den : Nat) : Rat) = d
    generalize ((y.den : Nat) : Rat) = e
    grind
  have pos : ∀ x y : Rat, (0 : Rat) < (((x.den : Int) * x.den * y.den : Int) : Rat) := fun x y => Rat.intCast_pos.2 (Int.mul_pos (Int.mul_pos (by have := x.den_pos; omega) (by have := x.den_pos; omega)) (by have := y.den_pos; omega))
  have k1 := key a p
  have k2 := key b q
  have p1 := pos a p
  have p2 := pos b q
  unfold cmpP
  generalize a.num * a.num * p.num = A at *
  generalize b.num * b.num * q.num = C at *
  generalize (a.den : Int) * a.den * p.den = D at *
  generalize (b.den : Int) * b.den * q.den = E at *
  generalize a * a * p = x at *
  generalize b * b * q = y at *
  have hlt : ∀ {u v : Int}, u < v ↔ (u : Rat) < (v : Rat) := Rat.intCast_lt_intCast.symm
  rcases cmpT_cases x y with ⟨h1, h2⟩ | ⟨h1, h2⟩ | ⟨h1, h2⟩ <;> rw [h2]
  · refine cmpI_lt (hlt.2 ?_)
    rw [Rat.intCast_mul, Rat.intCast_mul, k1, k2]
    have := Rat.mul_lt_mul_of_pos_right h1 (Rat.mul_pos p1 p2)
    grind
  · have e : A * E = C * D := by
      have : ((A * E : Int) : Rat) = ((C * D : Int) : Rat) := by
        rw [Rat.intCast_mul, Rat.intCast_mul, k1, k2, h1]
        grind
      exact_mod_cast this
    rw [e, cmpI_same]
  · refine cmpI_gt (hlt.2 ?_)
    rw [Rat.intCast_mul, Rat.intCast_mul, k1, k2]
    have := Rat.mul_lt_mul_of_pos_right h1 (Rat.mul_pos p1 p2)
    grind
theorem rCompare_T {a p b q : Rat} (ra : roomy a) (rp : roomy p) (rb : roomy b) (rq : roomy q) (hp : 0 ≤ p.num) (hq : 0 ≤ q.num) (B : Nat) (w : World) (hB : B ≤ w.heap.size) (hT : PQ B w) :
    Calls Tryz.prog 65 #[.string (T a), .string (T p), .string (T b), .string (T q)] w (Ret w (.tuple #[.int .i64 (rcmp a p b q), .int .i64 0])) := by
  have HT := hide hT
  have X0 := hide (heap2 w (.cells #[.string (T a), .string (T p), .string (T b), .string (T q)] 22) (.cells #[.string (T p), .string (T q)] 22))
  have HC := hide (rCheck_ok w.heap.size (w.heap.size + 1) [a, p, b, q] [p, q] (by simp) (by simp) (fun x hx => by simp at hx; rcases hx with rfl | rfl | rfl | rfl; exact ra; exact rp; exact rb; exact rq) (fun x hx => by simp at hx; rcases hx with rfl | rfl <;> omega) B _ (nums4 X0.out.1) (nums2 X0.out.2.1) (Nat.le_trans hB X0.out.2.2.2.size) (hT.on X0.out.2.2.2 hB))
  have S1 := hide (fun w => rSign_T a w)
  have S2 := hide (fun w => rSign_T p w)
  have S3 := hide (fun w => rSign_T b w)
  have S4 := hide (fun w => rSign_T q w)
  have O1 := hide (fun w hB hT => rOf_T ra.1 B w hB hT)
  have O2 := hide (fun w hB hT => rOf_T rp.1 B w hB hT)
  have O3 := hide (fun w hB hT => rOf_T rb.1 B w hB hT)
  have O4 := hide (fun w hB hT => rOf_T rq.1 B w hB hT)
  have sa := roomy_sz ra
  have sp := roomy_sz rp
  have sb := roomy_sz rb
  have sq := roomy_sz rq
  have da : ((a.den : Nat) : Int).natAbs < 10 ^ 90 := nat_abs_lt sa.2
  have dp : ((p.den : Nat) : Int).natAbs < 10 ^ 90 := nat_abs_lt sp.2
  have db : ((b.den : Nat) : Int).natAbs < 10 ^ 90 := nat_abs_lt sb.2
  have dq : ((q.den : Nat) : Int).natAbs < 10 ^ 90 := nat_abs_lt sq.2
  have a1 := fits_mul sa.1 sa.1 (by omega)
  have a2 := fits_mul da da (by omega)
  have a3 := fits_mul a1.2 sp.1 (by omega)
  have a4 := fits_mul a2.2 dp (by omega)
  have b1 := fits_mul sb.1 sb.1 (by omega)
  have b2 := fits_mul db db (by omega)
  have b3 := fits_mul b1.2 sq.1 (by omega)
  have b4 := fits_mul b2.2 dq (by omega)
  have T1 := hide (fun w hB hT => rtimes_I (a := a.num) (b := (a.den : Int)) (c := a.num) (d := (a.den : Int)) ra.1.1 ra.1.2 ra.1.1 ra.1.2 a1.1 a2.1 B w hB hT)
  have T2 := hide (fun w hB hT => rtimes_I (c := p.num) (d := (p.den : Int)) a1.1 a2.1 rp.1.1 rp.1.2 a3.1 a4.1 B w hB hT)
  have T3 := hide (fun w hB hT => rtimes_I (a := b.num) (b := (b.den : Int)) (c := b.num) (d := (b.den : Int)) rb.1.1 rb.1.2 rb.1.1 rb.1.2 b1.1 b2.1 B w hB hT)
  have T4 := hide (fun w hB hT => rtimes_I (c := q.num) (d := (q.den : Int)) b1.1 b2.1 rq.1.1 rq.1.2 b3.1 b4.1 B w hB hT)
  have hsq : ∀ z : Int, 0 ≤ z * z := fun z => by
    rcases Int.le_total 0 z with h | h
    · exact Int.mul_nonneg h h
    · have := Int.mul_nonneg (show 0 ≤ -z by omega) (show 0 ≤ -z by omega)
      rw [Int.neg_mul_neg] at this
      exact this
  obtain ⟨NB, fN, l3, l4, m3, m4⟩ := bound4 (by decide) a3.2 a4.2 b3.2 b4.2
  have HK := hide (fun w hB hT => rcompare_I (N := NB) (Int.mul_nonneg (hsq a.num) hp) (Int.mul_pos (Int.mul_pos (show 0 < (a.den : Int) by have := a.den_pos; omega) (show 0 < (a.den : Int) by have := a.den_pos; omega)) (show 0 < (p.den : Int) by have := p.den_pos; omega)) (Int.mul_nonneg (hsq b.num) hq) (Int.mul_pos (Int.mul_pos (show 0 < (b.den : Int) by have := b.den_pos; omega) (show 0 < (b.den : Int) by have := b.den_pos; omega)) (show 0 < (q.den : Int) by have := q.den_pos; omega)) l3 l4 m3 m4 fN B w hB hT)
  rw [cmp_parts a p b q] at HK
  rw [show numB a = iB a.num from rfl, show denB a = iB (a.den : Int) from rfl] at O1
  rw [show numB p = iB p.num from rfl, show denB p = iB (p.den : Int) from rfl] at O2
  rw [show numB b = iB b.num from rfl, show denB b = iB (b.den : Int) from rfl] at O3
  rw [show numB q = iB q.num from rfl, show denB q = iB (q.den : Int) from rfl] at O4
  have hxb := sgnR_bound (a * p)
  have hyb := sgnR_bound (b * q)
  rw [sgnR_mul] at hxb hyb
  have hkb : -1 ≤ cmpR (a * a * p) (b * b * q) ∧ cmpR (a * a * p) (b * b * q) ≤ 1 := by
    rcases cmpT_cases (a * a * p) (b * b * q) with ⟨_, h⟩ | ⟨_, h⟩ | ⟨_, h⟩ <;> rw [h] <;> decide
  show Calls _ _ _ _ (Ret w (.tuple #[.int .i64 (rcmpS (sgnR a * sgnR p) (sgnR b * sgnR q) (cmpR (a * a * p) (b * b * q))), .int .i64 0]))
  generalize cmpR (a * a * p) (b * b * q) = k at HK hkb ⊢
  obtain ⟨x, hx⟩ : ∃ x, x = sgnR a * sgnR p := ⟨_, rfl⟩
  obtain ⟨y, hy⟩ : ∃ x, x = sgnR b * sgnR q := ⟨_, rfl⟩
  rw [← hx] at hxb ⊢
  rw [← hy] at hyb ⊢
  have v1 : IntKind.i64.wrap (sgnR a * sgnR p) = x := by rw [← hx]; exact IntWalk.i64_in _ (by omega)
  have v2 : IntKind.i64.wrap (sgnR b * sgnR q) = y := by rw [← hy]; exact IntWalk.i64_in _ (by omega)
  have v3 : sgnR a * sgnR p = x := hx.symm
  have v4 : sgnR b * sgnR q = y := hy.symm
  generalize sgnR a = ga at *
  generalize sgnR p = gp at *
  generalize sgnR b = gb at *
  generalize sgnR q = gq at *
  have v5 : x = -1 ∨ x = 0 ∨ x = 1 := by omega
  have v6 : y = -1 ∨ y = 0 ∨ y = 1 := by omega
  generalize iB (a.num * a.num * p.num) = AN at *
  generalize iB ((a.den : Int) * a.den * p.den) = AD at *
  generalize iB (b.num * b.num * q.num) = BN at *
  generalize iB ((b.den : Int) * b.den * q.den) = BD at *
  generalize iB (a.num * a.num) = AN2 at *
  generalize iB ((a.den : Int) * a.den) = AD2 at *
  generalize iB (b.num * b.num) = BN2 at *
  generalize iB ((b.den : Int) * b.den) = BD2 at *
  generalize iB a.num = A1 at *
  generalize iB (a.den : Int) = A2 at *
  generalize iB p.num = P1 at *
  generalize iB (p.den : Int) = P2 at *
  generalize iB b.num = B1 at *
  generalize iB (b.den : Int) = B2 at *
  generalize iB q.num = Q1 at *
  generalize iB (q.den : Int) = Q2 at *
  generalize T a = XA at *
  generalize T p = XP at *
  generalize T b = XB at *
  generalize T q = XQ at *
  clear ra rp rb rq hp hq hT sa sp sb sq da dp db dq a1 a2 a3 a4 b1 b2 b3 b4 l3 l4 m3 m4 fN hsq hxb hyb hx hy
  go_enter Tryz.func65, Tryz.ntmps65
  go_wp2_with fail
  refine HC.out.mono ?_
  rintro e w1 ⟨rfl, hb1⟩
  have HB1 := hide (X0.out.2.2.2.trans (hb1.mono X0.out.2.2.2.size))
  clear hb1
  go_wp2_with fail
  refine (S1.out _).mono ?_
  rintro e w2 ⟨rfl, rfl⟩
  go_wp2_with fail
  refine (S2.out _).mono ?_
  rintro e w2 ⟨rfl, rfl⟩
  go_wp2_with fail
  refine (S3.out _).mono ?_
  rintro e w2 ⟨rfl, rfl⟩
  go_wp2_with fail
  refine (S4.out _).mono ?_
  rintro e w2 ⟨rfl, rfl⟩
  have HV5 := hide v5
  have HV6 := hide v6
  clear v5 v6
  rcases HV5.out with rfl | rfl | rfl <;> rcases HV6.out with rfl | rfl | rfl
  all_goals
    go_wp2_with fail
    first
      | (refine bodyPost_ret (results_tmp2 rfl _ _ _) rfl ?_
         exact ⟨rfl, HB1.out⟩)
      | skip
  all_goals
    refine (O1.out _ (Nat.le_trans hB HB1.out.size) (HT.out.on HB1.out hB)).mono ?_
    rintro e w2 ⟨rfl, hb2⟩
    have HB2 := hide (HB1.out.trans (hb2.mono HB1.out.size))
    clear hb2
    go_wp2_with fail
    refine (O3.out _ (Nat.le_trans hB HB2.out.size) (HT.out.on HB2.out hB)).mono ?_
    rintro e w3 ⟨rfl, hb3⟩
    have HB3 := hide (HB2.out.trans (hb3.mono HB2.out.size))
    clear hb3
    have X3 := hide (heap2 w3 (rpairO A1 A2) (rpairO B1 B2))
    go_wp2_with fail
    obtain ⟨W0, hW0⟩ : ∃ W, W = (w3.alloc (rpairO A1 A2)).alloc (rpairO B1 B2) := ⟨_, rfl⟩
    rw [← hW0] at X3 ⊢
    have E1 := hide X3.out.1
    have E2 := hide X3.out.2.1
    have HB4 := hide (HB3.out.trans (X3.out.2.2.2.mono HB3.out.size))
    clear hW0 X3
    have hBW : B ≤ W0.heap.size := Nat.le_trans hB HB4.out.size
    have HTW := HT.out.on HB4.out hB
    have N1 := hide (fun (o : Of (Below W0.heap.size W0)) => cls_call HTW.p10 hBW T1.out o o.h.size)
    have N2 := hide (fun (o : Of (Below W0.heap.size W0)) => clsq_call HTW hBW O2.out o o.h.size)
    have N3 := hide (fun (o : Of (Below W0.heap.size W0)) => cls_call HTW.p10 hBW T2.out o o.h.size)
    have N4 := hide (fun (o : Of (Below W0.heap.size W0)) => cls_call HTW.p10 hBW T3.out o o.h.size)
    have N5 := hide (fun (o : Of (Below W0.heap.size W0)) => clsq_call HTW hBW O4.out o o.h.size)
    have N6 := hide (fun (o : Of (Below W0.heap.size W0)) => cls_call HTW.p10 hBW T4.out o o.h.size)
    have N7 := hide (fun (o : Of (Below W0.heap.size W0)) => cls_call HTW.p10 hBW HK.out o o.h.size)
    have hx1 : ∀ x : Of (Below W0.heap.size W0), ∀ o, x.w.cell? ⟨w3.heap.size, o, none⟩ = W0.cell? ⟨w3.heap.size, o, none⟩ := fun x o => x.h.cell (p := ⟨w3.heap.size, o, none⟩) (lt_blk E1.out)
    have hx2 : ∀ x : Of (Below W0.heap.size W0), ∀ o, x.w.cell? ⟨w3.heap.size + 1, o, none⟩ = W0.cell? ⟨w3.heap.size + 1, o, none⟩ := fun x o => x.h.cell (p := ⟨w3.heap.size + 1, o, none⟩) (lt_blk E2.out)
    have c1 := fun o => cell_blk E1.out o
    have c2 := fun o => cell_blk E2.out o
    have kn : Nonempty (Of (Below W0.heap.size W0)) := ⟨⟨_, Below.refl _ _⟩⟩
    clear HTW hBW
    refine region_class (C := Cls (Below W0.heap.size W0)) (by kernel_rfl) (by kernel_rfl) (by kernel_rfl) (Cls.mk (Below.refl _ _).drew) ?_
    repeat (go_big_quiet_step (first | rfl | with_reducible exact N1.out _ | with_reducible exact N2.out _ | with_reducible exact N3.out _ | with_reducible exact N4.out _ | with_reducible exact N5.out _ | with_reducible exact N6.out _ | with_reducible exact N7.out _))
    refine wpQuiet_nil ?_
    intro w5 hcl
    have HB5 := hide (HB4.out.trans (hcl.out.mono HB4.out.size))
    clear hcl hx1 hx2 c1 c2 N1 N2 N3 N4 N5 N6 N7 kn
    go_wp2_with fail
    refine bodyPost_ret (results_tmp2 rfl _ _ _) rfl ?_
    exact ⟨by first | (rw [show rcmpS (-1) (-1) k = -k by unfold rcmpS; simp]; rfl) | (rw [show rcmpS 1 1 k = k by unfold rcmpS; simp]; rfl), HB5.out⟩
end Go.Proofs.YtpmnhipffkhcpaaGreatDoor
namespace Go.KI
open Go
def okS (s : ByteArray) : Prop := s.size ≤ 20 ∧ chkQ s.data.toList = 0
instance (s : ByteArray) : Decidable (okS s) := inferInstanceAs (Decidable (_ ∧ _))
end Go.KI
namespace Go.Proofs.YtpmnhipffkhcpaaGreatDoor
open Go.RowKit Go.KP Go.KI Go.Shelf
attribute [local go_sem] Oper.semAt_some

def StrsAt (w : World) (b : Nat) (l : List ByteArray) : Prop := b < w.heap.size ∧ ∀ (i : Nat) s, l[i]? = some s → w.cell? ⟨b, i, none⟩ = some (.string s)
theorem StrsAt.below {w w2 : World} {b : Nat} {l : List ByteArray} {n : Nat} (h : StrsAt w b l) (hb : Below n w w2) (hn : b < n) : StrsAt w2 b l :=
  ⟨Nat.lt_of_lt_of_le h.1 hb.size, fun i q hq => by rw [← h.2 i q hq]; exact hb.cell (p := ⟨b, i, none⟩) hn⟩
theorem strs1 {w : World} {b : Nat} {p : ByteArray} (h : w.heap[b]? = some (.cells #[.string p] 22 (0, 0))) : StrsAt w b [p] := by
  refine ⟨lt_blk h, fun i x hx => ?_⟩
  match i with
  | 0 => simp at hx; rw [← hx]; exact cell_blk h 0
  | i + 1 => simp at hx
theorem strs2 {w : World} {b : Nat} {p q : ByteArray} (h : w.heap[b]? = some (.cells #[.string p, .string q] 22 (0, 0))) : StrsAt w b [p, q] := by
  refine ⟨lt_blk h, fun i x hx => ?_⟩
  match i with
  | 0 => simp at hx; rw [← hx]; exact cell_blk h 0
  | 1 => simp at hx; rw [← hx]; exact cell_blk h 1
  | i + 2 => simp at hx
theorem T1 : T 1 = ⟨#[49]⟩ := by
  rw [show T 1 = iB ((1 : Nat) : Int) from (iB_T _).symm]
  exact lit1
theorem fitsQ_one : fitsQ (1 : Rat) := sz_fits (p := 1) ⟨by decide, by decide⟩ (by rw [most_eq]; omega)
theorem sz_one : sz 1 (1 : Rat) := ⟨by decide, by decide⟩
end Go.Proofs.YtpmnhipffkhcpaaGreatDoor
namespace Go.KI
open Go
def chk90 (l : List UInt8) : Int := if chkQ l ≠ 0 then chkQ l else if 90 < max (Lib.decDigits (valQ l).num.natAbs).length (Lib.decDigits (valQ l).den).length then 4 else 0
def firstE : List ByteArray → Int
  | [] => 0
  | s :: r => if chk90 s.data.toList ≠ 0 then chk90 s.data.toList else firstE r
def negS (s : ByteArray) : Bool := s.data.toList.head? == some 45
def checkE (l1 l2 : List ByteArray) : Int := if firstE l1 ≠ 0 then firstE l1 else if l2.any negS then 2 else 0
theorem firstE_take {l : List ByteArray} : ∀ {k : Nat} {s : ByteArray}, l[k]? = some s → (∀ x ∈ l.take k, chk90 x.data.toList = 0) → chk90 s.data.toList ≠ 0 → firstE l = chk90 s.data.toList := by
  induction l with
  | nil => intro k s h; simp at h
  | cons x r ih =>
    intro k s h hk hs
    cases k with
    | zero =>
      simp at h
      subst h
      exact if_pos hs
    | succ k =>
      simp at h
      have h0 := hk x (by simp)
      show (if chk90 x.data.toList ≠ 0 then _ else firstE r) = _
      rw [if_neg (by simp [h0])]
      exact ih h (fun y hy => hk y (by simp [hy])) hs
theorem firstE_zero {l : List ByteArray} (h : ∀ x ∈ l, chk90 x.data.toList = 0) : firstE l = 0 := by
  induction l with
  | nil => rfl
  | cons x r ih =>
    show (if chk90 x.data.toList ≠ 0 then _ else firstE r) = 0
    rw [if_neg (by simp [h x (by simp)])]
    exact ih (fun y hy => h y (by simp [hy]))
theorem chk90_zero {l : List UInt8} (h : chk90 l = 0) : chkQ l = 0 ∧ (Lib.decDigits (valQ l).num.natAbs).length ≤ 90 ∧ (Lib.decDigits (valQ l).den).length ≤ 90 := by
  unfold chk90 at h
  by_cases h1 : chkQ l = 0
  · rw [if_neg (by simp [h1])] at h
    by_cases h2 : 90 < max (Lib.decDigits (valQ l).num.natAbs).length (Lib.decDigits (valQ l).den).length
    · rw [if_pos h2] at h; cases h
    · exact ⟨h1, by omega, by omega⟩
  · rw [if_pos h1] at h; exact absurd h h1
theorem chk90_none {l : List UInt8} (h : chkQ l ≠ 0) : chk90 l = chkQ l := if_pos h
end Go.KI
namespace Go.Proofs.YtpmnhipffkhcpaaGreatDoor
open Go.RowKit Go.KP Go.KI Go.Shelf
attribute [local go_sem] Oper.semAt_some

theorem chk90_roomy {s : ByteArray} (h : chk90 s.data.toList = 0) : ∃ q, roomy q ∧ s = T q := by
  obtain ⟨h1, h2, h3⟩ := chk90_zero h
  obtain ⟨e, f, _, _⟩ := chkQ_ok h1
  exact ⟨valQ s.data.toList, ⟨f, h2, h3⟩, T_of e⟩
theorem roomy_chk90 {q : Rat} (h : roomy q) : chk90 (T q).data.toList = 0 := by
  unfold chk90
  rw [T_list, ratS_num, if_neg (by simp [chkQ_fits h.1]), if_neg]
  have := h.2.1
  have := h.2.2
  omega
theorem negS_T (q : Rat) : negS (T q) = decide (q.num < 0) := T_head q
theorem rCheck_any (b1 b2 : Nat) (l1 l2 : List ByteArray) (n1 : l1.length ≤ 1000) (n2 : l2.length ≤ 1000) (h1 : ∀ s ∈ l1, s.size ≤ 1000000) (B : Nat) (w : World) (c1 : StrsAt w b1 l1) (c2 : StrsAt w b2 l2) (hB : B ≤ w.heap.size) (hT : PQ B w) :
    Calls Tryz.prog 164 #[.slice (some ⟨b1, 0, none⟩) l1.length l1.length, .slice (some ⟨b2, 0, none⟩) l2.length l2.length] w (Ret w (.int .i64 (checkE l1 l2))) := by
  have HT := hide hT
  obtain ⟨n, hn⟩ : ∃ n, n = l1.length := ⟨_, rfl⟩
  obtain ⟨m, hm⟩ : ∃ n, n = l2.length := ⟨_, rfl⟩
  rw [← hn] at n1 ⊢
  rw [← hm] at n2 ⊢
  have C1 := hide c1
  have C2 := hide c2
  have N1 := hide hn
  have N2 := hide hm
  have R1 := hide h1
  obtain ⟨R, hR⟩ : ∃ R, R = checkE l1 l2 := ⟨_, rfl⟩
  rw [← hR]
  have HR := hide hR
  clear c1 c2 hn hm h1 hT hR
  go_enter Tryz.func164, Tryz.ntmps164
  go_wp2_with fail
  go_loopw [13] (fun i wr => ∃ k : Nat, k ≤ n ∧ i = .int .i64 k ∧ Hid ((∀ x ∈ l1.take k, chk90 x.data.toList = 0) ∧ Below w.heap.size w wr)) (fun i _ => n - (intOf i).toNat)
  case atStart => exact ⟨0, Nat.zero_le _, rfl, by simp, Below.refl _ _⟩
  case round =>
    obtain ⟨k, hk, rfl, hin⟩ := hrel
    obtain ⟨wo, hwo⟩ : ∃ wo, wo = wr := ⟨_, rfl⟩
    subst hwo
    have IN := hide hin.out.1
    have HB0 := hide hin.out.2
    by_cases hlt : k < n
    · have hki : (k : Int) < (n : Int) := by omega
      have hk0 : (0 : Int) ≤ (k : Int) := by omega
      obtain ⟨s, hs⟩ : ∃ s, l1[k]? = some s := ⟨_, List.getElem?_eq_getElem (by rw [← N1.out]; exact hlt)⟩
      have hss := R1.out s (List.mem_of_getElem? hs)
      have hcell := (C1.out.below HB0.out C1.out.1).2 k s hs
      have HC := hide (qCheck_any s hss B wo (Nat.le_trans hB HB0.out.size) (HT.out.on HB0.out hB))
      by_cases hq : chkQ s.data.toList = 0
      rotate_left
      · have e : R = chkQ s.data.toList := by
          have h9 := chk90_none hq
          have := firstE_take hs IN.out (by rw [h9]; exact hq)
          rw [h9] at this
          rw [HR.out]
          unfold checkE
          rw [this, if_pos hq]
        have hqb : (chkQ s.data.toList == 0) = false := by simpa using hq
        rw [← e] at HC hqb
        clear hs hss hq e hlt hin
        go_wp2_with fail
        refine HC.out.mono ?_
        rintro e w1 ⟨rfl, hb1⟩
        have HB1 := hide (HB0.out.trans (hb1.mono HB0.out.size))
        clear hb1 hcell
        go_wp2_with fail
        go_ret
        exact ⟨rfl, HB1.out⟩
      rw [hq] at HC
      obtain ⟨eT, fq, _, _⟩ := chkQ_ok hq
      obtain ⟨q, hqq⟩ : ∃ q, q = valQ s.data.toList := ⟨_, rfl⟩
      rw [← hqq] at eT fq
      have eS : s = T q := T_of eT
      have HO := hide (fun w hB hT => rOf_T fq B w hB hT)
      obtain ⟨D, hD⟩ : ∃ X, X = denB q := ⟨_, rfl⟩
      obtain ⟨N, hN⟩ : ∃ X, X = numB q := ⟨_, rfl⟩
      have HTP := hide (fun w => trimPrefix_any N w)
      rw [show N.data.toList = Lib.itoa q.num by rw [hN]; exact strB_list _, digs_itoa] at HTP
      have hDs : D.size = (Lib.decDigits q.den).length := by
        rw [hD]
        unfold denB
        rw [strB_size, Lib.itoa_nonneg]
      obtain ⟨M, hM⟩ : ∃ X, X = strB (Lib.decDigits q.num.natAbs) := ⟨_, rfl⟩
      have hMs : M.size = (Lib.decDigits q.num.natAbs).length := by rw [hM, strB_size]
      have h9 : chk90 s.data.toList = if 90 < max M.size D.size then 4 else 0 := by
        unfold chk90
        rw [if_neg (by simp [hq]), ← hqq, hMs, hDs]
      rw [← hM] at HTP
      rw [← hN, ← hD] at HO
      rw [← eS] at HO
      have hbig : (90 < max M.size D.size ∧ R = 4 ∧ (90 : Int) < max (M.size : Int) (D.size : Int)) ∨ ((∀ x ∈ l1.take (k + 1), chk90 x.data.toList = 0) ∧ ((90 : Int) < max (M.size : Int) (D.size : Int)) = False) := by
        by_cases hb : 90 < max M.size D.size
        · rw [if_pos hb] at h9
          refine .inl ⟨hb, ?_, by omega⟩
          have := firstE_take hs IN.out (by rw [h9]; decide)
          rw [h9] at this
          rw [HR.out]
          unfold checkE
          rw [this, if_pos (by decide)]
        · rw [if_neg hb] at h9
          refine .inr ⟨fun x hx => ?_, eq_false (by omega)⟩
          rw [List.take_add_one, hs] at hx
          rcases List.mem_append.1 hx with h | h
          · exact IN.out x h
          · simp at h; rw [h]; exact h9
      have HBIG := hide hbig
      clear hs hss hq eT fq hqq eS hD hN hM hMs hDs h9 hbig hlt hin
      go_wp2_with fail
      refine HC.out.mono ?_
      rintro e w1 ⟨rfl, hb1⟩
      have HB1 := hide (HB0.out.trans (hb1.mono HB0.out.size))
      clear hb1 hcell HC
      go_wp2_with fail
      refine (HO.out _ (Nat.le_trans hB HB1.out.size) (HT.out.on HB1.out hB)).mono ?_
      rintro e w2 ⟨rfl, hb2⟩
      have X2 := hide (heap1 w2 (rpairO N D))
      have G2 := hide X2.out.1
      have HB2 := hide (HB1.out.trans ((hb2.trans (X2.out.2.2.mono hb2.size)).mono HB1.out.size))
      clear hb2
      go_wp2_with fail
      obtain ⟨W, hW⟩ : ∃ W, W = w2.alloc (rpairO N D) := ⟨_, rfl⟩
      rw [← hW] at G2 HB2 ⊢
      clear hW X2
      have HTC := hide (fun (x : Of (Below W.heap.size W)) => show Calls Tryz.prog 233 #[.string N, .string ⟨#[45]⟩] x.w fun e w' => e = .returned (.string M) ∧ Cls (Below W.heap.size W) w' from (HTP.out x.w).mono fun _ _ ⟨h, hb⟩ => ⟨h, by rw [← hb]; exact Cls.mk x.h⟩)
      have hx1 : ∀ x : Of (Below W.heap.size W), ∀ o, x.w.cell? ⟨w2.heap.size, o, none⟩ = W.cell? ⟨w2.heap.size, o, none⟩ := fun x o => x.h.cell (p := ⟨w2.heap.size, o, none⟩) (lt_blk G2.out)
      have cc1 := fun o => cell_blk G2.out o
      have kn : Nonempty (Of (Below W.heap.size W)) := ⟨⟨_, Below.refl _ _⟩⟩
      rcases HBIG.out with ⟨_, rfl, hmx⟩ | ⟨hall, hmx⟩
      · refine region_class (C := Cls (Below W.heap.size W)) (by kernel_rfl) (by kernel_rfl) (by kernel_rfl) (Cls.mk (Below.refl _ _).drew) ?_
        repeat (go_big_quiet_step (first | rfl | with_reducible exact HTC.out _))
        refine wpQuiet_nil ?_
        intro w3 hcl
        have HB3 := hide (HB2.out.trans (hcl.out.mono HB2.out.size))
        clear hcl hx1 cc1 HTC kn
        go_wp2_with fail
        go_ret
        exact ⟨rfl, HB3.out⟩
      · have HALL := hide hall
        clear hall
        refine region_class (C := Cls (Below W.heap.size W)) (by kernel_rfl) (by kernel_rfl) (by kernel_rfl) (Cls.mk (Below.refl _ _).drew) ?_
        repeat (go_big_quiet_step (first | rfl | with_reducible exact HTC.out _))
        refine wpQuiet_nil ?_
        intro w3 hcl
        have HB3 := hide (HB2.out.trans (hcl.out.mono HB2.out.size))
        clear hcl hx1 cc1 HTC kn
        go_wp2_with fail
        go_roundw
        case rel => exact ⟨k + 1, by omega, by simp, HALL.out, HB3.out⟩
        case measure => simp [intOf]; omega
    · obtain rfl : k = n := by omega
      have hki : ((k : Int) < (k : Int)) = False := eq_false (by omega)
      have hR2 : Hid (R = if l2.any negS then 2 else 0) := hide (by
        have h := IN.out
        rw [List.take_of_length_le (by rw [← N1.out]; omega)] at h
        rw [HR.out]
        unfold checkE
        rw [firstE_zero h, if_neg (by simp)])
      clear hlt hin IN HR
      go_wp2_with fail
      go_loopw [36] (fun i wr => ∃ k : Nat, k ≤ m ∧ i = .int .i64 k ∧ wr = wo ∧ Hid ((l2.take k).any negS = false)) (fun i _ => m - (intOf i).toNat)
      case atStart => exact ⟨0, Nat.zero_le _, rfl, rfl, hide (by simp)⟩
      case round =>
        obtain ⟨j, hj, rfl, rfl, hng⟩ := hrel
        by_cases hlt : j < m
        · have hji : (j : Int) < (m : Int) := by omega
          have hj0 : (0 : Int) ≤ (j : Int) := by omega
          obtain ⟨s, hs⟩ : ∃ s, l2[j]? = some s := ⟨_, List.getElem?_eq_getElem (by rw [← N2.out]; exact hlt)⟩
          have hcell := (C2.out.below HB0.out C2.out.1).2 j s hs
          have HN := hide (rNegative_at s wr)
          rw [show (s.data.toList.head? == some 45) = negS s from rfl] at HN
          have hc : (negS s = true ∧ R = 2) ∨ (negS s = false ∧ (l2.take (j + 1)).any negS = false) := by
            cases hv : negS s with
            | true => exact .inl ⟨rfl, by rw [hR2.out, if_pos (List.any_eq_true.2 ⟨s, List.mem_of_getElem? hs, hv⟩)]⟩
            | false => exact .inr ⟨rfl, by rw [List.take_add_one, hs, List.any_append, hng.out]; simp [hv]⟩
          have HCC := hide hc
          generalize negS s = v at HN HCC
          clear hs hlt hc hng
          rcases HCC.out with ⟨rfl, rfl⟩ | ⟨rfl, hnx⟩
          · go_wp2_with fail
            refine HN.out.mono ?_
            rintro e w1 ⟨rfl, rfl⟩
            go_wp2_with fail
            go_ret
            exact ⟨rfl, HB0.out⟩
          · have HNX := hide hnx
            clear hnx
            go_wp2_with fail
            refine HN.out.mono ?_
            rintro e w1 ⟨rfl, rfl⟩
            go_wp2_with fail
            go_roundw
            case rel => exact ⟨j + 1, by omega, by simp, trivial, HNX⟩
            case measure => simp [intOf]; omega
        · obtain rfl : j = m := by omega
          have hji : ((j : Int) < (j : Int)) = False := eq_false (by omega)
          have hf : R = 0 := by
            have h := hng.out
            rw [List.take_of_length_le (by rw [← N2.out]; omega)] at h
            rw [hR2.out, h]
            rfl
          subst hf
          clear hlt hng
          go_wp2_with fail
          go_ret
          exact ⟨rfl, HB0.out⟩
open Go.RowKit Go.KP Go.KI Go.Shelf
attribute [local go_sem] Oper.semAt_some

theorem r2Parts_T {q : Rat} (fq : fitsQ q) (B : Nat) (w : World) (hB : B ≤ w.heap.size) (hT : PQ B w) :
    Calls Tryz.prog 170 #[.string (T q)] w (Ret w (.tuple #[.string (iB q.num), .string (iB (q.den : Int)), .int .i64 0])) := by
  have HT := hide hT
  have H1 := hide (fun w hB hT => r2Check_T fq B w hB hT)
  have H2 := hide (fun w => r2parts_T fq w)
  generalize iB q.num = N at H2 ⊢
  generalize iB (q.den : Int) = D at H2 ⊢
  generalize T q = X at *
  clear fq hT
  go_enter Tryz.func170, Tryz.ntmps170
  go_wp2_with fail
  refine (H1.out _ hB HT.out).mono ?_
  rintro e w1 ⟨rfl, hb1⟩
  have HB1 := hide hb1
  clear hb1
  go_wp2_with fail
  refine (H2.out _).mono ?_
  rintro e w2 ⟨rfl, hb2⟩
  have HB2 := hide (HB1.out.trans (hb2.mono HB1.out.size))
  clear hb2
  go_wp2_with fail
  refine bodyPost_ret (results_tmp3 rfl _ _ _) rfl ?_
  exact ⟨rfl, HB2.out⟩
theorem r2Div_T {x y : Rat} (fx : fitsQ x) (fy : fitsQ y) (hy : 0 < y.num) (hc : cmpC x y) (B : Nat) (w : World) (hB : B ≤ w.heap.size) (hT : PQ B w) :
    Calls Tryz.prog 115 #[.string (T x), .string (T y)] w (Ret w (.tuple #[.string (T (x / y)), .int .i64 0])) := by
  have HT := hide hT
  have H1 := hide (fun w hB hT => r2check_T fx fy B w hB hT)
  have hdiv := divInt_div x y
  have hz : ((T y).toList == [48]) = false := by rw [T_num0, decide_eq_false (by omega)]
  by_cases hs : shortQ x ∧ shortQ y
  · have HI1 := hide (fun w => ints_short fx hs.1 w)
    have HI2 := hide (fun w => ints_short fy hs.2 w)
    obtain ⟨a1, a2⟩ := shortQ_lt hs.1
    obtain ⟨b1, b2⟩ := shortQ_lt hs.2
    have ap := x.den_pos
    have bp := y.den_pos
    have m1 := prod9 (a := x.num) (b := (y.den : Int)) a1 (by omega)
    have m3 := prod9 (a := (x.den : Int)) (b := y.num) (by omega) b1
    have e0 : y.num = ((y.num.toNat : Nat) : Int) := by omega
    have m4 : 0 < x.den * y.num.toNat := Nat.mul_pos ap (by omega)
    have m5 : ((x.den * y.num.toNat : Nat) : Int) = (x.den : Int) * y.num := by rw [Int.natCast_mul, ← e0]
    have HQ := hide (fun w => r2quick_any (x.num * (y.den : Int)) (x.den * y.num.toNat) (by omega) (by omega) m4 w)
    rw [m5, Int.mul_comm (x.den : Int) y.num, hdiv] at HQ
    rw [Int.mul_comm y.num (x.den : Int)] at HQ
    obtain ⟨R, hR⟩ : ∃ s, s = T (x / y) := ⟨_, rfl⟩
    have hR2 : strB (ratS (x / y)) = R := hR.symm
    rw [hR2] at HQ
    rw [← hR]
    generalize T x = S at *
    generalize T y = U at *
    obtain ⟨n, hn⟩ : ∃ n, n = x.num := ⟨_, rfl⟩
    obtain ⟨d, hd⟩ : ∃ n, n = (x.den : Int) := ⟨_, rfl⟩
    obtain ⟨m, hm⟩ : ∃ n, n = y.num := ⟨_, rfl⟩
    obtain ⟨c, hcc⟩ : ∃ n, n = (y.den : Int) := ⟨_, rfl⟩
    simp only [← hn, ← hd, ← hm, ← hcc] at HI1 HI2 HQ
    have v1 : IntKind.i64.wrap (n * c) = n * c := IntWalk.i64_in _ (by rw [hn, hcc]; omega)
    have v2 : IntKind.i64.wrap (d * m) = d * m := IntWalk.i64_in _ (by rw [hd, hm]; omega)
    have l1 : -9223372036854775808 ≤ n * c := by rw [hn, hcc]; omega
    have l2 : n * c ≤ 9223372036854775807 := by rw [hn, hcc]; omega
    have l3 : -9223372036854775808 ≤ d * m := by rw [hd, hm]; omega
    have l4 : d * m ≤ 9223372036854775807 := by rw [hd, hm]; omega
    have hm0 : (m < 0) = False := eq_false (by omega)
    clear hR hR2 hn hd hm hcc a1 a2 b1 b2 ap bp m1 m3 e0 m4 m5 hdiv hy hc hs fx fy hT
    go_enter Tryz.func115, Tryz.ntmps115
    go_wp2_with fail
    refine (H1.out _ hB HT.out).mono ?_
    rintro e w1 ⟨rfl, hb1⟩
    have HB1 := hide hb1
    clear hb1
    go_wp2_with fail
    refine (HI1.out _).mono ?_
    rintro e w2 ⟨rfl, hb2⟩
    have HB2 := hide (HB1.out.trans (hb2.mono HB1.out.size))
    clear hb2
    go_wp2_with fail
    refine (HI2.out _).mono ?_
    rintro e w3 ⟨rfl, hb3⟩
    have HB3 := hide (HB2.out.trans (hb3.mono HB2.out.size))
    clear hb3
    go_wp2_with fail
    refine (HQ.out _).mono ?_
    rintro e w4 ⟨rfl, hb4⟩
    have HB4 := hide (HB3.out.trans (hb4.mono HB3.out.size))
    clear hb4
    go_wp2_with fail
    refine bodyPost_ret (results_tmp2 rfl _ _ _) rfl ?_
    exact ⟨rfl, HB4.out⟩
  · obtain ⟨i1, i2, b1, b2, i3, i4, HI1, HI2, hb⟩ := ints_long fx fy hs
    have HP1 := hide (fun w => r2parts_T fx w)
    have HP2 := hide (fun w => r2parts_T fy w)
    have hdc : (x.den : Int) * y.num ≠ 0 := by
      have := Int.mul_pos (show 0 < (x.den : Int) by have := x.den_pos; omega) hy
      omega
    have HM := hide (fun w hB hT => r2mul_I fx.1 fx.2 fy.2 fy.1 hdc B w hB hT)
    have hO : mulI x.num (x.den : Int) (y.den : Int) y.num = some (x / y) := by
      unfold mulI
      rw [if_pos ⟨hc.1, by rw [Int.mul_comm]; exact hc.2⟩, Int.mul_comm (x.den : Int) y.num, hdiv]
    rw [hO] at HM
    unfold opV at HM
    dsimp only at HM
    generalize T (x / y) = R at HM ⊢
    generalize iB x.num = NB at *
    generalize iB (x.den : Int) = DB at *
    generalize iB y.num = MB at *
    generalize iB (y.den : Int) = CB at *
    generalize T x = S at *
    generalize T y = U at *
    clear hdc hO hdiv hy hc hs fx fy hT
    rcases hb with rfl | ⟨rfl, rfl⟩
    all_goals
      go_enter Tryz.func115, Tryz.ntmps115
      go_wp2_with fail
      refine (H1.out _ hB HT.out).mono ?_
      rintro e w1 ⟨rfl, hb1⟩
      have HB1 := hide hb1
      clear hb1
      go_wp2_with fail
      refine (HI1.out _).mono ?_
      rintro e w2 ⟨rfl, hb2⟩
      have HB2 := hide (HB1.out.trans (hb2.mono HB1.out.size))
      clear hb2
      go_wp2_with fail
      refine (HI2.out _).mono ?_
      rintro e w3 ⟨rfl, hb3⟩
      have HB3 := hide (HB2.out.trans (hb3.mono HB2.out.size))
      clear hb3
      go_wp2_with fail
      refine (HP1.out _).mono ?_
      rintro e w4 ⟨rfl, hb4⟩
      have HB4 := hide (HB3.out.trans (hb4.mono HB3.out.size))
      clear hb4
      go_wp2_with fail
      refine (HP2.out _).mono ?_
      rintro e w5 ⟨rfl, hb5⟩
      have HB5 := hide (HB4.out.trans (hb5.mono HB4.out.size))
      clear hb5
      go_wp2_with fail
      refine (HM.out _ (Nat.le_trans hB HB5.out.size) (HT.out.p10.on HB5.out hB)).mono ?_
      rintro e w6 ⟨rfl, hb6⟩
      have HB6 := hide (HB5.out.trans (hb6.mono HB5.out.size))
      clear hb6
      go_wp2_with fail
      refine bodyPost_ret (results_tmp2 rfl _ _ _) rfl ?_
      exact ⟨rfl, HB6.out⟩
theorem s3quotient_T {x y : Rat} (fx : fitsQ x) (fy : fitsQ y) (hy : 0 < y.num) (hc : cmpC x y) (B : Nat) (w : World) (hB : B ≤ w.heap.size) (hT : PQ B w) :
    Calls Tryz.prog 183 #[.string (T x), .string (T y)] w (Ret w (.string (T (x / y)))) := by
  have HT := hide hT
  have H1 := hide (fun w hB hT => r2Div_T fx fy hy hc B w hB hT)
  generalize T (x / y) = R at *
  generalize T x = S at *
  generalize T y = U at *
  clear fx fy hy hc hT
  go_enter Tryz.func183, Tryz.ntmps183
  go_wp2_with fail
  refine (H1.out _ hB HT.out).mono ?_
  rintro e w1 ⟨rfl, hb1⟩
  have HB1 := hide hb1
  clear hb1
  go_wp2_with fail
  go_ret
  exact ⟨rfl, HB1.out⟩
theorem s3product_T {x y : Rat} (fx : fitsQ x) (fy : fitsQ y) (hc : mulC x y) (B : Nat) (w : World) (hB : B ≤ w.heap.size) (hT : PQ B w) :
    Calls Tryz.prog 171 #[.string (T x), .string (T y)] w (Ret w (.string (T (x * y)))) := by
  have HT := hide hT
  have H1 := hide (fun w hB hT => r2Mul_T fx fy B w hB hT)
  rw [show mulO x y = some (x * y) from if_pos hc] at H1
  unfold opV at H1
  dsimp only at H1
  generalize T (x * y) = R at *
  generalize T x = S at *
  generalize T y = U at *
  clear fx fy hc hT
  go_enter Tryz.func171, Tryz.ntmps171
  go_wp2_with fail
  refine (H1.out _ hB HT.out).mono ?_
  rintro e w1 ⟨rfl, hb1⟩
  have HB1 := hide hb1
  clear hb1
  go_wp2_with fail
  go_ret
  exact ⟨rfl, HB1.out⟩
theorem s3sign_T (q : Rat) (w : World) : Calls Tryz.prog 169 #[.string (T q)] w (fun e w' => e = .returned (.int .i64 (sgnR q)) ∧ w' = w) := by
  have hz := T_num0 q
  obtain ⟨hp, h45⟩ := T_head0 q
  have hp0 : (0 : Int) < ((T q).size : Int) := by omega
  have hk : (q.num = 0 ∧ sgnR q = 0) ∨ (¬ q.num = 0 ∧ q.num < 0 ∧ sgnR q = -1) ∨ (¬ q.num = 0 ∧ ¬ q.num < 0 ∧ sgnR q = 1) := by
    rcases cmpT_cases q 0 with ⟨h, h2⟩ | ⟨h, h2⟩ | ⟨h, h2⟩
    · exact .inr (.inl ⟨by have := num_lt h; omega, num_lt h, h2⟩)
    · exact .inl ⟨by rw [h]; rfl, h2⟩
    · exact .inr (.inr ⟨by have := num_gt h; omega, by have := num_gt h; omega, h2⟩)
  obtain ⟨S, hS⟩ : ∃ S, S = sgnR q := ⟨_, rfl⟩
  rw [← hS] at hk ⊢
  generalize T q = X at *
  rcases hk with ⟨h1, rfl⟩ | ⟨h1, h2, rfl⟩ | ⟨h1, h2, rfl⟩
  · rw [decide_eq_true h1] at hz
    clear h1 hS h45
    go_enter Tryz.func169, Tryz.ntmps169
    go_wp2_with fail
    go_ret
    exact ⟨rfl, rfl⟩
  · rw [decide_eq_false h1] at hz
    rw [decide_eq_true h2] at h45
    clear h1 h2 hS
    go_enter Tryz.func169, Tryz.ntmps169
    go_wp2_with fail
    go_ret
    exact ⟨rfl, rfl⟩
  · rw [decide_eq_false h1] at hz
    rw [decide_eq_false h2] at h45
    clear h1 h2 hS
    go_enter Tryz.func169, Tryz.ntmps169
    go_wp2_with fail
    go_ret
    exact ⟨rfl, rfl⟩
theorem iB_size_abs (z : Int) : (iB z).size = if z < 0 then (Lib.decDigits z.natAbs).length + 1 else (Lib.decDigits z.natAbs).length := by
  rw [← bytes_len, iB_list]
  rcases itoa_cases z with ⟨h1, h⟩ | ⟨h1, h⟩ <;> rw [h]
  · rw [if_pos h1, List.length_cons]
  · rw [if_neg (by omega)]
theorem s3size_I {z : Int} (f : fits z) (w : World) : Calls Tryz.prog 288 #[.string (iB z)] w (fun e w' => e = .returned (.int .i64 ((Lib.decDigits z.natAbs).length : Nat)) ∧ w' = w) := by
  obtain ⟨hp, h45⟩ := iB_head z
  have hs := iB_size_abs z
  have hsz := iB_size f
  have hp0 : (0 : Int) < ((iB z).size : Int) := by omega
  have he : ((iB z).toList == []) = false := by
    rw [ByteArray.toList_eq]
    exact beq_false_of_ne fun e => by
      have : (iB z).data.toList.length = 0 := by rw [e]; rfl
      rw [bytes_len] at this
      omega
  have he2 : ((iB z).toList != []) = true := by simp only [bne, he]; rfl
  have he3 : (iB z).toList.isEmpty = false := by
    cases h : (iB z).toList with
    | nil => rw [h] at he; cases he
    | cons a b => rfl
  obtain ⟨L, hL⟩ : ∃ L, L = (Lib.decDigits z.natAbs).length := ⟨_, rfl⟩
  rw [← hL] at hs ⊢
  by_cases hz : z < 0
  · rw [if_pos hz] at hs
    rw [decide_eq_true hz] at h45
    generalize iB z = X at *
    have hl : (X.size : Int) - 1 = (L : Int) := by omega
    clear hL hz hs f
    go_enter Tryz.func288, Tryz.ntmps288
    go_wp2_with fail
    go_ret
    exact ⟨by rw [← hl]; rfl, rfl⟩
  · rw [if_neg hz] at hs
    rw [decide_eq_false hz] at h45
    generalize iB z = X at *
    subst hs
    clear hL hz f
    go_enter Tryz.func288, Tryz.ntmps288
    go_wp2_with fail
    go_ret
    exact ⟨rfl, rfl⟩
theorem s3check_any (b1 : Nat) (l1 : List ByteArray) (n1 : l1.length ≤ 1000) (h1 : ∀ s ∈ l1, s.size ≤ 9223372036854775807) (B : Nat) (w : World) (c1 : StrsAt w b1 l1) (hB : B ≤ w.heap.size) (hT : PQ B w) :
    Calls Tryz.prog 161 #[.slice (some ⟨b1, 0, none⟩) l1.length l1.length] w (Ret w (.int .i64 (firstE l1))) := by
  have HT := hide hT
  obtain ⟨n, hn⟩ : ∃ n, n = l1.length := ⟨_, rfl⟩
  rw [← hn] at n1 ⊢
  have C1 := hide c1
  have N1 := hide hn
  have R1 := hide h1
  obtain ⟨R, hR⟩ : ∃ R, R = firstE l1 := ⟨_, rfl⟩
  rw [← hR]
  have HR := hide hR
  clear c1 hn h1 hT hR
  go_enter Tryz.func161, Tryz.ntmps161
  go_wp2_with fail
  go_loopw [3] (fun i wr => ∃ k : Nat, k ≤ n ∧ i = .int .i64 k ∧ Hid ((∀ x ∈ l1.take k, chk90 x.data.toList = 0) ∧ Below w.heap.size w wr)) (fun i _ => n - (intOf i).toNat)
  case atStart => exact ⟨0, Nat.zero_le _, rfl, by simp, Below.refl _ _⟩
  case round =>
    obtain ⟨k, hk, rfl, hin⟩ := hrel
    obtain ⟨wo, hwo⟩ : ∃ wo, wo = wr := ⟨_, rfl⟩
    subst hwo
    have IN := hide hin.out.1
    have HB0 := hide hin.out.2
    by_cases hlt : k < n
    · have hki : (k : Int) < (n : Int) := by omega
      have hk0 : (0 : Int) ≤ (k : Int) := by omega
      obtain ⟨s, hs⟩ : ∃ s, l1[k]? = some s := ⟨_, List.getElem?_eq_getElem (by rw [← N1.out]; exact hlt)⟩
      have hss := R1.out s (List.mem_of_getElem? hs)
      have hcell := (C1.out.below HB0.out C1.out.1).2 k s hs
      have HSK := hide hs
      have HC := hide (r2Check_big s hss B wo (Nat.le_trans hB HB0.out.size) (HT.out.on HB0.out hB))
      by_cases hq : chkQ s.data.toList = 0
      rotate_left
      · have e : R = chkQ s.data.toList := by
          have h9 := chk90_none hq
          have := firstE_take hs IN.out (by rw [h9]; exact hq)
          rw [h9] at this
          rw [HR.out]
          exact this
        have hqb : (chkQ s.data.toList == 0) = false := by simpa using hq
        rw [← e] at HC hqb
        clear hs hss hq e hlt hin
        go_wp2_with fail
        refine HC.out.mono ?_
        rintro e w1 ⟨rfl, hb1⟩
        have HB1 := hide (HB0.out.trans (hb1.mono HB0.out.size))
        clear hb1 hcell
        go_wp2_with fail
        go_ret
        exact ⟨rfl, HB1.out⟩
      rw [hq] at HC
      obtain ⟨eT, fq, _, _⟩ := chkQ_ok hq
      obtain ⟨q, hqq⟩ : ∃ q, q = valQ s.data.toList := ⟨_, rfl⟩
      rw [← hqq] at eT fq
      have eS : s = T q := T_of eT
      have HP := hide (fun w hB hT => r2Parts_T fq B w hB hT)
      have HS1 := hide (fun w => s3size_I fq.1 w)
      have HS2 := hide (fun w => s3size_I fq.2 w)
      rw [Int.natAbs_natCast] at HS2
      rw [← eS] at HP
      have h9 : chk90 s.data.toList = if 90 < max (Lib.decDigits q.num.natAbs).length (Lib.decDigits q.den).length then 4 else 0 := by
        unfold chk90
        rw [if_neg (by simp [hq]), ← hqq]
      generalize (Lib.decDigits q.num.natAbs).length = a at HS1 h9
      generalize (Lib.decDigits q.den).length = d at HS2 h9
      have hbig : (90 < a ∧ R = 4) ∨ (a ≤ 90 ∧ 90 < d ∧ R = 4) ∨ (a ≤ 90 ∧ d ≤ 90 ∧ (∀ x ∈ l1.take (k + 1), chk90 x.data.toList = 0)) := by
        by_cases hb : 90 < max a d
        · rw [if_pos hb] at h9
          have := firstE_take hs IN.out (by rw [h9]; decide)
          rw [h9, ← HR.out] at this
          by_cases ha : 90 < a
          · exact .inl ⟨ha, this⟩
          · exact .inr (.inl ⟨by omega, by omega, this⟩)
        · rw [if_neg hb] at h9
          refine .inr (.inr ⟨by omega, by omega, fun x hx => ?_⟩)
          rw [List.take_add_one, hs] at hx
          rcases List.mem_append.1 hx with h | h
          · exact IN.out x h
          · simp at h; rw [h]; exact h9
      have HBIG := hide hbig
      generalize iB q.num = N at *
      generalize iB (q.den : Int) = D at *
      clear hs hss hq eT fq hqq eS h9 hbig hlt hin
      go_wp2_with fail
      refine HC.out.mono ?_
      rintro e w1 ⟨rfl, hb1⟩
      have HB1 := hide (HB0.out.trans (hb1.mono HB0.out.size))
      clear hb1 hcell HC
      have hcell := (C1.out.below HB1.out C1.out.1).2 k s HSK.out
      go_wp2_with fail
      refine (HP.out _ (Nat.le_trans hB HB1.out.size) (HT.out.on HB1.out hB)).mono ?_
      rintro e w2 ⟨rfl, hb2⟩
      have HB2 := hide (HB1.out.trans (hb2.mono HB1.out.size))
      clear hb2 hcell
      go_wp2_with fail
      refine (HS1.out _).mono ?_
      rintro e w3 ⟨rfl, rfl⟩
      rcases HBIG.out with ⟨ha, rfl⟩ | ⟨ha, hd, rfl⟩ | ⟨ha, hd, hall⟩
      · have g1 : (90 : Int) < (a : Int) := by omega
        clear ha
        go_wp2_with fail
        go_ret
        exact ⟨rfl, HB2.out⟩
      · have g1 : ((90 : Int) < (a : Int)) = False := eq_false (by omega)
        have g2 : (90 : Int) < (d : Int) := by omega
        clear ha hd
        go_wp2_with fail
        refine (HS2.out _).mono ?_
        rintro e w3 ⟨rfl, rfl⟩
        go_wp2_with fail
        go_ret
        exact ⟨rfl, HB2.out⟩
      · have g1 : ((90 : Int) < (a : Int)) = False := eq_false (by omega)
        have g2 : ((90 : Int) < (d : Int)) = False := eq_false (by omega)
        have HALL := hide hall
        clear ha hd hall
        go_wp2_with fail
        refine (HS2.out _).mono ?_
        rintro e w3 ⟨rfl, rfl⟩
        go_wp2_with fail
        go_roundw
        case rel => exact ⟨k + 1, by omega, by simp, HALL.out, HB2.out⟩
        case measure => simp [intOf]; omega
    · obtain rfl : k = n := by omega
      have hki : ((k : Int) < (k : Int)) = False := eq_false (by omega)
      have hR2 : R = 0 := by
        have h := IN.out
        rw [List.take_of_length_le (by rw [← N1.out]; omega)] at h
        rw [HR.out]
        exact firstE_zero h
      subst hR2
      clear hlt hin IN HR
      go_wp2_with fail
      go_ret
      exact ⟨rfl, HB0.out⟩
open Go.RowKit Go.KP Go.KI Go.Shelf
attribute [local go_sem] Oper.semAt_some

theorem txq {x : Rat} {n d : Nat} {a b : List UInt8} (h1 : x.num = (n : Int)) (h2 : x.den = d) (h3 : d ≠ 1) (ha : Lib.decDigits n = a) (hb : Lib.decDigits d = b) : T x = strB (a ++ 47 :: b) := by
  unfold T ratS
  rw [if_neg (by omega), h1, Lib.itoa_nonneg, h2, ha, hb]
theorem txn {x : Rat} {n : Nat} {a : List UInt8} (h : x = ((n : Nat) : Rat)) (ha : Lib.decDigits n = a) : T x = strB a := by
  rw [h, show T ((n : Nat) : Rat) = iB (n : Int) from (iB_T _).symm, iB_lit n a ha]
abbrev e12 : Rat := ⟨1, 2, by decide, by decide⟩
abbrev e94 : Rat := ⟨9, 4, by decide, by decide⟩
abbrev e32 : Rat := ⟨3, 2, by decide, by decide⟩
abbrev e100 : Rat := ⟨1, 100, by decide, by decide⟩
abbrev e141 : Rat := ⟨141, 100, by decide, by decide⟩
theorem ex8 : T 8 = ⟨#[56]⟩ := txn (n := 8) rfl (a := [56]) (by decide +kernel)
theorem ex2 : T 2 = ⟨#[50]⟩ := txn (n := 2) rfl (a := [50]) (by decide +kernel)
theorem ex12 : T e12 = ⟨#[49, 47, 50]⟩ := txq (n := 1) (d := 2) rfl rfl (by decide) (a := [49]) (b := [50]) (by decide +kernel) (by decide +kernel)
theorem ex94 : T e94 = ⟨#[57, 47, 52]⟩ := txq (n := 9) (d := 4) rfl rfl (by decide) (a := [57]) (b := [52]) (by decide +kernel) (by decide +kernel)
theorem ex32 : T e32 = ⟨#[51, 47, 50]⟩ := txq (n := 3) (d := 2) rfl rfl (by decide) (a := [51]) (b := [50]) (by decide +kernel) (by decide +kernel)
theorem ex100 : T e100 = ⟨#[49, 47, 49, 48, 48]⟩ := txq (n := 1) (d := 100) rfl rfl (by decide) (a := [49]) (b := [49, 48, 48]) (by decide +kernel) (by decide +kernel)
theorem ex141 : T e141 = ⟨#[49, 52, 49, 47, 49, 48, 48]⟩ := txq (n := 141) (d := 100) rfl rfl (by decide) (a := [49, 52, 49]) (b := [49, 48, 48]) (by decide +kernel) (by decide +kernel)
theorem roomy_lit {x : Rat} (h : x.num.natAbs < 10 ^ 3 ∧ x.den < 10 ^ 3) : roomy x := roomy_of (p := 3) h (by omega)
theorem normN_8 : normN 8 = (2, 2) := by decide +kernel
theorem norm8 : normC 8 = 2 ∧ normL 8 = 2 := by
  have e : normN ((8 : Rat).num.toNat * (8 : Rat).den) = (2, 2) := normN_8
  unfold normC normL
  rw [e]
  exact ⟨by decide +kernel, rfl⟩
theorem norm12 : normC e12 = e12 ∧ normL e12 = 2 := by
  have e : normN (e12.num.toNat * e12.den) = (1, 2) := normN_2
  unfold normC normL
  rw [e]
  exact ⟨by decide +kernel, rfl⟩
theorem sqR94 : sqR e94 = some e32 := (sqR_some (by decide +kernel)).2 ⟨by decide +kernel, by decide +kernel⟩
theorem floor141 : floorR 2 e100 = e141 := by
  have e : unitsN 2 e100 1 = 141 := by
    unfold unitsN
    rw [show (2 : Rat).num * ((e100.den : Int) * e100.den) * ((1 : Nat) : Int) / (((2 : Rat).den : Int) * (e100.num * e100.num)) = 20000 by decide +kernel]
    exact rootN_eq (by decide) (by decide)
  unfold floorR
  rw [e]
  decide +kernel
theorem mxe4 (w : World) : (Builtin.max_ #[31, 31, 31, 31] 31 #[.int .i64 0, .int .i64 0, .int .i64 0, .int .i64 0]).run Tryz.prog w = .ok (.int .i64 0) w := by kernel_rfl
theorem l3awake_any (B : Nat) (w : World) (hB : B ≤ w.heap.size) (hT : PR B w) :
    Calls Tryz.prog 64 #[] w (Ret w (.bool true)) := by
  have HT := hide hT
  have H1 := hide (fun w hB hT => rNormal_pos (q := 8) (roomy_lit (by decide +kernel)) (by decide +kernel) B w hB hT)
  have H2 := hide (fun w hB hT => rNormal_pos (q := e12) (roomy_lit (by decide +kernel)) (by decide +kernel) B w hB hT)
  have H3 := hide (fun w hB hT => rExact_T (q := e94) (roomy_lit (by decide +kernel)) (by decide +kernel) B w hB hT)
  have H4 := hide (fun w hB hT => rFloor_T (q := 2) (u := e100) (roomy_lit (by decide +kernel)) (roomy_lit (by decide +kernel)) (by decide +kernel) (by decide +kernel) B w hB hT)
  rw [norm8.1, norm8.2, ex8, ex2, lit2] at H1
  rw [norm12.1, norm12.2, ex12, lit2] at H2
  rw [sqR94, ex94] at H3
  dsimp only [rootT, rootB] at H3
  rw [ex32] at H3
  rw [floor141, ex2, ex100, ex141] at H4
  have hmx := mxe4
  clear hT
  go_enter Tryz.func64, Tryz.ntmps64
  go_wp2_with fail
  refine (H1.out _ hB HT.out).mono ?_
  rintro e w1 ⟨rfl, hb1⟩
  have HB1 := hide hb1
  clear hb1
  go_wp2_with fail
  refine (H2.out _ (Nat.le_trans hB HB1.out.size) (HT.out.on HB1.out hB)).mono ?_
  rintro e w2 ⟨rfl, hb2⟩
  have HB2 := hide (HB1.out.trans (hb2.mono HB1.out.size))
  clear hb2
  go_wp2_with fail
  refine (H3.out _ (Nat.le_trans hB HB2.out.size) (HT.out.on HB2.out hB).pq).mono ?_
  rintro e w3 ⟨rfl, hb3⟩
  have HB3 := hide (HB2.out.trans (hb3.mono HB2.out.size))
  clear hb3
  go_wp2_with fail
  refine (H4.out _ (Nat.le_trans hB HB3.out.size) (HT.out.on HB3.out hB).pq).mono ?_
  rintro e w4 ⟨rfl, hb4⟩
  have HB4 := hide (HB3.out.trans (hb4.mono HB3.out.size))
  clear hb4
  go_wp2_with fail
  go_ret
  exact ⟨rfl, HB4.out⟩
open Go.RowKit Go.KP Go.KI Go.Shelf
attribute [local go_sem] Oper.semAt_some

theorem sgn_ge {q : Rat} (h : 0 ≤ q) : 0 ≤ sgnR q := by
  rcases cmpT_cases q 0 with ⟨h1, _⟩ | ⟨_, h2⟩ | ⟨_, h2⟩
  · exact absurd h1 (Rat.not_lt.2 h)
  · rw [show sgnR q = 0 from h2]; decide
  · rw [show sgnR q = 1 from h2]; decide
theorem beqs (N : ByteArray) : (N.toList == N.toList) = true ∧ (N.toList != N.toList) = false := by simp
end Go.Proofs.YtpmnhipffkhcpaaGreatDoor
