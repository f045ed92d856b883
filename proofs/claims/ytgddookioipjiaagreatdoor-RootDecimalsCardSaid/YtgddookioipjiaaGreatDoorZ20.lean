/-
  Texts of the integers, laid together: Jy, Jz, Ka.
-/
import Derived.Test.YtgddookioipjiaaGreatDoorZ14
import Derived.Test.YtgddookioipjiaaGreatDoorZ16
import Derived.Test.YtgddookioipjiaaGreatDoorZ19
namespace Go.KI
open Go
/-- Why a text is no number, or one too long for roots. -/
def chk90 (l : List UInt8) : Int := if chkQ l ≠ 0 then chkQ l else if 90 < max (Lib.decDigits (valQ l).num.natAbs).length (Lib.decDigits (valQ l).den).length then 4 else 0
/-- The first error of texts. -/
def firstE : List ByteArray → Int
  | [] => 0
  | s :: r => if chk90 s.data.toList ≠ 0 then chk90 s.data.toList else firstE r
/-- Whether a text has a minus sign. -/
def negS (s : ByteArray) : Bool := s.data.toList.head? == some 45
def checkE (l1 l2 : List ByteArray) : Int := if firstE l1 ≠ 0 then firstE l1 else if l2.any negS then 2 else 0
theorem firstE_take {l : List ByteArray} : ∀ {k : Nat} {s : ByteArray}, l[k]? = some s → (∀ x ∈ l.take k, chk90 x.data.toList = 0) → chk90 s.data.toList ≠ 0 → firstE l = chk90 s.data.toList := by
  induction l with
  | nil => intro k s h; simp at h
  | cons x r ih =>
    intro k s h hk hs
    cases k with
    | zero =>
      simp at h
      subst h
      exact if_pos hs
    | succ k =>
      simp at h
      have h0 := hk x (by simp)
      show (if chk90 x.data.toList ≠ 0 then _ else firstE r) = _
      rw [if_neg (by simp [h0])]
      exact ih h (fun y hy => hk y (by simp [hy])) hs
theorem firstE_zero {l : List ByteArray} (h : ∀ x ∈ l, chk90 x.data.toList = 0) : firstE l = 0 := by
  induction l with
  | nil => rfl
  | cons x r ih =>
    show (if chk90 x.data.toList ≠ 0 then _ else firstE r) = 0
    rw [if_neg (by simp [h x (by simp)])]
    exact ih (fun y hy => h y (by simp [hy]))
theorem chk90_zero {l : List UInt8} (h : chk90 l = 0) : chkQ l = 0 ∧ (Lib.decDigits (valQ l).num.natAbs).length ≤ 90 ∧ (Lib.decDigits (valQ l).den).length ≤ 90 := by
  unfold chk90 at h
  by_cases h1 : chkQ l = 0
  · rw [if_neg (by simp [h1])] at h
    by_cases h2 : 90 < max (Lib.decDigits (valQ l).num.natAbs).length (Lib.decDigits (valQ l).den).length
    · rw [if_pos h2] at h; cases h
    · exact ⟨h1, by omega, by omega⟩
  · rw [if_pos h1] at h; exact absurd h h1
theorem chk90_none {l : List UInt8} (h : chkQ l ≠ 0) : chk90 l = chkQ l := if_pos h
end Go.KI
namespace Go.Proofs.YtgddookioipjiaaGreatDoor
open Go.RowKit Go.KP Go.KI Go.Shelf
attribute [local go_sem] Oper.semAt_some

theorem chk90_roomy {s : ByteArray} (h : chk90 s.data.toList = 0) : ∃ q, roomy q ∧ s = T q := by
  obtain ⟨h1, h2, h3⟩ := chk90_zero h
  obtain ⟨e, f, _, _⟩ := chkQ_ok h1
  exact ⟨valQ s.data.toList, ⟨f, h2, h3⟩, T_of e⟩
theorem roomy_chk90 {q : Rat} (h : roomy q) : chk90 (T q).data.toList = 0 := by
  unfold chk90
  rw [T_list, ratS_num, if_neg (by simp [chkQ_fits h.1]), if_neg]
  have := h.2.1
  have := h.2.2
  omega
theorem negS_T (q : Rat) : negS (T q) = decide (q.num < 0) := T_head q
set_option maxRecDepth 100000 in
set_option maxHeartbeats 16000000 in
theorem rCheck_any (b1 b2 : Nat) (l1 l2 : List ByteArray) (n1 : l1.length ≤ 1000) (n2 : l2.length ≤ 1000) (h1 : ∀ s ∈ l1, s.size ≤ 1000000) (B : Nat) (w : World) (c1 : StrsAt w b1 l1) (c2 : StrsAt w b2 l2) (hB : B ≤ w.heap.size) (hT : PQ B w) :
    Calls Tryz.prog 39 #[.slice (some ⟨b1, 0, none⟩) l1.length l1.length, .slice (some ⟨b2, 0, none⟩) l2.length l2.length] w (Ret w (.int .i64 (checkE l1 l2))) := by
  have HT := hide hT
  obtain ⟨n, hn⟩ : ∃ n, n = l1.length := ⟨_, rfl⟩
  obtain ⟨m, hm⟩ : ∃ n, n = l2.length := ⟨_, rfl⟩
  rw [← hn] at n1 ⊢
  rw [← hm] at n2 ⊢
  have C1 := hide c1
  have C2 := hide c2
  have N1 := hide hn
  have N2 := hide hm
  have R1 := hide h1
  obtain ⟨R, hR⟩ : ∃ R, R = checkE l1 l2 := ⟨_, rfl⟩
  rw [← hR]
  have HR := hide hR
  clear c1 c2 hn hm h1 hT hR
  go_enter Tryz.func39, Tryz.ntmps39
  go_wp2_with fail
  go_loopw [13] (fun i wr => ∃ k : Nat, k ≤ n ∧ i = .int .i64 k ∧ Hid ((∀ x ∈ l1.take k, chk90 x.data.toList = 0) ∧ Below w.heap.size w wr)) (fun i _ => n - (intOf i).toNat)
  case atStart => exact ⟨0, Nat.zero_le _, rfl, by simp, Below.refl _ _⟩
  case round =>
    obtain ⟨k, hk, rfl, hin⟩ := hrel
    obtain ⟨wo, hwo⟩ : ∃ wo, wo = wr := ⟨_, rfl⟩
    subst hwo
    have IN := hide hin.out.1
    have HB0 := hide hin.out.2
    by_cases hlt : k < n
    · have hki : (k : Int) < (n : Int) := by omega
      have hk0 : (0 : Int) ≤ (k : Int) := by omega
      obtain ⟨s, hs⟩ : ∃ s, l1[k]? = some s := ⟨_, List.getElem?_eq_getElem (by rw [← N1.out]; exact hlt)⟩
      have hss := R1.out s (List.mem_of_getElem? hs)
      have hcell := (C1.out.below HB0.out C1.out.1).2 k s hs
      have HC := hide (qCheck_any s hss B wo (Nat.le_trans hB HB0.out.size) (HT.out.on HB0.out hB))
      by_cases hq : chkQ s.data.toList = 0
      rotate_left
      · have e : R = chkQ s.data.toList := by
          have h9 := chk90_none hq
          have := firstE_take hs IN.out (by rw [h9]; exact hq)
          rw [h9] at this
          rw [HR.out]
          unfold checkE
          rw [this, if_pos hq]
        have hqb : (chkQ s.data.toList == 0) = false := by simpa using hq
        rw [← e] at HC hqb
        clear hs hss hq e hlt hin
        go_wp2_with fail
        refine HC.out.mono ?_
        rintro e w1 ⟨rfl, hb1⟩
        have HB1 := hide (HB0.out.trans (hb1.mono HB0.out.size))
        clear hb1 hcell
        go_wp2_with fail
        go_ret
        exact ⟨rfl, HB1.out⟩
      rw [hq] at HC
      obtain ⟨eT, fq, _, _⟩ := chkQ_ok hq
      obtain ⟨q, hqq⟩ : ∃ q, q = valQ s.data.toList := ⟨_, rfl⟩
      rw [← hqq] at eT fq
      have eS : s = T q := T_of eT
      have HO := hide (fun w hB hT => rOf_T fq B w hB hT)
      obtain ⟨D, hD⟩ : ∃ X, X = denB q := ⟨_, rfl⟩
      obtain ⟨N, hN⟩ : ∃ X, X = numB q := ⟨_, rfl⟩
      have HTP := hide (fun w => trimPrefix_any N w)
      rw [show N.data.toList = Lib.itoa q.num by rw [hN]; exact strB_list _, digs_itoa] at HTP
      have hDs : D.size = (Lib.decDigits q.den).length := by
        rw [hD]
        unfold denB
        rw [strB_size, Lib.itoa_nonneg]
      obtain ⟨M, hM⟩ : ∃ X, X = strB (Lib.decDigits q.num.natAbs) := ⟨_, rfl⟩
      have hMs : M.size = (Lib.decDigits q.num.natAbs).length := by rw [hM, strB_size]
      have h9 : chk90 s.data.toList = if 90 < max M.size D.size then 4 else 0 := by
        unfold chk90
        rw [if_neg (by simp [hq]), ← hqq, hMs, hDs]
      rw [← hM] at HTP
      rw [← hN, ← hD] at HO
      rw [← eS] at HO
      have hbig : (90 < max M.size D.size ∧ R = 4 ∧ (90 : Int) < max (M.size : Int) (D.size : Int)) ∨ ((∀ x ∈ l1.take (k + 1), chk90 x.data.toList = 0) ∧ ((90 : Int) < max (M.size : Int) (D.size : Int)) = False) := by
        by_cases hb : 90 < max M.size D.size
        · rw [if_pos hb] at h9
          refine .inl ⟨hb, ?_, by omega⟩
          have := firstE_take hs IN.out (by rw [h9]; decide)
          rw [h9] at this
          rw [HR.out]
          unfold checkE
          rw [this, if_pos (by decide)]
        · rw [if_neg hb] at h9
          refine .inr ⟨fun x hx => ?_, eq_false (by omega)⟩
          rw [List.take_add_one, hs] at hx
          rcases List.mem_append.1 hx with h | h
          · exact IN.out x h
          · simp at h; rw [h]; exact h9
      have HBIG := hide hbig
      clear hs hss hq eT fq hqq eS hD hN hM hMs hDs h9 hbig hlt hin
      go_wp2_with fail
      refine HC.out.mono ?_
      rintro e w1 ⟨rfl, hb1⟩
      have HB1 := hide (HB0.out.trans (hb1.mono HB0.out.size))
      clear hb1 hcell HC
      go_wp2_with fail
      refine (HO.out _ (Nat.le_trans hB HB1.out.size) (HT.out.on HB1.out hB)).mono ?_
      rintro e w2 ⟨rfl, hb2⟩
      have X2 := hide (heap1 w2 (rpairO N D))
      have G2 := hide X2.out.1
      have HB2 := hide (HB1.out.trans ((hb2.trans (X2.out.2.2.mono hb2.size)).mono HB1.out.size))
      clear hb2
      go_wp2_with fail
      obtain ⟨W, hW⟩ : ∃ W, W = w2.alloc (rpairO N D) := ⟨_, rfl⟩
      rw [← hW] at G2 HB2 ⊢
      clear hW X2
      have HTC := hide (fun (x : Of (Below W.heap.size W)) => show Calls Tryz.prog 92 #[.string N, .string ⟨#[45]⟩] x.w fun e w' => e = .returned (.string M) ∧ Cls (Below W.heap.size W) w' from (HTP.out x.w).mono fun _ _ ⟨h, hb⟩ => ⟨h, by rw [← hb]; exact Cls.mk x.h⟩)
      have hx1 : ∀ x : Of (Below W.heap.size W), ∀ o, x.w.cell? ⟨w2.heap.size, o, none⟩ = W.cell? ⟨w2.heap.size, o, none⟩ := fun x o => x.h.cell (p := ⟨w2.heap.size, o, none⟩) (lt_blk G2.out)
      have cc1 := fun o => cell_blk G2.out o
      have kn : Nonempty (Of (Below W.heap.size W)) := ⟨⟨_, Below.refl _ _⟩⟩
      rcases HBIG.out with ⟨_, rfl, hmx⟩ | ⟨hall, hmx⟩
      · refine region_class (C := Cls (Below W.heap.size W)) (by kernel_rfl) (by kernel_rfl) (by kernel_rfl) (Cls.mk (Below.refl _ _).drew) ?_
        repeat (go_big_quiet_step (first | rfl | with_reducible exact HTC.out _))
        refine wpQuiet_nil ?_
        intro w3 hcl
        have HB3 := hide (HB2.out.trans (hcl.out.mono HB2.out.size))
        clear hcl hx1 cc1 HTC kn
        go_wp2_with fail
        go_ret
        exact ⟨rfl, HB3.out⟩
      · have HALL := hide hall
        clear hall
        refine region_class (C := Cls (Below W.heap.size W)) (by kernel_rfl) (by kernel_rfl) (by kernel_rfl) (Cls.mk (Below.refl _ _).drew) ?_
        repeat (go_big_quiet_step (first | rfl | with_reducible exact HTC.out _))
        refine wpQuiet_nil ?_
        intro w3 hcl
        have HB3 := hide (HB2.out.trans (hcl.out.mono HB2.out.size))
        clear hcl hx1 cc1 HTC kn
        go_wp2_with fail
        go_roundw
        case rel => exact ⟨k + 1, by omega, by simp, HALL.out, HB3.out⟩
        case measure => simp [intOf]; omega
    · obtain rfl : k = n := by omega
      have hki : ((k : Int) < (k : Int)) = False := eq_false (by omega)
      have hR2 : Hid (R = if l2.any negS then 2 else 0) := hide (by
        have h := IN.out
        rw [List.take_of_length_le (by rw [← N1.out]; omega)] at h
        rw [HR.out]
        unfold checkE
        rw [firstE_zero h, if_neg (by simp)])
      clear hlt hin IN HR
      go_wp2_with fail
      go_loopw [36] (fun i wr => ∃ k : Nat, k ≤ m ∧ i = .int .i64 k ∧ wr = wo ∧ Hid ((l2.take k).any negS = false)) (fun i _ => m - (intOf i).toNat)
      case atStart => exact ⟨0, Nat.zero_le _, rfl, rfl, hide (by simp)⟩
      case round =>
        obtain ⟨j, hj, rfl, rfl, hng⟩ := hrel
        by_cases hlt : j < m
        · have hji : (j : Int) < (m : Int) := by omega
          have hj0 : (0 : Int) ≤ (j : Int) := by omega
          obtain ⟨s, hs⟩ : ∃ s, l2[j]? = some s := ⟨_, List.getElem?_eq_getElem (by rw [← N2.out]; exact hlt)⟩
          have hcell := (C2.out.below HB0.out C2.out.1).2 j s hs
          have HN := hide (rNegative_at s wr)
          rw [show (s.data.toList.head? == some 45) = negS s from rfl] at HN
          have hc : (negS s = true ∧ R = 2) ∨ (negS s = false ∧ (l2.take (j + 1)).any negS = false) := by
            cases hv : negS s with
            | true => exact .inl ⟨rfl, by rw [hR2.out, if_pos (List.any_eq_true.2 ⟨s, List.mem_of_getElem? hs, hv⟩)]⟩
            | false => exact .inr ⟨rfl, by rw [List.take_add_one, hs, List.any_append, hng.out]; simp [hv]⟩
          have HCC := hide hc
          generalize negS s = v at HN HCC
          clear hs hlt hc hng
          rcases HCC.out with ⟨rfl, rfl⟩ | ⟨rfl, hnx⟩
          · go_wp2_with fail
            refine HN.out.mono ?_
            rintro e w1 ⟨rfl, rfl⟩
            go_wp2_with fail
            go_ret
            exact ⟨rfl, HB0.out⟩
          · have HNX := hide hnx
            clear hnx
            go_wp2_with fail
            refine HN.out.mono ?_
            rintro e w1 ⟨rfl, rfl⟩
            go_wp2_with fail
            go_roundw
            case rel => exact ⟨j + 1, by omega, by simp, trivial, HNX⟩
            case measure => simp [intOf]; omega
        · obtain rfl : j = m := by omega
          have hji : ((j : Int) < (j : Int)) = False := eq_false (by omega)
          have hf : R = 0 := by
            have h := hng.out
            rw [List.take_of_length_le (by rw [← N2.out]; omega)] at h
            rw [hR2.out, h]
            rfl
          subst hf
          clear hlt hng
          go_wp2_with fail
          go_ret
          exact ⟨rfl, HB0.out⟩
end Go.Proofs.YtgddookioipjiaaGreatDoor
namespace Go.Proofs.YtgddookioipjiaaGreatDoor
open Go.RowKit Go.KP Go.KI Go.Shelf
attribute [local go_sem] Oper.semAt_some

theorem checkE_neg {q : Rat} (rq : roomy q) (hq : q.num < 0) : checkE [T q] [T q] = 2 := by
  unfold checkE
  rw [firstE_zero (fun x hx => by simp at hx; subst hx; exact roomy_chk90 rq), if_neg (by simp), if_pos]
  rw [List.any_cons, negS_T, decide_eq_true hq]
  rfl
set_option maxRecDepth 100000 in
theorem rExact_neg {q : Rat} (rq : roomy q) (hq : q.num < 0) (B : Nat) (w : World) (hB : B ≤ w.heap.size) (hT : PQ B w) :
    Calls Tryz.prog 16 #[.string (T q)] w (Ret w (.tuple #[.string ⟨#[]⟩, .bool false, .int .i64 2])) := by
  have HT := hide hT
  have X0 := hide (heap2 w (.cells #[.string (T q)] 22) (.cells #[.string (T q)] 22))
  have HC := hide (rCheck_any w.heap.size (w.heap.size + 1) [T q] [T q] (by simp) (by simp) (fun x hx => by simp at hx; subst hx; exact (T_good rq.1).1) B _ (strs1 X0.out.1) (strs1 X0.out.2.1) (Nat.le_trans hB X0.out.2.2.2.size) (hT.on X0.out.2.2.2 hB))
  rw [checkE_neg rq hq] at HC
  generalize T q = X at *
  clear rq hq hT
  go_enter Tryz.func16, Tryz.ntmps16
  go_wp2_with fail
  refine HC.out.mono ?_
  rintro e w1 ⟨rfl, hb1⟩
  have HB1 := hide (X0.out.2.2.2.trans (hb1.mono X0.out.2.2.2.size))
  clear hb1
  go_wp2_with fail
  refine bodyPost_ret (results_tmp3 rfl _ _ _) rfl ?_
  exact ⟨rfl, HB1.out⟩
theorem roomy_zero : roomy (0 : Rat) := roomy_of (p := 1) ⟨by decide, by decide⟩ (by omega)
set_option maxRecDepth 100000 in
theorem rNormal_zero (B : Nat) (w : World) (hB : B ≤ w.heap.size) (hT : PQ B w) :
    Calls Tryz.prog 14 #[.string (T 0)] w (Ret w (.tuple #[.string ⟨#[48]⟩, .string ⟨#[49]⟩, .int .i64 0])) := by
  have HT := hide hT
  have X0 := hide (heap2 w (.cells #[.string (T 0)] 22) (.cells #[.string (T 0)] 22))
  have HC := hide (rCheck_ok w.heap.size (w.heap.size + 1) [0] [0] (by simp) (by simp) (fun x hx => by simp at hx; subst hx; exact roomy_zero) (fun x hx => by simp at hx; subst hx; decide) B _ (nums1 X0.out.1) (nums1 X0.out.2.1) (Nat.le_trans hB X0.out.2.2.2.size) (hT.on X0.out.2.2.2 hB))
  have HO := hide (fun w hB hT => rOf_T roomy_zero.1 B w hB hT)
  have eN : numB 0 = ⟨#[48]⟩ := bytes_eq (by show (iB 0).data.toList = _; rw [iB_list, itoa_zero])
  rw [eN] at HO
  generalize denB 0 = D at HO
  generalize T 0 = X at *
  clear hT eN
  go_enter Tryz.func14, Tryz.ntmps14
  go_wp2_with fail
  refine HC.out.mono ?_
  rintro e w1 ⟨rfl, hb1⟩
  have HB1 := hide (X0.out.2.2.2.trans (hb1.mono X0.out.2.2.2.size))
  clear hb1
  go_wp2_with fail
  refine (HO.out _ (Nat.le_trans hB HB1.out.size) (HT.out.on HB1.out hB)).mono ?_
  rintro e w2 ⟨rfl, hb2⟩
  have X2 := hide (heap1 w2 (rpairO ⟨#[48]⟩ D))
  have HB2 := hide (HB1.out.trans ((hb2.trans (X2.out.2.2.mono hb2.size)).mono HB1.out.size))
  have k0 := cell_blk X2.out.1 0
  have k1 := cell_blk X2.out.1 1
  have kl := lt_blk X2.out.1
  clear hb2
  go_wp2_with fail
  go_ret3
  exact ⟨rfl, HB2.out⟩
/-- The normal form of any number that is not negative. -/
def nC (q : Rat) : Rat := if q.num = 0 then 0 else normC q
def nL (q : Rat) : Nat := if q.num = 0 then 1 else normL q
theorem rNormal_T {q : Rat} (rq : roomy q) (hq : 0 ≤ q.num) (B : Nat) (w : World) (hB : B ≤ w.heap.size) (hT : PR B w) :
    Calls Tryz.prog 14 #[.string (T q)] w (Ret w (.tuple #[.string (T (nC q)), .string (T ((nL q : Nat) : Rat)), .int .i64 0])) := by
  unfold nC nL
  by_cases h : q.num = 0
  · rw [if_pos h, if_pos h, Rat.num_eq_zero.1 h]
    have := rNormal_zero B w hB hT.pq
    rw [← T0, ← T1] at this
    exact this
  · rw [if_neg h, if_neg h]
    have := rNormal_pos rq (by omega) B w hB hT
    rw [iB_T] at this
    exact this
/-- What the normal form is. -/
theorem nForm {q : Rat} (hq : 0 ≤ q.num) : nC q * nC q * ((nL q : Nat) : Rat) = q ∧ sgnR (nC q) = sgnR q ∧ 0 < nL q ∧ (∀ p ∈ primes25, ¬ nL q % (p * p) = 0) ∧ (nL q = 1 ↔ ∃ r, sqR q = some r) := by
  unfold nC nL
  by_cases h : q.num = 0
  · have h0 := Rat.num_eq_zero.1 h
    subst h0
    rw [if_pos h, if_pos h]
    refine ⟨by decide +kernel, rfl, by omega, by decide, fun _ => ⟨0, ?_⟩, fun _ => rfl⟩
    exact (sqR_some Rat.le_refl).2 ⟨Rat.le_refl, by decide +kernel⟩
  · rw [if_neg h, if_neg h]
    have hp : 0 < q.num := by omega
    obtain ⟨n1, n2, n3, n4⟩ := norm_law hp
    refine ⟨n1, ?_, n3, n4, ?_⟩
    · rw [show sgnR (normC q) = 1 from cmpT_gt n2, sgnR_pos hp]
    · rw [← sq_num_den hp]
      exact (normN_spec (m := q.num.toNat * q.den) (Nat.mul_pos (by omega) q.den_pos)).2.2.2.2
/-- Sizes of the normal form. -/
theorem nForm_sz {q : Rat} {p : Nat} (hq : 0 ≤ q.num) (hp : 1 ≤ p) (sq : sz p q) : sz p (nC q) ∧ nL q < 10 ^ (p + p) := by
  unfold nC nL
  have h10 : 1 < 10 ^ (p + p) := Nat.lt_of_lt_of_le (show 1 < 10 ^ 1 by decide) (Nat.pow_le_pow_right (by omega) (by omega))
  have h11 : 1 < 10 ^ p := Nat.lt_of_lt_of_le (show 1 < 10 ^ 1 by decide) (Nat.pow_le_pow_right (by omega) hp)
  by_cases h : q.num = 0
  · rw [if_pos h, if_pos h]
    exact ⟨⟨by show 0 < 10 ^ p; omega, h11⟩, h10⟩
  · rw [if_neg h, if_neg h]
    have hm : 0 < q.num.toNat * q.den := Nat.mul_pos (by omega) q.den_pos
    obtain ⟨n1, n2, n3, _, _⟩ := normN_spec hm
    have hb : q.num.toNat * q.den < 10 ^ p * 10 ^ p := by
      have h1 : q.num.toNat < 10 ^ p := by have := sq.1; omega
      exact Nat.mul_lt_mul'' h1 sq.2
    have hc : (normN (q.num.toNat * q.den)).1 < 10 ^ p := by
      refine Nat.lt_of_not_le fun hge => ?_
      have h1 := Nat.mul_le_mul hge hge
      have h2 : (normN (q.num.toNat * q.den)).1 * (normN (q.num.toNat * q.den)).1 * 1 ≤ q.num.toNat * q.den := by
        conv => rhs; rw [← n1]
        exact Nat.mul_le_mul_left _ n2
      omega
    have hl : normL q < 10 ^ (p + p) := by
      rw [Nat.pow_add]
      refine Nat.lt_of_le_of_lt ?_ hb
      unfold normL
      conv => rhs; rw [← n1]
      exact Nat.le_mul_of_pos_left _ (Nat.mul_pos n3 n3)
    refine ⟨?_, hl⟩
    unfold normC
    exact divInt_sz (by have := q.den_pos; omega) (by rw [Int.natAbs_natCast]; exact hc) (by rw [Int.natAbs_natCast]; exact sq.2)
end Go.Proofs.YtgddookioipjiaaGreatDoor
namespace Go.Proofs.YtgddookioipjiaaGreatDoor
open Go.RowKit Go.KP Go.KI Go.Shelf
attribute [local go_sem] Oper.semAt_some

theorem T_one_test (n : Nat) : ((T ((n : Nat) : Rat)).toList == [49]) = decide (n = 1) := by
  rw [show T ((n : Nat) : Rat) = iB (n : Int) from (iB_T _).symm, iB_one_test]
  exact decide_eq_decide.2 (by omega)
set_option maxRecDepth 100000 in
set_option maxHeartbeats 16000000 in
theorem lawExact_any (q : ByteArray) (n0 : Nat) (w : World) (hB : n0 ≤ w.heap.size) (hT : PR n0 w) :
    Calls Tryz.prog 4 #[.string q] w (Ret w (.bool true)) := by
  have HT := hide hT
  have HAW := hide (fun w hB hT => l3awake_any n0 w hB hT)
  have X0 := hide (heap1 w (.cells #[.string q] 22))
  have HF := hide (lsizes_any w.heap.size [q] (by simp) n0 _ (strs1 X0.out.1) (Nat.le_trans hB X0.out.2.2.size) (hT.on X0.out.2.2 hB).pq)
  clear hT
  by_cases h : ∀ s ∈ [q], okS s
  rotate_left
  · rw [decide_eq_false h] at HF
    clear h
    go_enter Tryz.func4, Tryz.ntmps4
    go_wp2_with fail
    refine HF.out.mono ?_
    rintro e w1 ⟨rfl, hb1⟩
    have HB1 := hide (X0.out.2.2.trans (hb1.mono X0.out.2.2.size))
    clear hb1 X0
    go_wp2_with fail
    refine (HAW.out _ (Nat.le_trans hB HB1.out.size) (HT.out.on HB1.out hB)).mono ?_
    rintro e w99 ⟨rfl, hb99⟩
    have HB99 := hide (HB1.out.trans (hb99.mono HB1.out.size))
    clear hb99
    go_wp2_with fail
    go_ret
    exact ⟨rfl, HB99.out⟩
  rw [decide_eq_true h] at HF
  obtain ⟨Q, sQ, rfl⟩ := okS_T (h q (by simp))
  clear h
  have fQ := sz_fits sQ (by rw [most_eq]; omega)
  have rQ := roomy_of sQ (by omega)
  obtain ⟨A, a0, aa, sA⟩ : ∃ A : Rat, 0 ≤ A ∧ A * A = Q * Q ∧ sz 20 A := by
    by_cases h : 0 ≤ Q
    · exact ⟨Q, h, rfl, sQ⟩
    · exact ⟨-Q, by have := Rat.not_le.1 h; grind, by grind, sz_neg sQ⟩
  have sQQ := (okT2 sQ sQ (by omega)).2.2
  have qq0 : 0 ≤ Q * Q := by rw [← aa]; exact Rat.mul_nonneg a0 a0
  have C1 := hide (fun w r hr hB hT => ltimes2 sQ sQ (by omega) n0 w r hr hB hT)
  have C2 := hide (fun w hB hT => rExact_T (roomy_of sQQ (by omega)) (Rat.num_nonneg.2 qq0) n0 w hB hT)
  rw [show sqR (Q * Q) = some A by rw [← aa]; exact sqR_sq a0] at C2
  dsimp only [rootT, rootB] at C2
  have C3 := hide (fun w hB hT => lsign_T (sz_fits sA (by rw [most_eq]; omega)) n0 w hB hT)
  have C4 := hide (fun w r hr hB hT => ltimes2 sA sA (by omega) n0 w r hr hB hT)
  rw [aa] at C4
  have C5 := hide (fun w hB hT => lsign_T fQ n0 w hB hT)
  have a1 : (sgnR A < 0) = False := eq_false (by have := sgn_ge a0; omega)
  generalize sgnR A = z3 at *
  by_cases hq : Q.num < 0
  · skip
    have C6 := hide (fun w hB hT => rExact_neg rQ hq n0 w hB hT)
    have g5 : sgnR Q < 0 := sgn_neg (Rat.not_le.1 fun h => by have := Rat.num_nonneg.2 h; omega)
    generalize sgnR Q = z5 at *
    generalize T (Q * Q) = QQ at *
    generalize T A = TA at *
    clear hq a0 aa sA sQQ qq0 sQ rQ fQ
    generalize T Q = TQ at *
    obtain ⟨e1, e2⟩ := beqs QQ
    obtain ⟨e3, e4⟩ := beqs TQ
    go_enter Tryz.func4, Tryz.ntmps4
    go_wp2_with fail
    refine HF.out.mono ?_
    rintro e w1 ⟨rfl, hb1⟩
    have HB1 := hide (X0.out.2.2.trans (hb1.mono X0.out.2.2.size))
    clear hb1 X0
    go_wp2_with fail
    have X := hide (heap1 w1 (.cells #[.string TQ, .string TQ] 22))
    have HX := hide (HB1.out.trans (X.out.2.2.mono HB1.out.size))
    refine (C1.out _ w1.heap.size X.out.1 (Nat.le_trans hB HX.out.size) (HT.out.on HX.out hB).pq).mono ?_
    rintro e w2 ⟨rfl, hb2⟩
    have HB2 := hide (HX.out.trans (hb2.mono HX.out.size))
    clear hb2 X HX
    go_wp2_with fail
    refine (C2.out _ (Nat.le_trans hB HB2.out.size) (HT.out.on HB2.out hB).pq).mono ?_
    rintro e w3 ⟨rfl, hb3⟩
    have HB3 := hide (HB2.out.trans (hb3.mono HB2.out.size))
    clear hb3
    go_wp2_with fail
    refine (C3.out _ (Nat.le_trans hB HB3.out.size) (HT.out.on HB3.out hB).pq).mono ?_
    rintro e w4 ⟨rfl, hb4⟩
    have HB4 := hide (HB3.out.trans (hb4.mono HB3.out.size))
    clear hb4
    go_wp2_with fail
    have X := hide (heap1 w4 (.cells #[.string TA, .string TA] 22))
    have HX := hide (HB4.out.trans (X.out.2.2.mono HB4.out.size))
    refine (C4.out _ w4.heap.size X.out.1 (Nat.le_trans hB HX.out.size) (HT.out.on HX.out hB).pq).mono ?_
    rintro e w5 ⟨rfl, hb5⟩
    have HB5 := hide (HX.out.trans (hb5.mono HX.out.size))
    clear hb5 X HX
    go_wp2_with fail
    have X := hide (heap1 w5 (.cells #[.string TQ, .string TQ] 22))
    have HX := hide (HB5.out.trans (X.out.2.2.mono HB5.out.size))
    refine (C1.out _ w5.heap.size X.out.1 (Nat.le_trans hB HX.out.size) (HT.out.on HX.out hB).pq).mono ?_
    rintro e w6 ⟨rfl, hb6⟩
    have HB6 := hide (HX.out.trans (hb6.mono HX.out.size))
    clear hb6 X HX
    go_wp2_with fail
    refine (C5.out _ (Nat.le_trans hB HB6.out.size) (HT.out.on HB6.out hB).pq).mono ?_
    rintro e w7 ⟨rfl, hb7⟩
    have HB7 := hide (HB6.out.trans (hb7.mono HB6.out.size))
    clear hb7
    go_wp2_with fail
    refine (C6.out _ (Nat.le_trans hB HB7.out.size) (HT.out.on HB7.out hB).pq).mono ?_
    rintro e w8 ⟨rfl, hb8⟩
    have HB8 := hide (HB7.out.trans (hb8.mono HB7.out.size))
    clear hb8
    go_wp2_with fail
    refine (HAW.out _ (Nat.le_trans hB HB8.out.size) (HT.out.on HB8.out hB)).mono ?_
    rintro e w99 ⟨rfl, hb99⟩
    have HB99 := hide (HB8.out.trans (hb99.mono HB8.out.size))
    clear hb99
    go_wp2_with fail
    go_ret
    exact ⟨rfl, HB99.out⟩
  have nQ : 0 ≤ Q.num := by omega
  have g5 : (sgnR Q < 0) = False := eq_false (by have := sgn_ge (Rat.num_nonneg.1 nQ); omega)
  generalize sgnR Q = z5 at *
  have C6 := hide (fun w hB hT => rExact_T rQ nQ n0 w hB hT)
  have C7 := hide (fun w hB hT => rNormal_T rQ nQ n0 w hB hT)
  have h1 := (nForm nQ).2.2.2.2
  have hz := T_one_test (nL Q)
  generalize T (nC Q) = NC at *
  generalize T ((nL Q : Nat) : Rat) = NL at *
  rcases Option.eq_none_or_eq_some (sqR Q) with hs | ⟨r, hs⟩
  · skip
    rw [decide_eq_false (fun e => by obtain ⟨r, hr⟩ := h1.1 e; rw [hs] at hr; cases hr)] at hz
    rw [hs] at C6
    dsimp only [rootT, rootB] at C6
    generalize T (Q * Q) = QQ at *
    generalize T A = TA at *
    clear hs hq h1 nQ a0 aa sA sQQ qq0 sQ rQ fQ
    generalize T Q = TQ at *
    obtain ⟨e1, e2⟩ := beqs QQ
    obtain ⟨e3, e4⟩ := beqs TQ
    go_enter Tryz.func4, Tryz.ntmps4
    go_wp2_with fail
    refine HF.out.mono ?_
    rintro e w1 ⟨rfl, hb1⟩
    have HB1 := hide (X0.out.2.2.trans (hb1.mono X0.out.2.2.size))
    clear hb1 X0
    go_wp2_with fail
    have X := hide (heap1 w1 (.cells #[.string TQ, .string TQ] 22))
    have HX := hide (HB1.out.trans (X.out.2.2.mono HB1.out.size))
    refine (C1.out _ w1.heap.size X.out.1 (Nat.le_trans hB HX.out.size) (HT.out.on HX.out hB).pq).mono ?_
    rintro e w2 ⟨rfl, hb2⟩
    have HB2 := hide (HX.out.trans (hb2.mono HX.out.size))
    clear hb2 X HX
    go_wp2_with fail
    refine (C2.out _ (Nat.le_trans hB HB2.out.size) (HT.out.on HB2.out hB).pq).mono ?_
    rintro e w3 ⟨rfl, hb3⟩
    have HB3 := hide (HB2.out.trans (hb3.mono HB2.out.size))
    clear hb3
    go_wp2_with fail
    refine (C3.out _ (Nat.le_trans hB HB3.out.size) (HT.out.on HB3.out hB).pq).mono ?_
    rintro e w4 ⟨rfl, hb4⟩
    have HB4 := hide (HB3.out.trans (hb4.mono HB3.out.size))
    clear hb4
    go_wp2_with fail
    have X := hide (heap1 w4 (.cells #[.string TA, .string TA] 22))
    have HX := hide (HB4.out.trans (X.out.2.2.mono HB4.out.size))
    refine (C4.out _ w4.heap.size X.out.1 (Nat.le_trans hB HX.out.size) (HT.out.on HX.out hB).pq).mono ?_
    rintro e w5 ⟨rfl, hb5⟩
    have HB5 := hide (HX.out.trans (hb5.mono HX.out.size))
    clear hb5 X HX
    go_wp2_with fail
    have X := hide (heap1 w5 (.cells #[.string TQ, .string TQ] 22))
    have HX := hide (HB5.out.trans (X.out.2.2.mono HB5.out.size))
    refine (C1.out _ w5.heap.size X.out.1 (Nat.le_trans hB HX.out.size) (HT.out.on HX.out hB).pq).mono ?_
    rintro e w6 ⟨rfl, hb6⟩
    have HB6 := hide (HX.out.trans (hb6.mono HX.out.size))
    clear hb6 X HX
    go_wp2_with fail
    refine (C5.out _ (Nat.le_trans hB HB6.out.size) (HT.out.on HB6.out hB).pq).mono ?_
    rintro e w7 ⟨rfl, hb7⟩
    have HB7 := hide (HB6.out.trans (hb7.mono HB6.out.size))
    clear hb7
    go_wp2_with fail
    refine (C6.out _ (Nat.le_trans hB HB7.out.size) (HT.out.on HB7.out hB).pq).mono ?_
    rintro e w8 ⟨rfl, hb8⟩
    have HB8 := hide (HB7.out.trans (hb8.mono HB7.out.size))
    clear hb8
    go_wp2_with fail
    refine (C7.out _ (Nat.le_trans hB HB8.out.size) (HT.out.on HB8.out hB)).mono ?_
    rintro e w9 ⟨rfl, hb9⟩
    have HB9 := hide (HB8.out.trans (hb9.mono HB8.out.size))
    clear hb9
    go_wp2_with fail
    refine (HAW.out _ (Nat.le_trans hB HB9.out.size) (HT.out.on HB9.out hB)).mono ?_
    rintro e w99 ⟨rfl, hb99⟩
    have HB99 := hide (HB9.out.trans (hb99.mono HB9.out.size))
    clear hb99
    go_wp2_with fail
    go_ret
    exact ⟨rfl, HB99.out⟩
  · skip
    rw [decide_eq_true (h1.2 ⟨r, hs⟩)] at hz
    rw [hs] at C6
    dsimp only [rootT, rootB] at C6
    obtain ⟨r0, rr⟩ := (sqR_some (Rat.num_nonneg.1 nQ)).1 hs
    have sr : sz 20 r := sq_sz (by rw [rr]; exact sz_mono sQ (by omega))
    have C8 := hide (fun w hB hT => lsign_T (sz_fits sr (by rw [most_eq]; omega)) n0 w hB hT)
    have a8 : 0 ≤ sgnR r := sgn_ge r0
    have C9 := hide (fun w r0 hr hB hT => ltimes2 sr sr (by omega) n0 w r0 hr hB hT)
    rw [rr] at C9
    generalize sgnR r = z8 at *
    generalize T r = RT at *
    generalize T (Q * Q) = QQ at *
    generalize T A = TA at *
    clear hs hq h1 nQ r0 rr sr a0 aa sA sQQ qq0 sQ rQ fQ
    generalize T Q = TQ at *
    obtain ⟨e1, e2⟩ := beqs QQ
    obtain ⟨e3, e4⟩ := beqs TQ
    go_enter Tryz.func4, Tryz.ntmps4
    go_wp2_with fail
    refine HF.out.mono ?_
    rintro e w1 ⟨rfl, hb1⟩
    have HB1 := hide (X0.out.2.2.trans (hb1.mono X0.out.2.2.size))
    clear hb1 X0
    go_wp2_with fail
    have X := hide (heap1 w1 (.cells #[.string TQ, .string TQ] 22))
    have HX := hide (HB1.out.trans (X.out.2.2.mono HB1.out.size))
    refine (C1.out _ w1.heap.size X.out.1 (Nat.le_trans hB HX.out.size) (HT.out.on HX.out hB).pq).mono ?_
    rintro e w2 ⟨rfl, hb2⟩
    have HB2 := hide (HX.out.trans (hb2.mono HX.out.size))
    clear hb2 X HX
    go_wp2_with fail
    refine (C2.out _ (Nat.le_trans hB HB2.out.size) (HT.out.on HB2.out hB).pq).mono ?_
    rintro e w3 ⟨rfl, hb3⟩
    have HB3 := hide (HB2.out.trans (hb3.mono HB2.out.size))
    clear hb3
    go_wp2_with fail
    refine (C3.out _ (Nat.le_trans hB HB3.out.size) (HT.out.on HB3.out hB).pq).mono ?_
    rintro e w4 ⟨rfl, hb4⟩
    have HB4 := hide (HB3.out.trans (hb4.mono HB3.out.size))
    clear hb4
    go_wp2_with fail
    have X := hide (heap1 w4 (.cells #[.string TA, .string TA] 22))
    have HX := hide (HB4.out.trans (X.out.2.2.mono HB4.out.size))
    refine (C4.out _ w4.heap.size X.out.1 (Nat.le_trans hB HX.out.size) (HT.out.on HX.out hB).pq).mono ?_
    rintro e w5 ⟨rfl, hb5⟩
    have HB5 := hide (HX.out.trans (hb5.mono HX.out.size))
    clear hb5 X HX
    go_wp2_with fail
    have X := hide (heap1 w5 (.cells #[.string TQ, .string TQ] 22))
    have HX := hide (HB5.out.trans (X.out.2.2.mono HB5.out.size))
    refine (C1.out _ w5.heap.size X.out.1 (Nat.le_trans hB HX.out.size) (HT.out.on HX.out hB).pq).mono ?_
    rintro e w6 ⟨rfl, hb6⟩
    have HB6 := hide (HX.out.trans (hb6.mono HX.out.size))
    clear hb6 X HX
    go_wp2_with fail
    refine (C5.out _ (Nat.le_trans hB HB6.out.size) (HT.out.on HB6.out hB).pq).mono ?_
    rintro e w7 ⟨rfl, hb7⟩
    have HB7 := hide (HB6.out.trans (hb7.mono HB6.out.size))
    clear hb7
    go_wp2_with fail
    refine (C6.out _ (Nat.le_trans hB HB7.out.size) (HT.out.on HB7.out hB).pq).mono ?_
    rintro e w8 ⟨rfl, hb8⟩
    have HB8 := hide (HB7.out.trans (hb8.mono HB7.out.size))
    clear hb8
    go_wp2_with fail
    refine (C7.out _ (Nat.le_trans hB HB8.out.size) (HT.out.on HB8.out hB)).mono ?_
    rintro e w9 ⟨rfl, hb9⟩
    have HB9 := hide (HB8.out.trans (hb9.mono HB8.out.size))
    clear hb9
    go_wp2_with fail
    refine (C8.out _ (Nat.le_trans hB HB9.out.size) (HT.out.on HB9.out hB).pq).mono ?_
    rintro e w10 ⟨rfl, hb10⟩
    have HB10 := hide (HB9.out.trans (hb10.mono HB9.out.size))
    clear hb10
    go_wp2_with fail
    have X := hide (heap1 w10 (.cells #[.string RT, .string RT] 22))
    have HX := hide (HB10.out.trans (X.out.2.2.mono HB10.out.size))
    refine (C9.out _ w10.heap.size X.out.1 (Nat.le_trans hB HX.out.size) (HT.out.on HX.out hB).pq).mono ?_
    rintro e w11 ⟨rfl, hb11⟩
    have HB11 := hide (HX.out.trans (hb11.mono HX.out.size))
    clear hb11 X HX
    go_wp2_with fail
    refine (HAW.out _ (Nat.le_trans hB HB11.out.size) (HT.out.on HB11.out hB)).mono ?_
    rintro e w99 ⟨rfl, hb99⟩
    have HB99 := hide (HB11.out.trans (hb99.mono HB11.out.size))
    clear hb99
    go_wp2_with fail
    go_ret
    exact ⟨rfl, HB99.out⟩
end Go.Proofs.YtgddookioipjiaaGreatDoor
