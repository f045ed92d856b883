/-
  Texts laid together.
-/
import Derived.Test.YtpmnhipffkhcpaaGreatDoorMB16
import Derived.Test.YtpmnhipffkhcpaaGreatDoorMB12
import Derived.Test.YtpmnhipffkhcpaaGreatDoorMB13
set_option maxRecDepth 100000
set_option maxHeartbeats 64000000
namespace Go.Proofs.YtpmnhipffkhcpaaGreatDoor
open Go.RowKit Go.KP Go.KI Go.Shelf
attribute [local go_sem] Oper.semAt_some

theorem r2Compare_T {x y : Rat} (fx : fitsQ x) (fy : fitsQ y) (B : Nat) (w : World) (hB : B ≤ w.heap.size) (hT : PQ B w) :
    Calls Tryz.prog 266 #[.string (T x), .string (T y)] w (Ret w (cmpOV x y)) := by
  have HT := hide hT
  have H1 := hide (fun w hB hT => r2check_T fx fy B w hB hT)
  unfold cmpOV
  by_cases hs : shortQ x ∧ shortQ y
  · rw [if_pos (cmpC_of (short_sz hs.1) (short_sz hs.2) (by rw [most_eq]; omega)), ← cmpR_int]
    have HI1 := hide (fun w => ints_short fx hs.1 w)
    have HI2 := hide (fun w => ints_short fy hs.2 w)
    obtain ⟨a1, a2⟩ := shortQ_lt hs.1
    obtain ⟨b1, b2⟩ := shortQ_lt hs.2
    have m1 := prod9 (a := x.num) (b := (y.den : Int)) a1 (by omega)
    have m3 := prod9 (a := y.num) (b := (x.den : Int)) b1 (by omega)
    obtain ⟨S, hS⟩ : ∃ s, s = T x := ⟨_, rfl⟩
    obtain ⟨U, hU⟩ : ∃ s, s = T y := ⟨_, rfl⟩
    obtain ⟨n, hn⟩ : ∃ n, n = x.num := ⟨_, rfl⟩
    obtain ⟨d, hd⟩ : ∃ n, n = (x.den : Int) := ⟨_, rfl⟩
    obtain ⟨m, hm⟩ : ∃ n, n = y.num := ⟨_, rfl⟩
    obtain ⟨c, hc⟩ : ∃ n, n = (y.den : Int) := ⟨_, rfl⟩
    simp only [← hn, ← hd, ← hm, ← hc, ← hS, ← hU] at HI1 HI2 m1 m3 H1 ⊢
    have v1 : IntKind.i64.wrap (n * c) = n * c := IntWalk.i64_in _ (by omega)
    have v3 : IntKind.i64.wrap (m * d) = m * d := IntWalk.i64_in _ (by omega)
    have hk : (n * c < m * d ∧ Lib.compareInt (n * c) (m * d) = -1) ∨ ((n * c < m * d) = False ∧ m * d < n * c ∧ Lib.compareInt (n * c) (m * d) = 1) ∨ ((n * c < m * d) = False ∧ (m * d < n * c) = False ∧ Lib.compareInt (n * c) (m * d) = 0) := by
      unfold Lib.compareInt
      rcases Int.lt_trichotomy (n * c) (m * d) with h | h | h
      · exact .inl ⟨h, by rw [if_pos h]⟩
      · exact .inr (.inr ⟨eq_false (by omega), eq_false (by omega), by rw [if_neg (by omega), if_neg (by omega)]⟩)
      · exact .inr (.inl ⟨eq_false (by omega), h, by rw [if_neg (by omega), if_pos h]⟩)
    clear m1 m3 hs a1 a2 b1 b2 hn hd hm hc fx fy hS hU hT
    rcases hk with ⟨k1, e⟩ | ⟨k1, k2, e⟩ | ⟨k1, k2, e⟩ <;> rw [e] <;> clear e
    all_goals
      go_enter Tryz.func266, Tryz.ntmps266
      go_wp2_with fail
      refine (H1.out _ hB HT.out).mono ?_
      rintro e w1 ⟨rfl, hb1⟩
      have HB1 := hide hb1
      clear hb1
      go_wp2_with fail
      refine (HI1.out _).mono ?_
      rintro e w2 ⟨rfl, hb2⟩
      have HB2 := hide (HB1.out.trans (hb2.mono HB1.out.size))
      clear hb2
      go_wp2_with fail
      refine (HI2.out _).mono ?_
      rintro e w3 ⟨rfl, hb3⟩
      have HB3 := hide (HB2.out.trans (hb3.mono HB2.out.size))
      clear hb3
      go_wp2_with fail
      refine bodyPost_ret (results_tmp2 rfl _ _ _) rfl ?_
      exact ⟨rfl, HB3.out⟩
  · obtain ⟨i1, i2, b1, b2, i3, i4, HI1, HI2, hb⟩ := ints_long fx fy hs
    have HP1 := hide (fun w => r2parts_T fx w)
    have HP2 := hide (fun w => r2parts_T fy w)
    have HPY := hide (fun (h : cmpC x y) w hB hT => r2products_yes fx.1 fy.2 fy.1 fx.2 h.1 h.2 B w hB hT)
    have HPN := hide (fun (h : ¬ cmpC x y) w hB hT => r2products_no fx.1 fy.2 fy.1 fx.2 h B w hB hT)
    have HC := hide (fun (h : cmpC x y) w => rCompare_I h.1 h.2 w)
    rw [cmpR_int] at HC
    obtain ⟨S, hS⟩ : ∃ s, s = T x := ⟨_, rfl⟩
    obtain ⟨U, hU⟩ : ∃ s, s = T y := ⟨_, rfl⟩
    obtain ⟨NB, hNB⟩ : ∃ s, s = iB x.num := ⟨_, rfl⟩
    obtain ⟨DB, hDB⟩ : ∃ s, s = iB (x.den : Int) := ⟨_, rfl⟩
    obtain ⟨MB, hMB⟩ : ∃ s, s = iB y.num := ⟨_, rfl⟩
    obtain ⟨CB, hCB⟩ : ∃ s, s = iB (y.den : Int) := ⟨_, rfl⟩
    obtain ⟨PB, hPB⟩ : ∃ s, s = iB (x.num * (y.den : Int)) := ⟨_, rfl⟩
    obtain ⟨QB, hQB⟩ : ∃ s, s = iB (y.num * (x.den : Int)) := ⟨_, rfl⟩
    simp only [← hNB, ← hDB, ← hMB, ← hCB, ← hS, ← hU, ← hPB, ← hQB] at HI1 HI2 HP1 HP2 HPY HPN HC H1 ⊢
    clear hNB hDB hMB hCB hS hU hPB hQB hs fx fy hT
    by_cases h : cmpC x y
    · rw [if_pos h]
      have HA := hide (HPY.out h)
      have HD := hide (HC.out h)
      obtain ⟨r, hr⟩ : ∃ r, r = cmpR x y := ⟨_, rfl⟩
      rw [← hr] at HD ⊢
      clear h HPY HPN HC hr
      rcases hb with rfl | ⟨rfl, rfl⟩
      all_goals
        go_enter Tryz.func266, Tryz.ntmps266
        go_wp2_with fail
        refine (H1.out _ hB HT.out).mono ?_
        rintro e w1 ⟨rfl, hb1⟩
        have HB1 := hide hb1
        clear hb1
        go_wp2_with fail
        refine (HI1.out _).mono ?_
        rintro e w2 ⟨rfl, hb2⟩
        have HB2 := hide (HB1.out.trans (hb2.mono HB1.out.size))
        clear hb2
        go_wp2_with fail
        refine (HI2.out _).mono ?_
        rintro e w3 ⟨rfl, hb3⟩
        have HB3 := hide (HB2.out.trans (hb3.mono HB2.out.size))
        clear hb3
        go_wp2_with fail
        refine (HP1.out _).mono ?_
        rintro e w4 ⟨rfl, hb4⟩
        have HB4 := hide (HB3.out.trans (hb4.mono HB3.out.size))
        clear hb4
        go_wp2_with fail
        refine (HP2.out _).mono ?_
        rintro e w5 ⟨rfl, hb5⟩
        have HB5 := hide (HB4.out.trans (hb5.mono HB4.out.size))
        clear hb5
        go_wp2_with fail
        refine (HA.out _ (Nat.le_trans hB HB5.out.size) (HT.out.p10.on HB5.out hB)).mono ?_
        rintro e w6 ⟨rfl, hb6⟩
        have HB6 := hide (HB5.out.trans (hb6.mono HB5.out.size))
        clear hb6
        go_wp2_with fail
        refine (HD.out _).mono ?_
        rintro e w7 ⟨rfl, hb7⟩
        have HB7 := hide (HB6.out.trans (hb7.mono HB6.out.size))
        clear hb7
        go_wp2_with fail
        refine bodyPost_ret (results_tmp2 rfl _ _ _) rfl ?_
        exact ⟨rfl, HB7.out⟩
    · rw [if_neg h]
      have HN := hide (HPN.out h)
      clear h HPY HPN HC
      rcases hb with rfl | ⟨rfl, rfl⟩
      all_goals
        go_enter Tryz.func266, Tryz.ntmps266
        go_wp2_with fail
        refine (H1.out _ hB HT.out).mono ?_
        rintro e w1 ⟨rfl, hb1⟩
        have HB1 := hide hb1
        clear hb1
        go_wp2_with fail
        refine (HI1.out _).mono ?_
        rintro e w2 ⟨rfl, hb2⟩
        have HB2 := hide (HB1.out.trans (hb2.mono HB1.out.size))
        clear hb2
        go_wp2_with fail
        refine (HI2.out _).mono ?_
        rintro e w3 ⟨rfl, hb3⟩
        have HB3 := hide (HB2.out.trans (hb3.mono HB2.out.size))
        clear hb3
        go_wp2_with fail
        refine (HP1.out _).mono ?_
        rintro e w4 ⟨rfl, hb4⟩
        have HB4 := hide (HB3.out.trans (hb4.mono HB3.out.size))
        clear hb4
        go_wp2_with fail
        refine (HP2.out _).mono ?_
        rintro e w5 ⟨rfl, hb5⟩
        have HB5 := hide (HB4.out.trans (hb5.mono HB4.out.size))
        clear hb5
        go_wp2_with fail
        obtain ⟨X, Y, hXY⟩ := HN.out _ (Nat.le_trans hB HB5.out.size) (HT.out.p10.on HB5.out hB)
        refine hXY.mono ?_
        rintro e w6 ⟨rfl, hb6⟩
        have HB6 := hide (HB5.out.trans (hb6.mono HB5.out.size))
        clear hb6 hXY
        go_wp2_with fail
        refine bodyPost_ret (results_tmp2 rfl _ _ _) rfl ?_
        exact ⟨rfl, HB6.out⟩
end Go.Proofs.YtpmnhipffkhcpaaGreatDoor
namespace Go.KI
open Go

def numE (l : List UInt8) : Int := if chkQ l ≠ 0 then chkQ l else if 12 < (Lib.decDigits (valQ l).num.natAbs).length ∨ 12 < (valQ l).den then 4 else 0
def firstN : List ByteArray → Int
  | [] => 0
  | s :: r => if numE s.data.toList ≠ 0 then numE s.data.toList else firstN r
theorem firstN_take {l : List ByteArray} : ∀ {k : Nat} {s : ByteArray}, l[k]? = some s → (∀ x ∈ l.take k, numE x.data.toList = 0) → numE s.data.toList ≠ 0 → firstN l = numE s.data.toList := by
  induction l with
  | nil => intro k s h; simp at h
  | cons x r ih =>
    intro k s h hk hs
    cases k with
    | zero =>
      simp at h
      subst h
      exact if_pos hs
    | succ k =>
      simp at h
      have h0 := hk x (by simp)
      show (if numE x.data.toList ≠ 0 then _ else firstN r) = _
      rw [if_neg (by simp [h0])]
      exact ih h (fun y hy => hk y (by simp [hy])) hs
theorem firstN_all {l : List ByteArray} (h : ∀ x ∈ l, numE x.data.toList = 0) : firstN l = 0 := by
  induction l with
  | nil => rfl
  | cons x r ih =>
    show (if numE x.data.toList ≠ 0 then _ else firstN r) = _
    rw [if_neg (by simp [h x (by simp)])]
    exact ih fun y hy => h y (by simp [hy])
theorem firstN_zero {l : List ByteArray} (h : firstN l = 0) : ∀ x ∈ l, numE x.data.toList = 0 := by
  induction l with
  | nil => intro x hx; simp at hx
  | cons y r ih =>
    have h2 : (if numE y.data.toList ≠ 0 then numE y.data.toList else firstN r) = 0 := h
    by_cases h0 : numE y.data.toList = 0
    · rw [if_neg (by simp [h0])] at h2
      intro x hx
      rcases List.mem_cons.1 hx with rfl | hx
      · exact h0
      · exact ih h2 x hx
    · rw [if_pos h0] at h2
      exact absurd h2 h0
theorem numE_none {l : List UInt8} (h : chkQ l ≠ 0) : numE l = chkQ l := if_pos h
end Go.KI
namespace Go.Proofs.YtpmnhipffkhcpaaGreatDoor
open Go.RowKit Go.KP Go.KI Go.Shelf
attribute [local go_sem] Oper.semAt_some

theorem numE_small {s : ByteArray} (h : numE s.data.toList = 0) : ∃ q, smallB q ∧ s = T q := by
  unfold numE at h
  by_cases h1 : chkQ s.data.toList = 0
  · rw [if_neg (by simp [h1])] at h
    obtain ⟨e, f, _, _⟩ := chkQ_ok h1
    refine ⟨valQ s.data.toList, ?_, T_of e⟩
    by_cases h2 : 12 < (Lib.decDigits (valQ s.data.toList).num.natAbs).length ∨ 12 < (valQ s.data.toList).den
    · rw [if_pos h2] at h; cases h
    · exact ⟨(dec_len_le (n := 12) (by omega)).1 (by omega), by omega⟩
  · rw [if_pos h1] at h
    exact absurd h h1
theorem b52digits_I {z : Int} (f : fits z) (w : World) : Calls Tryz.prog 358 #[.string (iB z)] w (fun e w' => e = .returned (.int .i64 ((Lib.decDigits z.natAbs).length : Nat)) ∧ w' = w) := by
  obtain ⟨hp, h45⟩ := iB_head z
  have hs := iB_size_abs z
  have hsz := iB_size f
  have hp0 : (0 : Int) < ((iB z).size : Int) := by omega
  obtain ⟨L, hL⟩ : ∃ L, L = (Lib.decDigits z.natAbs).length := ⟨_, rfl⟩
  rw [← hL] at hs ⊢
  by_cases hz : z < 0
  · rw [if_pos hz] at hs
    rw [decide_eq_true hz] at h45
    generalize iB z = X at *
    have hl : (X.size : Int) - 1 = (L : Int) := by omega
    clear hL hz hs f
    go_enter Tryz.func358, Tryz.ntmps358
    go_wp2_with fail
    go_ret
    exact ⟨by rw [← hl]; rfl, rfl⟩
  · rw [if_neg hz] at hs
    rw [decide_eq_false hz] at h45
    generalize iB z = X at *
    subst hs
    clear hL hz f
    go_enter Tryz.func358, Tryz.ntmps358
    go_wp2_with fail
    go_ret
    exact ⟨rfl, rfl⟩
def longQ (q : Rat) : Bool := decide (12 < (Lib.decDigits q.num.natAbs).length ∨ 12 < q.den)
theorem lit12 : T 12 = ⟨#[49, 50]⟩ := by
  rw [show T 12 = iB ((12 : Nat) : Int) from (iB_T _).symm]
  exact iB_lit 12 [49, 50] (by decide +kernel)
theorem cmp_den {q : Rat} : (0 < cmpR (((q.den : Nat) : Int) : Rat) 12) = (12 < q.den) := by
  have key : ((12 : Rat) < (((q.den : Nat) : Int) : Rat)) ↔ 12 < q.den := by
    rw [show (12 : Rat) = (((12 : Nat) : Int) : Rat) from rfl, Rat.intCast_lt_intCast]
    omega
  rcases cmpT_cases (((q.den : Nat) : Int) : Rat) 12 with ⟨h1, h2⟩ | ⟨h1, h2⟩ | ⟨h1, h2⟩
  · rw [h2]
    refine propext ⟨fun h => by omega, fun h => absurd (key.2 h) (Rat.not_lt.2 (Rat.le_of_lt h1))⟩
  · rw [h2]
    refine propext ⟨fun h => by omega, fun h => ?_⟩
    have := key.2 h
    rw [h1] at this
    exact absurd this Rat.lt_irrefl
  · rw [h2]
    exact propext ⟨fun _ => key.1 h1, fun _ => by omega⟩
theorem b52long_T {q : Rat} (fq : fitsQ q) (B : Nat) (w : World) (hB : B ≤ w.heap.size) (hT : PQ B w) :
    Calls Tryz.prog 265 #[.string (T q)] w (Ret w (.bool (longQ q))) := by
  have HT := hide hT
  have HP := hide (fun w hB hT => r2Parts_T fq B w hB hT)
  have s2 : sz 2 (12 : Rat) := ⟨by decide, by decide⟩
  have hcc : cmpC (((q.den : Nat) : Int) : Rat) 12 := by
    have hf := fq.2
    refine ⟨?_, ?_⟩
    · rw [Rat.num_intCast]
      show fits ((q.den : Int) * ((1 : Nat) : Int))
      rw [show ((1 : Nat) : Int) = 1 from rfl, Int.mul_one]
      exact hf
    · rw [Rat.den_intCast]
      exact fits_small (n := 3) (by rw [most_eq]; omega) (by decide)
  have HC := hide (fun w hB hT => r2Compare_T (x := (((q.den : Nat) : Int) : Rat)) (y := 12) (fitsQ_int fq.2) (sz_fits s2 (by rw [most_eq]; omega)) B w hB hT)
  have HD := hide (fun w => b52digits_I fq.1 w)
  have hc := cmp_den (q := q)
  rw [show cmpOV (((q.den : Nat) : Int) : Rat) 12 = .tuple #[.int .i64 (cmpR (((q.den : Nat) : Int) : Rat) 12), .int .i64 0] from if_pos hcc, lit12, ← iB_T] at HC
  obtain ⟨R, hR⟩ : ∃ R, R = longQ q := ⟨_, rfl⟩
  rw [← hR]
  unfold longQ at hR
  generalize cmpR (((q.den : Nat) : Int) : Rat) 12 = C at HC hc
  generalize (Lib.decDigits q.num.natAbs).length = a at HD hR
  generalize T q = X at HP ⊢
  generalize iB q.num = N at *
  generalize iB (q.den : Int) = D at *
  by_cases h1 : 12 < a
  · have g1 : (12 : Int) < (a : Int) := by omega
    rw [decide_eq_true (.inl h1)] at hR
    subst hR
    clear hc h1 fq s2 hcc hT
    go_enter Tryz.func265, Tryz.ntmps265
    go_wp2_with fail
    refine (HP.out _ hB HT.out).mono ?_
    rintro e w1 ⟨rfl, hb1⟩
    have HB1 := hide hb1
    clear hb1
    go_wp2_with fail
    refine (HC.out _ (Nat.le_trans hB HB1.out.size) (HT.out.on HB1.out hB)).mono ?_
    rintro e w2 ⟨rfl, hb2⟩
    have HB2 := hide (HB1.out.trans (hb2.mono HB1.out.size))
    clear hb2
    go_wp2_with fail
    refine (HD.out _).mono ?_
    rintro e w3 ⟨rfl, rfl⟩
    go_wp2_with fail
    go_ret
    exact ⟨rfl, HB2.out⟩
  · have g1 : ((12 : Int) < (a : Int)) = False := eq_false (by omega)
    have e : (12 < a ∨ 12 < q.den) = (0 < C) := by rw [hc]; exact propext ⟨fun h => h.resolve_left h1, .inr⟩
    have hR2 : R = decide (0 < C) := by rw [hR]; exact decide_eq_decide.2 (Iff.of_eq e)
    clear hc h1 fq s2 hcc hT e hR
    subst hR2
    go_enter Tryz.func265, Tryz.ntmps265
    go_wp2_with fail
    refine (HP.out _ hB HT.out).mono ?_
    rintro e w1 ⟨rfl, hb1⟩
    have HB1 := hide hb1
    clear hb1
    go_wp2_with fail
    refine (HC.out _ (Nat.le_trans hB HB1.out.size) (HT.out.on HB1.out hB)).mono ?_
    rintro e w2 ⟨rfl, hb2⟩
    have HB2 := hide (HB1.out.trans (hb2.mono HB1.out.size))
    clear hb2
    go_wp2_with fail
    refine (HD.out _).mono ?_
    rintro e w3 ⟨rfl, rfl⟩
    go_wp2_with fail
    go_ret
    exact ⟨rfl, HB2.out⟩
theorem b52numbers_any (b1 : Nat) (l1 : List ByteArray) (n1 : l1.length ≤ 1000) (h1 : ∀ s ∈ l1, s.size ≤ 9223372036854775807) (B : Nat) (w : World) (c1 : StrsAt w b1 l1) (hB : B ≤ w.heap.size) (hT : PQ B w) :
    Calls Tryz.prog 131 #[.slice (some ⟨b1, 0, none⟩) l1.length l1.length] w (Ret w (.int .i64 (firstN l1))) := by
  have HT := hide hT
  obtain ⟨n, hn⟩ : ∃ n, n = l1.length := ⟨_, rfl⟩
  rw [← hn] at n1 ⊢
  have C1 := hide c1
  have N1 := hide hn
  have R1 := hide h1
  obtain ⟨R, hR⟩ : ∃ R, R = firstN l1 := ⟨_, rfl⟩
  rw [← hR]
  have HR := hide hR
  clear c1 hn h1 hT hR
  go_enter Tryz.func131, Tryz.ntmps131
  go_wp2_with fail
  go_loopw [3] (fun i wr => ∃ k : Nat, k ≤ n ∧ i = .int .i64 k ∧ Hid ((∀ x ∈ l1.take k, numE x.data.toList = 0) ∧ Below w.heap.size w wr)) (fun i _ => n - (intOf i).toNat)
  case atStart => exact ⟨0, Nat.zero_le _, rfl, by simp, Below.refl _ _⟩
  case round =>
    obtain ⟨k, hk, rfl, hin⟩ := hrel
    obtain ⟨wo, hwo⟩ : ∃ wo, wo = wr := ⟨_, rfl⟩
    subst hwo
    have IN := hide hin.out.1
    have HB0 := hide hin.out.2
    by_cases hlt : k < n
    · have hki : (k : Int) < (n : Int) := by omega
      have hk0 : (0 : Int) ≤ (k : Int) := by omega
      obtain ⟨s, hs⟩ : ∃ s, l1[k]? = some s := ⟨_, List.getElem?_eq_getElem (by rw [← N1.out]; exact hlt)⟩
      have hss := R1.out s (List.mem_of_getElem? hs)
      have hcell := (C1.out.below HB0.out C1.out.1).2 k s hs
      have HSK := hide hs
      have HC := hide (r2Check_big s hss B wo (Nat.le_trans hB HB0.out.size) (HT.out.on HB0.out hB))
      by_cases hq : chkQ s.data.toList = 0
      rotate_left
      · have e : R = chkQ s.data.toList := by
          have h9 := numE_none hq
          have := firstN_take hs IN.out (by rw [h9]; exact hq)
          rw [h9] at this
          rw [HR.out]
          exact this
        have hqb : (chkQ s.data.toList == 0) = false := by simpa using hq
        rw [← e] at HC hqb
        clear hs hss hq e hlt hin
        go_wp2_with fail
        refine HC.out.mono ?_
        rintro e w1 ⟨rfl, hb1⟩
        have HB1 := hide (HB0.out.trans (hb1.mono HB0.out.size))
        clear hb1 hcell
        go_wp2_with fail
        go_ret
        exact ⟨rfl, HB1.out⟩
      rw [hq] at HC
      obtain ⟨eT, fq, _, _⟩ := chkQ_ok hq
      obtain ⟨q, hqq⟩ : ∃ q, q = valQ s.data.toList := ⟨_, rfl⟩
      rw [← hqq] at eT fq
      have eS : s = T q := T_of eT
      have HP := hide (fun w hB hT => b52long_T fq B w hB hT)
      rw [← eS] at HP
      have h9 : numE s.data.toList = if longQ q = true then 4 else 0 := by
        unfold numE longQ
        rw [if_neg (by simp [hq]), ← hqq]
        simp only [decide_eq_true_iff]
      by_cases hb : longQ q = true
      · rw [if_pos hb] at h9
        have e := firstN_take hs IN.out (by rw [h9]; decide)
        rw [h9, ← HR.out] at e
        rw [hb] at HP
        subst e
        clear hs hss hq eT fq hqq eS h9 hb hlt hin HR
        go_wp2_with fail
        refine HC.out.mono ?_
        rintro e w1 ⟨rfl, hb1⟩
        have HB1 := hide (HB0.out.trans (hb1.mono HB0.out.size))
        clear hb1 hcell HC
        have hcell := (C1.out.below HB1.out C1.out.1).2 k s HSK.out
        go_wp2_with fail
        refine (HP.out _ (Nat.le_trans hB HB1.out.size) (HT.out.on HB1.out hB)).mono ?_
        rintro e w2 ⟨rfl, hb2⟩
        have HB2 := hide (HB1.out.trans (hb2.mono HB1.out.size))
        clear hb2 hcell
        go_wp2_with fail
        go_ret
        exact ⟨rfl, HB2.out⟩
      · rw [if_neg hb] at h9
        have hn : Hid (∀ x ∈ l1.take (k + 1), numE x.data.toList = 0) := hide (fun x hx => by
          rw [List.take_add_one, hs] at hx
          rcases List.mem_append.1 hx with h | h
          · exact IN.out x h
          · simp at h; rw [h]; exact h9)
        rw [Bool.eq_false_iff.2 hb] at HP
        clear hs hss hq eT fq hqq eS h9 hb hlt hin
        go_wp2_with fail
        refine HC.out.mono ?_
        rintro e w1 ⟨rfl, hb1⟩
        have HB1 := hide (HB0.out.trans (hb1.mono HB0.out.size))
        clear hb1 hcell HC
        have hcell := (C1.out.below HB1.out C1.out.1).2 k s HSK.out
        go_wp2_with fail
        refine (HP.out _ (Nat.le_trans hB HB1.out.size) (HT.out.on HB1.out hB)).mono ?_
        rintro e w2 ⟨rfl, hb2⟩
        have HB2 := hide (HB1.out.trans (hb2.mono HB1.out.size))
        clear hb2 hcell
        go_wp2_with fail
        go_roundw
        case rel => exact ⟨k + 1, by omega, by simp, ⟨hn.out, HB2.out⟩⟩
        case measure => simp [intOf]; omega
    · obtain rfl : k = n := by omega
      have hki : ((k : Int) < (k : Int)) = False := eq_false (by omega)
      have hf : R = 0 := by
        rw [HR.out]
        refine firstN_all ?_
        have h := IN.out
        rw [List.take_of_length_le (by rw [← N1.out]; omega)] at h
        exact h
      subst hf
      clear hlt hin HR
      go_wp2_with fail
      go_ret
      exact ⟨rfl, HB0.out⟩
theorem cmp_negQ (x y : Rat) : (cmpR x y < 0) = (x < y) := by
  rcases cmpT_cases x y with ⟨h1, h2⟩ | ⟨h1, h2⟩ | ⟨h1, h2⟩ <;> rw [h2]
  · exact propext ⟨fun _ => h1, fun _ => by omega⟩
  · rw [h1]
    exact propext ⟨fun h => by omega, fun h => absurd h Rat.lt_irrefl⟩
  · exact propext ⟨fun h => by omega, fun h => absurd h (Rat.not_lt.2 (Rat.le_of_lt h1))⟩
theorem b52less_T {x y : Rat} {p q : Nat} (sx : sz p x) (sy : sz q y) (h : p + q ≤ 300) (B : Nat) (w : World) (hB : B ≤ w.heap.size) (hT : PQ B w) :
    Calls Tryz.prog 132 #[.string (T x), .string (T y)] w (Ret w (.bool (decide (x < y)))) := by
  have HT := hide hT
  have HC := hide (fun w hB hT => r2Compare_T (sz_fits sx (by rw [most_eq]; omega)) (sz_fits sy (by rw [most_eq]; omega)) B w hB hT)
  rw [show cmpOV x y = .tuple #[.int .i64 (cmpR x y), .int .i64 0] from if_pos (cmpC_of sx sy (by rw [most_eq]; omega))] at HC
  rw [show decide (x < y) = decide (cmpR x y < 0) from decide_eq_decide.2 (Iff.of_eq (cmp_negQ x y).symm)]
  generalize cmpR x y = C at *
  generalize T x = X at *
  generalize T y = Y at *
  clear sx sy h hT
  go_enter Tryz.func132, Tryz.ntmps132
  go_wp2_with fail
  refine (HC.out _ hB HT.out).mono ?_
  rintro e w1 ⟨rfl, hb1⟩
  have HB1 := hide hb1
  clear hb1
  go_wp2_with fail
  go_ret
  exact ⟨rfl, HB1.out⟩
open Go.RowKit Go.KP Go.KI Go.Shelf
attribute [local go_sem] Oper.semAt_some

theorem b52beside_T {L a : Rat} (sL : smallB L) (sA : smallB a) (l r : ByteArray) (fa : Option Addr) (fn fc : Nat) (sa : Option Addr) (sn sc : Nat) (B : Nat) (w : World) (hB : B ≤ w.heap.size) (hT : PQ B w) :
    Calls Tryz.prog 133 #[beamV (T L) l r fa fn fc sa sn sc, .string (T a)] w (Ret w (.bool (decide (a < 0 ∨ L < a)))) := by
  have HT := hide hT
  have X0 := hide (heap1 w (beamO (T L) l r fa fn fc sa sn sc))
  have H1 := hide (fun w hB hT => b52less_T (smallB_sz sA) sz_zero1 (by omega) B w hB hT)
  have H2 := hide (fun w hB hT => b52less_T (smallB_sz sL) (smallB_sz sA) (by omega) B w hB hT)
  rw [T0] at H1
  generalize T L = TL at *
  generalize T a = TA at *
  by_cases h1 : a < 0
  · rw [decide_eq_true h1] at H1
    rw [decide_eq_true (.inl h1)]
    clear h1 H2 hT sL sA
    go_enter Tryz.func133, Tryz.ntmps133
    go_wp2_with fail
    refine (H1.out _ (Nat.le_trans hB X0.out.2.2.size) (HT.out.on X0.out.2.2 hB)).mono ?_
    rintro e w1 ⟨rfl, hb1⟩
    have HB1 := hide (X0.out.2.2.trans (hb1.mono X0.out.2.2.size))
    clear hb1
    go_wp2_with fail
    go_ret
    exact ⟨rfl, HB1.out⟩
  · rw [decide_eq_false h1] at H1
    rw [show decide (a < 0 ∨ L < a) = decide (L < a) from decide_eq_decide.2 ⟨fun h => h.resolve_left h1, .inr⟩]
    generalize decide (L < a) = R at *
    clear h1 hT sL sA
    go_enter Tryz.func133, Tryz.ntmps133
    go_wp2_with fail
    refine (H1.out _ (Nat.le_trans hB X0.out.2.2.size) (HT.out.on X0.out.2.2 hB)).mono ?_
    rintro e w1 ⟨rfl, hb1⟩
    have G1 := hide (below_blk hb1 X0.out.1 (lt_blk X0.out.1))
    have HB1 := hide (X0.out.2.2.trans (hb1.mono X0.out.2.2.size))
    have k0 := cell_blk G1.out 0
    have l0 := lt_blk G1.out
    clear hb1 X0
    go_wp2_with fail
    refine (H2.out _ (Nat.le_trans hB HB1.out.size) (HT.out.on HB1.out hB)).mono ?_
    rintro e w2 ⟨rfl, hb2⟩
    have HB2 := hide (HB1.out.trans (hb2.mono HB1.out.size))
    clear hb2
    go_wp2_with fail
    go_ret
    exact ⟨rfl, HB2.out⟩
def IsBm (L l r : ByteArray) (F : List Fr) (S : List Sp) : Prop := ∃ b : Bm, L = T b.len ∧ l = T b.lft ∧ r = T b.rgt ∧ F = TF b.F ∧ S = TS b.S ∧ BmS b
def ChkRes (w : World) (P : Prop) (e : Ending) (w' : World) : Prop := ∃ z : Int, e = .returned (.int .i64 z) ∧ Below w.heap.size w w' ∧ (z = 0 → P)
def FOK (len : Rat) (f : Fr) : Prop := ∃ p z, f = (T p, T z) ∧ smallB p ∧ smallB z ∧ 0 ≤ p ∧ p ≤ len
def SOK (len : Rat) (f : Sp) : Prop := ∃ p q z, f = (T p, T q, T z) ∧ smallB p ∧ smallB q ∧ smallB z ∧ 0 ≤ p ∧ p < q ∧ q ≤ len
theorem isBm_of {len lft rgt : Rat} {F : List Fr} {S : List Sp} (s1 : smallB len) (s2 : smallB lft) (s3 : smallB rgt) (h0 : 0 < len) (h1 : ¬ (lft < 0 ∨ len < lft)) (h2 : ¬ (rgt < 0 ∨ len < rgt)) (h3 : lft < rgt) (hF : ∀ f ∈ F, FOK len f) (hS : ∀ f ∈ S, SOK len f) (nF : F.length ≤ 64) (nS : S.length ≤ 64) :
    IsBm (T len) (T lft) (T rgt) F S := by
  obtain ⟨F2, eF, pF⟩ := TF_of (P := fun p z => smallB p ∧ smallB z ∧ 0 ≤ p ∧ p ≤ len) (l := F) hF
  obtain ⟨S2, eS, pS⟩ := TS_of (P := fun p q z => smallB p ∧ smallB q ∧ smallB z ∧ 0 ≤ p ∧ p < q ∧ q ≤ len) (l := S) hS
  refine ⟨⟨len, lft, rgt, F2, S2⟩, rfl, rfl, rfl, eF, eS, ?_⟩
  exact {
    pos := h0
    l0 := Rat.not_lt.1 fun h => h1 (.inl h)
    ll := Rat.not_lt.1 fun h => h1 (.inr h)
    r0 := Rat.not_lt.1 fun h => h2 (.inl h)
    rl := Rat.not_lt.1 fun h => h2 (.inr h)
    lr := h3
    F := fun f hf => ⟨(pF f hf).2.2.1, (pF f hf).2.2.2⟩
    S := fun f hf => ⟨(pS f hf).2.2.2.1, (pS f hf).2.2.2.2.1, (pS f hf).2.2.2.2.2⟩
    sl := s1
    sf := s2
    sr := s3
    sF := fun f hf => ⟨(pF f hf).1, (pF f hf).2.1⟩
    sS := fun f hf => ⟨(pS f hf).1, (pS f hf).2.1, (pS f hf).2.2.1⟩
    fF := by rw [← TF_len, ← eF]; exact nF
    fS := by rw [← TS_len, ← eS]; exact nS }
theorem b52Check_any (L l r : ByteArray) (F : List Fr) (S : List Sp) (fa : Option Addr) (fc : Nat) (sa : Option Addr) (sc : Nat) (z1 : L.size ≤ 24) (z2 : l.size ≤ 24) (z3 : r.size ≤ 24) (zF : ∀ f ∈ F, f.1.size ≤ 24 ∧ f.2.size ≤ 24) (zS : ∀ f ∈ S, f.1.size ≤ 24 ∧ f.2.1.size ≤ 24 ∧ f.2.2.size ≤ 24)
    (mF : F.length ≤ 1000) (mS : S.length ≤ 1000) (B : Nat) (w : World) (hB : B ≤ w.heap.size) (hT : PQ B w) (hF : FrRow B w fa F) (hS : SpRow B w sa S) :
    Calls Tryz.prog 43 #[beamV L l r fa F.length fc sa S.length sc] w (ChkRes w (IsBm L l r F S)) := by
  have HT := hide hT
  have HRF := hide hF
  have HRS := hide hS
  have HZF := hide zF
  have HZS := hide zS
  obtain ⟨n1, hn1⟩ : ∃ n, n = F.length := ⟨_, rfl⟩
  obtain ⟨n2, hn2⟩ : ∃ n, n = S.length := ⟨_, rfl⟩
  rw [← hn1] at mF ⊢
  rw [← hn2] at mS ⊢
  have HN1 := hide hn1
  have HN2 := hide hn2
  have X0 := hide (heap2 w (beamO L l r fa n1 fc sa n2 sc) (.cells #[.string L, .string l, .string r] 22))
  have X0a := hide (heap1 w (beamO L l r fa n1 fc sa n2 sc))
  have HNUM := hide (b52numbers_any (w.heap.size + 1) [L, l, r] (by simp) (fun s hs => by simp at hs; rcases hs with rfl | rfl | rfl <;> omega) B _ (strs3 X0.out.2.1) (Nat.le_trans hB X0.out.2.2.2.size) (hT.on X0.out.2.2.2 hB))
  clear hT hF hS hn1 hn2 zF zS
  by_cases c1 : 64 < n1
  · have g1 : (64 : Int) < (n1 : Int) := by omega
    clear HNUM c1 X0
    go_enter Tryz.func43, Tryz.ntmps43
    go_wp2_with fail
    go_ret
    exact ⟨_, rfl, X0a.out.2.2, fun h => absurd h (by decide)⟩
  have g1 : ((64 : Int) < (n1 : Int)) = False := eq_false (by omega)
  by_cases c2 : 64 < n2
  · have g2 : (64 : Int) < (n2 : Int) := by omega
    clear HNUM c1 c2 X0
    go_enter Tryz.func43, Tryz.ntmps43
    go_wp2_with fail
    go_ret
    exact ⟨_, rfl, X0a.out.2.2, fun h => absurd h (by decide)⟩
  have g2 : ((64 : Int) < (n2 : Int)) = False := eq_false (by omega)
  have HC1 := hide c1
  have HC2 := hide c2
  clear c1 c2 X0a
  by_cases hz : firstN [L, l, r] = 0
  rotate_left
  · have gz : (firstN [L, l, r] == 0) = false := by simpa using hz
    have HZ := hide hz
    generalize firstN [L, l, r] = E at *
    clear hz
    go_enter Tryz.func43, Tryz.ntmps43
    go_wp2_with fail
    refine HNUM.out.mono ?_
    rintro e w1 ⟨rfl, hb1⟩
    have HB1 := hide (X0.out.2.2.2.trans (hb1.mono X0.out.2.2.2.size))
    clear hb1 X0
    go_wp2_with fail
    go_ret
    exact ⟨_, rfl, HB1.out, fun h => absurd h HZ.out⟩
  have hall := firstN_zero hz
  rw [hz] at HNUM
  obtain ⟨len, s1, rfl⟩ := numE_small (hall L (by simp))
  obtain ⟨lft, s2, rfl⟩ := numE_small (hall l (by simp))
  obtain ⟨rgt, s3, rfl⟩ := numE_small (hall r (by simp))
  clear hall hz z1 z2 z3
  have H1 := hide (fun w hB hT => b52less_T sz_zero1 (smallB_sz s1) (by omega) B w hB hT)
  rw [T0] at H1
  have H2 := hide (fun w hB hT => b52beside_T s1 s2 (T lft) (T rgt) fa n1 fc sa n2 sc B w hB hT)
  have H3 := hide (fun w hB hT => b52beside_T s1 s3 (T lft) (T rgt) fa n1 fc sa n2 sc B w hB hT)
  have H4 := hide (fun w hB hT => b52less_T (smallB_sz s2) (smallB_sz s3) (by omega) B w hB hT)
  have HBE := hide (fun a (k : smallB a) w hB hT => b52beside_T s1 k (T lft) (T rgt) fa n1 fc sa n2 sc B w hB hT)
  have HIS := hide (fun h0 h1 h2 h3 hF hS => isBm_of (F := F) (S := S) s1 s2 s3 h0 h1 h2 h3 hF hS (by have := HC1.out; have := HN1.out; omega) (by have := HC2.out; have := HN2.out; omega))
  clear s1 s2 s3
  by_cases d1 : 0 < len
  rotate_left
  · rw [decide_eq_false d1] at H1
    clear d1 H2 H3 H4 HBE HIS
    generalize T len = TL at *
    generalize T lft = Tl at *
    generalize T rgt = Tr at *
    go_enter Tryz.func43, Tryz.ntmps43
    go_wp2_with fail
    refine HNUM.out.mono ?_
    rintro e w1 ⟨rfl, hb1⟩
    have G1 := hide (below_blk hb1 X0.out.1 (lt_blk X0.out.1))
    have HB1 := hide (X0.out.2.2.2.trans (hb1.mono X0.out.2.2.2.size))
    clear hb1 X0 HNUM
    have q0 := cell_blk G1.out 0
    have q1 := cell_blk G1.out 1
    have q2 := cell_blk G1.out 2
    have q3 := cell_blk G1.out 3
    have q4 := cell_blk G1.out 4
    have ql := lt_blk G1.out
    go_wp2_with fail
    refine (H1.out _ (Nat.le_trans hB HB1.out.size) (HT.out.on HB1.out hB)).mono ?_
    rintro e w2 ⟨rfl, hb2⟩
    have G2 := hide (below_blk hb2 G1.out (lt_blk G1.out))
    have HB2 := hide (HB1.out.trans (hb2.mono HB1.out.size))
    clear hb2 q0 q1 q2 q3 q4 ql H1
    have q0 := cell_blk G2.out 0
    have q1 := cell_blk G2.out 1
    have q2 := cell_blk G2.out 2
    have q3 := cell_blk G2.out 3
    have q4 := cell_blk G2.out 4
    have ql := lt_blk G2.out
    go_wp2_with fail
    go_ret
    exact ⟨_, rfl, HB2.out, fun h => absurd h (by decide)⟩
  rw [decide_eq_true d1] at H1
  by_cases d2 : lft < 0 ∨ len < lft
  · rw [decide_eq_true d2] at H2
    clear d1 d2 H3 H4 HBE HIS
    generalize T len = TL at *
    generalize T lft = Tl at *
    generalize T rgt = Tr at *
    go_enter Tryz.func43, Tryz.ntmps43
    go_wp2_with fail
    refine HNUM.out.mono ?_
    rintro e w1 ⟨rfl, hb1⟩
    have G1 := hide (below_blk hb1 X0.out.1 (lt_blk X0.out.1))
    have HB1 := hide (X0.out.2.2.2.trans (hb1.mono X0.out.2.2.2.size))
    clear hb1 X0 HNUM
    have q0 := cell_blk G1.out 0
    have q1 := cell_blk G1.out 1
    have q2 := cell_blk G1.out 2
    have q3 := cell_blk G1.out 3
    have q4 := cell_blk G1.out 4
    have ql := lt_blk G1.out
    go_wp2_with fail
    refine (H1.out _ (Nat.le_trans hB HB1.out.size) (HT.out.on HB1.out hB)).mono ?_
    rintro e w2 ⟨rfl, hb2⟩
    have G2 := hide (below_blk hb2 G1.out (lt_blk G1.out))
    have HB2 := hide (HB1.out.trans (hb2.mono HB1.out.size))
    clear hb2 q0 q1 q2 q3 q4 ql H1
    have q0 := cell_blk G2.out 0
    have q1 := cell_blk G2.out 1
    have q2 := cell_blk G2.out 2
    have q3 := cell_blk G2.out 3
    have q4 := cell_blk G2.out 4
    have ql := lt_blk G2.out
    go_wp2_with fail
    refine (H2.out _ (Nat.le_trans hB HB2.out.size) (HT.out.on HB2.out hB)).mono ?_
    rintro e w3 ⟨rfl, hb3⟩
    have G3 := hide (below_blk hb3 G2.out (lt_blk G2.out))
    have HB3 := hide (HB2.out.trans (hb3.mono HB2.out.size))
    clear hb3 q0 q1 q2 q3 q4 ql H2
    have q0 := cell_blk G3.out 0
    have q1 := cell_blk G3.out 1
    have q2 := cell_blk G3.out 2
    have q3 := cell_blk G3.out 3
    have q4 := cell_blk G3.out 4
    have ql := lt_blk G3.out
    go_wp2_with fail
    go_ret
    exact ⟨_, rfl, HB3.out, fun h => absurd h (by decide)⟩
  rw [decide_eq_false d2] at H2
  by_cases d3 : rgt < 0 ∨ len < rgt
  · rw [decide_eq_true d3] at H3
    clear d1 d2 d3 H4 HBE HIS
    generalize T len = TL at *
    generalize T lft = Tl at *
    generalize T rgt = Tr at *
    go_enter Tryz.func43, Tryz.ntmps43
    go_wp2_with fail
    refine HNUM.out.mono ?_
    rintro e w1 ⟨rfl, hb1⟩
    have G1 := hide (below_blk hb1 X0.out.1 (lt_blk X0.out.1))
    have HB1 := hide (X0.out.2.2.2.trans (hb1.mono X0.out.2.2.2.size))
    clear hb1 X0 HNUM
    have q0 := cell_blk G1.out 0
    have q1 := cell_blk G1.out 1
    have q2 := cell_blk G1.out 2
    have q3 := cell_blk G1.out 3
    have q4 := cell_blk G1.out 4
    have ql := lt_blk G1.out
    go_wp2_with fail
    refine (H1.out _ (Nat.le_trans hB HB1.out.size) (HT.out.on HB1.out hB)).mono ?_
    rintro e w2 ⟨rfl, hb2⟩
    have G2 := hide (below_blk hb2 G1.out (lt_blk G1.out))
    have HB2 := hide (HB1.out.trans (hb2.mono HB1.out.size))
    clear hb2 q0 q1 q2 q3 q4 ql H1
    have q0 := cell_blk G2.out 0
    have q1 := cell_blk G2.out 1
    have q2 := cell_blk G2.out 2
    have q3 := cell_blk G2.out 3
    have q4 := cell_blk G2.out 4
    have ql := lt_blk G2.out
    go_wp2_with fail
    refine (H2.out _ (Nat.le_trans hB HB2.out.size) (HT.out.on HB2.out hB)).mono ?_
    rintro e w3 ⟨rfl, hb3⟩
    have G3 := hide (below_blk hb3 G2.out (lt_blk G2.out))
    have HB3 := hide (HB2.out.trans (hb3.mono HB2.out.size))
    clear hb3 q0 q1 q2 q3 q4 ql H2
    have q0 := cell_blk G3.out 0
    have q1 := cell_blk G3.out 1
    have q2 := cell_blk G3.out 2
    have q3 := cell_blk G3.out 3
    have q4 := cell_blk G3.out 4
    have ql := lt_blk G3.out
    go_wp2_with fail
    refine (H3.out _ (Nat.le_trans hB HB3.out.size) (HT.out.on HB3.out hB)).mono ?_
    rintro e w4 ⟨rfl, hb4⟩
    have G4 := hide (below_blk hb4 G3.out (lt_blk G3.out))
    have HB4 := hide (HB3.out.trans (hb4.mono HB3.out.size))
    clear hb4 q0 q1 q2 q3 q4 ql H3
    have q0 := cell_blk G4.out 0
    have q1 := cell_blk G4.out 1
    have q2 := cell_blk G4.out 2
    have q3 := cell_blk G4.out 3
    have q4 := cell_blk G4.out 4
    have ql := lt_blk G4.out
    go_wp2_with fail
    go_ret
    exact ⟨_, rfl, HB4.out, fun h => absurd h (by decide)⟩
  rw [decide_eq_false d3] at H3
  by_cases d4 : lft < rgt
  rotate_left
  · rw [decide_eq_false d4] at H4
    clear d1 d2 d3 d4 HBE HIS
    generalize T len = TL at *
    generalize T lft = Tl at *
    generalize T rgt = Tr at *
    go_enter Tryz.func43, Tryz.ntmps43
    go_wp2_with fail
    refine HNUM.out.mono ?_
    rintro e w1 ⟨rfl, hb1⟩
    have G1 := hide (below_blk hb1 X0.out.1 (lt_blk X0.out.1))
    have HB1 := hide (X0.out.2.2.2.trans (hb1.mono X0.out.2.2.2.size))
    clear hb1 X0 HNUM
    have q0 := cell_blk G1.out 0
    have q1 := cell_blk G1.out 1
    have q2 := cell_blk G1.out 2
    have q3 := cell_blk G1.out 3
    have q4 := cell_blk G1.out 4
    have ql := lt_blk G1.out
    go_wp2_with fail
    refine (H1.out _ (Nat.le_trans hB HB1.out.size) (HT.out.on HB1.out hB)).mono ?_
    rintro e w2 ⟨rfl, hb2⟩
    have G2 := hide (below_blk hb2 G1.out (lt_blk G1.out))
    have HB2 := hide (HB1.out.trans (hb2.mono HB1.out.size))
    clear hb2 q0 q1 q2 q3 q4 ql H1
    have q0 := cell_blk G2.out 0
    have q1 := cell_blk G2.out 1
    have q2 := cell_blk G2.out 2
    have q3 := cell_blk G2.out 3
    have q4 := cell_blk G2.out 4
    have ql := lt_blk G2.out
    go_wp2_with fail
    refine (H2.out _ (Nat.le_trans hB HB2.out.size) (HT.out.on HB2.out hB)).mono ?_
    rintro e w3 ⟨rfl, hb3⟩
    have G3 := hide (below_blk hb3 G2.out (lt_blk G2.out))
    have HB3 := hide (HB2.out.trans (hb3.mono HB2.out.size))
    clear hb3 q0 q1 q2 q3 q4 ql H2
    have q0 := cell_blk G3.out 0
    have q1 := cell_blk G3.out 1
    have q2 := cell_blk G3.out 2
    have q3 := cell_blk G3.out 3
    have q4 := cell_blk G3.out 4
    have ql := lt_blk G3.out
    go_wp2_with fail
    refine (H3.out _ (Nat.le_trans hB HB3.out.size) (HT.out.on HB3.out hB)).mono ?_
    rintro e w4 ⟨rfl, hb4⟩
    have G4 := hide (below_blk hb4 G3.out (lt_blk G3.out))
    have HB4 := hide (HB3.out.trans (hb4.mono HB3.out.size))
    clear hb4 q0 q1 q2 q3 q4 ql H3
    have q0 := cell_blk G4.out 0
    have q1 := cell_blk G4.out 1
    have q2 := cell_blk G4.out 2
    have q3 := cell_blk G4.out 3
    have q4 := cell_blk G4.out 4
    have ql := lt_blk G4.out
    go_wp2_with fail
    refine (H4.out _ (Nat.le_trans hB HB4.out.size) (HT.out.on HB4.out hB)).mono ?_
    rintro e w5 ⟨rfl, hb5⟩
    have G5 := hide (below_blk hb5 G4.out (lt_blk G4.out))
    have HB5 := hide (HB4.out.trans (hb5.mono HB4.out.size))
    clear hb5 q0 q1 q2 q3 q4 ql H4
    have q0 := cell_blk G5.out 0
    have q1 := cell_blk G5.out 1
    have q2 := cell_blk G5.out 2
    have q3 := cell_blk G5.out 3
    have q4 := cell_blk G5.out 4
    have ql := lt_blk G5.out
    go_wp2_with fail
    go_ret
    exact ⟨_, rfl, HB5.out, fun h => absurd h (by decide)⟩
  rw [decide_eq_true d4] at H4
  have HEND := hide (HIS.out d1 d2 d3 d4)
  have HLESS := hide (fun x y (k1 : smallB x) (k2 : smallB y) w hB hT => b52less_T (smallB_sz k1) (smallB_sz k2) (by omega) B w hB hT)
  clear d1 d2 d3 d4 HIS
  obtain ⟨P, hP⟩ : ∃ P, P = IsBm (T len) (T lft) (T rgt) F S := ⟨_, rfl⟩
  rw [← hP] at HEND ⊢
  clear hP
  generalize T len = TL at *
  generalize T lft = Tl at *
  generalize T rgt = Tr at *
  go_enter Tryz.func43, Tryz.ntmps43
  go_wp2_with fail
  refine HNUM.out.mono ?_
  rintro e w1 ⟨rfl, hb1⟩
  have G1 := hide (below_blk hb1 X0.out.1 (lt_blk X0.out.1))
  have HB1 := hide (X0.out.2.2.2.trans (hb1.mono X0.out.2.2.2.size))
  clear hb1 X0 HNUM
  have q0 := cell_blk G1.out 0
  have q1 := cell_blk G1.out 1
  have q2 := cell_blk G1.out 2
  have q3 := cell_blk G1.out 3
  have q4 := cell_blk G1.out 4
  have ql := lt_blk G1.out
  go_wp2_with fail
  refine (H1.out _ (Nat.le_trans hB HB1.out.size) (HT.out.on HB1.out hB)).mono ?_
  rintro e w2 ⟨rfl, hb2⟩
  have G2 := hide (below_blk hb2 G1.out (lt_blk G1.out))
  have HB2 := hide (HB1.out.trans (hb2.mono HB1.out.size))
  clear hb2 q0 q1 q2 q3 q4 ql H1
  have q0 := cell_blk G2.out 0
  have q1 := cell_blk G2.out 1
  have q2 := cell_blk G2.out 2
  have q3 := cell_blk G2.out 3
  have q4 := cell_blk G2.out 4
  have ql := lt_blk G2.out
  go_wp2_with fail
  refine (H2.out _ (Nat.le_trans hB HB2.out.size) (HT.out.on HB2.out hB)).mono ?_
  rintro e w3 ⟨rfl, hb3⟩
  have G3 := hide (below_blk hb3 G2.out (lt_blk G2.out))
  have HB3 := hide (HB2.out.trans (hb3.mono HB2.out.size))
  clear hb3 q0 q1 q2 q3 q4 ql H2
  have q0 := cell_blk G3.out 0
  have q1 := cell_blk G3.out 1
  have q2 := cell_blk G3.out 2
  have q3 := cell_blk G3.out 3
  have q4 := cell_blk G3.out 4
  have ql := lt_blk G3.out
  go_wp2_with fail
  refine (H3.out _ (Nat.le_trans hB HB3.out.size) (HT.out.on HB3.out hB)).mono ?_
  rintro e w4 ⟨rfl, hb4⟩
  have G4 := hide (below_blk hb4 G3.out (lt_blk G3.out))
  have HB4 := hide (HB3.out.trans (hb4.mono HB3.out.size))
  clear hb4 q0 q1 q2 q3 q4 ql H3
  have q0 := cell_blk G4.out 0
  have q1 := cell_blk G4.out 1
  have q2 := cell_blk G4.out 2
  have q3 := cell_blk G4.out 3
  have q4 := cell_blk G4.out 4
  have ql := lt_blk G4.out
  go_wp2_with fail
  refine (H4.out _ (Nat.le_trans hB HB4.out.size) (HT.out.on HB4.out hB)).mono ?_
  rintro e w5 ⟨rfl, hb5⟩
  have G5 := hide (below_blk hb5 G4.out (lt_blk G4.out))
  have HB5 := hide (HB4.out.trans (hb5.mono HB4.out.size))
  clear hb5 q0 q1 q2 q3 q4 ql H4
  have q0 := cell_blk G5.out 0
  have q1 := cell_blk G5.out 1
  have q2 := cell_blk G5.out 2
  have q3 := cell_blk G5.out 3
  have q4 := cell_blk G5.out 4
  have ql := lt_blk G5.out
  go_wp2_with fail
  clear q0 q1 q2 q3 q4 ql
  go_loopw [4] (fun i wr => ∃ k : Nat, k ≤ n1 ∧ i = .int .i64 k ∧ Hid (Below w.heap.size w wr ∧ wr.heap[w.heap.size]? = some (beamO TL Tl Tr fa n1 fc sa n2 sc) ∧ ∀ f ∈ F.take k, FOK len f)) (fun i _ => n1 - (intOf i).toNat)
  case atStart => exact ⟨0, Nat.zero_le _, rfl, HB5.out, G5.out, fun f hf => by simp at hf⟩
  clear HB5 G5
  case round =>
    obtain ⟨k, hk, rfl, hin⟩ := hrel
    obtain ⟨wo, hwo⟩ : ∃ wo, wo = wr := ⟨_, rfl⟩
    subst hwo
    have HI := hide hin.out
    clear hin
    have q0 := cell_blk HI.out.2.1 0
    have q1 := cell_blk HI.out.2.1 1
    have q2 := cell_blk HI.out.2.1 2
    have q3 := cell_blk HI.out.2.1 3
    have q4 := cell_blk HI.out.2.1 4
    have ql := lt_blk HI.out.2.1
    by_cases hlt : k < n1
    · have hki : (k : Int) < (n1 : Int) := by omega
      have hk0 : (0 : Int) ≤ (k : Int) := by omega
      have hkl : k < F.length := by rw [← HN1.out]; exact hlt
      obtain ⟨kb, ko, hfa, hkb, c1, c2⟩ := (HRF.out.cells (w2 := wo) fun i o hi => HI.out.1.cell (p := ⟨i, o, none⟩) (show i < w.heap.size by omega)) k hkl
      subst hfa
      have hfm := frAt_mem hkl
      have htk := frAt_take hkl
      obtain ⟨v1, v2⟩ := HZF.out _ hfm
      obtain ⟨A, hA⟩ : ∃ A, A = (frAt F k).1 := ⟨_, rfl⟩
      obtain ⟨Q, hQ⟩ : ∃ A, A = (frAt F k).2 := ⟨_, rfl⟩
      have hAQ : frAt F k = (A, Q) := by rw [hA, hQ]
      rw [← hA] at v1 c1
      rw [← hQ] at v2 c2
      rw [hAQ] at htk
      have HTK := hide htk
      have hkw : kb < wo.heap.size := by have := HI.out.1.size; omega
      have hBw : B ≤ wo.heap.size := Nat.le_trans hB HI.out.1.size
      have HTw := hide (HT.out.on HI.out.1 hB)
      have XF := hide (heap2 wo (frcO A Q) (.cells #[.string A, .string Q] 22))
      have H1 := hide (b52numbers_any (wo.heap.size + 1) [A, Q] (by simp) (fun s hs => by simp at hs; rcases hs with rfl | rfl <;> omega) B _ (strs2 XF.out.2.1) (Nat.le_trans hBw XF.out.2.2.2.size) (HTw.out.on XF.out.2.2.2 hBw))
      clear hfm htk hA hQ hAQ v1 v2 hlt
      by_cases hz : firstN [A, Q] = 0
      rotate_left
      · have gz : (firstN [A, Q] == 0) = false := by simpa using hz
        have HZ := hide hz
        generalize firstN [A, Q] = E at *
        clear hz HBE HLESS
        go_wp2_with fail
        refine H1.out.mono ?_
        rintro e w1 ⟨rfl, hb1⟩
        have HB1 := hide (HI.out.1.trans ((XF.out.2.2.2.trans (hb1.mono XF.out.2.2.2.size)).mono HI.out.1.size))
        clear hb1
        go_wp2_with fail
        go_ret
        exact ⟨_, rfl, HB1.out, fun h => absurd h HZ.out⟩
      have hall := firstN_zero hz
      rw [hz] at H1
      obtain ⟨a, s1, rfl⟩ := numE_small (hall A (by simp))
      obtain ⟨z, s2, rfl⟩ := numE_small (hall Q (by simp))
      clear hall hz
      have H2 := hide (fun w hB hT => HBE.out a s1 w hB hT)
      have HS1 := hide s1
      have HS2 := hide s2
      clear s1 s2
      by_cases d1 : a < 0 ∨ len < a
      · rw [decide_eq_true d1] at H2
        generalize T a = TA at *
        generalize T z = TZ at *
        clear d1 HBE HLESS
        go_wp2_with fail
        refine H1.out.mono ?_
        rintro e w1 ⟨rfl, hb1⟩
        have K1 := hide (below_blk hb1 XF.out.1 (lt_blk XF.out.1))
        have HB1 := hide (XF.out.2.2.2.trans (hb1.mono XF.out.2.2.2.size))
        have G1 := hide (below_blk HB1.out HI.out.2.1 (lt_blk HI.out.2.1))
        clear hb1 c1 c2 hkw XF H1 q0 q1 q2 q3 q4 ql
        have q0 := cell_blk G1.out 0
        have q1 := cell_blk G1.out 1
        have q2 := cell_blk G1.out 2
        have q3 := cell_blk G1.out 3
        have q4 := cell_blk G1.out 4
        have ql := lt_blk G1.out
        have p0 := cell_blk K1.out 0
        have p1 := cell_blk K1.out 1
        have pl := lt_blk K1.out
        go_wp2_with fail
        refine (H2.out _ (Nat.le_trans hBw HB1.out.size) (HTw.out.on HB1.out hBw)).mono ?_
        rintro e w2 ⟨rfl, hb2⟩
        have G2 := hide (below_blk hb2 G1.out (lt_blk G1.out))
        have K2 := hide (below_blk hb2 K1.out (lt_blk K1.out))
        have HB2 := hide (HB1.out.trans (hb2.mono HB1.out.size))
        clear hb2 q0 q1 q2 q3 q4 ql H2 p0 p1 pl
        have q0 := cell_blk G2.out 0
        have q1 := cell_blk G2.out 1
        have q2 := cell_blk G2.out 2
        have q3 := cell_blk G2.out 3
        have q4 := cell_blk G2.out 4
        have ql := lt_blk G2.out
        have p0 := cell_blk K2.out 0
        have p1 := cell_blk K2.out 1
        have pl := lt_blk K2.out
        go_wp2_with fail
        go_ret
        exact ⟨_, rfl, HI.out.1.trans (HB2.out.mono HI.out.1.size), fun h => absurd h (by decide)⟩
      · rw [decide_eq_false d1] at H2
        have HN := hide (show ∀ f ∈ F.take (k + 1), FOK len f from fun f hf => by
          rw [HTK.out] at hf
          rcases List.mem_append.1 hf with h | h
          · exact HI.out.2.2 f h
          · simp only [List.mem_cons, List.not_mem_nil, or_false] at h
            exact ⟨a, z, h, HS1.out, HS2.out, Rat.not_lt.1 fun h => d1 (.inl h), Rat.not_lt.1 fun h => d1 (.inr h)⟩)
        generalize T a = TA at *
        generalize T z = TZ at *
        clear d1
        go_wp2_with fail
        refine H1.out.mono ?_
        rintro e w1 ⟨rfl, hb1⟩
        have K1 := hide (below_blk hb1 XF.out.1 (lt_blk XF.out.1))
        have HB1 := hide (XF.out.2.2.2.trans (hb1.mono XF.out.2.2.2.size))
        have G1 := hide (below_blk HB1.out HI.out.2.1 (lt_blk HI.out.2.1))
        clear hb1 c1 c2 hkw XF H1 q0 q1 q2 q3 q4 ql
        have q0 := cell_blk G1.out 0
        have q1 := cell_blk G1.out 1
        have q2 := cell_blk G1.out 2
        have q3 := cell_blk G1.out 3
        have q4 := cell_blk G1.out 4
        have ql := lt_blk G1.out
        have p0 := cell_blk K1.out 0
        have p1 := cell_blk K1.out 1
        have pl := lt_blk K1.out
        go_wp2_with fail
        refine (H2.out _ (Nat.le_trans hBw HB1.out.size) (HTw.out.on HB1.out hBw)).mono ?_
        rintro e w2 ⟨rfl, hb2⟩
        have G2 := hide (below_blk hb2 G1.out (lt_blk G1.out))
        have K2 := hide (below_blk hb2 K1.out (lt_blk K1.out))
        have HB2 := hide (HB1.out.trans (hb2.mono HB1.out.size))
        clear hb2 q0 q1 q2 q3 q4 ql H2 p0 p1 pl
        have q0 := cell_blk G2.out 0
        have q1 := cell_blk G2.out 1
        have q2 := cell_blk G2.out 2
        have q3 := cell_blk G2.out 3
        have q4 := cell_blk G2.out 4
        have ql := lt_blk G2.out
        have p0 := cell_blk K2.out 0
        have p1 := cell_blk K2.out 1
        have pl := lt_blk K2.out
        go_wp2_with fail
        go_roundw
        case rel => exact ⟨k + 1, by omega, by simp, HI.out.1.trans (HB2.out.mono HI.out.1.size), G2.out, HN.out⟩
        case measure => simp [intOf]; omega
    · obtain rfl : k = n1 := by omega
      have hki : ((k : Int) < (k : Int)) = False := eq_false (by omega)
      have HB5 := hide HI.out.1
      have G5 := hide HI.out.2.1
      have HF := hide (show ∀ f ∈ F, FOK len f from fun f hf => HI.out.2.2 f (by rw [List.take_of_length_le (by rw [HN1.out]; omega)]; exact hf))
      clear HI hlt
      go_wp2_with fail
      clear q0 q1 q2 q3 q4 ql
      go_loopw [7] (fun i wr => ∃ j : Nat, j ≤ n2 ∧ i = .int .i64 j ∧ Hid (Below w.heap.size w wr ∧ wr.heap[w.heap.size]? = some (beamO TL Tl Tr fa k fc sa n2 sc) ∧ ∀ f ∈ S.take j, SOK len f)) (fun i _ => n2 - (intOf i).toNat)
      case atStart => exact ⟨0, Nat.zero_le _, rfl, HB5.out, G5.out, fun f hf => by simp at hf⟩
      clear HB5 G5
      case round =>
        obtain ⟨j, hj, rfl, hin⟩ := hrel
        obtain ⟨wo, hwo⟩ : ∃ wo, wo = wr := ⟨_, rfl⟩
        subst hwo
        have HI := hide hin.out
        clear hin
        have q0 := cell_blk HI.out.2.1 0
        have q1 := cell_blk HI.out.2.1 1
        have q2 := cell_blk HI.out.2.1 2
        have q3 := cell_blk HI.out.2.1 3
        have q4 := cell_blk HI.out.2.1 4
        have ql := lt_blk HI.out.2.1
        by_cases hlt : j < n2
        · have hki : (j : Int) < (n2 : Int) := by omega
          have hk0 : (0 : Int) ≤ (j : Int) := by omega
          have hkl : j < S.length := by rw [← HN2.out]; exact hlt
          obtain ⟨kb, ko, hfa, hkb, c1, c2, c3⟩ := (HRS.out.cells (w2 := wo) fun i o hi => HI.out.1.cell (p := ⟨i, o, none⟩) (show i < w.heap.size by omega)) j hkl
          subst hfa
          have hfm := spAt_mem hkl
          have htk := spAt_take hkl
          obtain ⟨v1, v2, v3⟩ := HZS.out _ hfm
          obtain ⟨A, hA⟩ : ∃ A, A = (spAt S j).1 := ⟨_, rfl⟩
          obtain ⟨E, hE⟩ : ∃ A, A = (spAt S j).2.1 := ⟨_, rfl⟩
          obtain ⟨Q, hQ⟩ : ∃ A, A = (spAt S j).2.2 := ⟨_, rfl⟩
          have hAQ : spAt S j = (A, E, Q) := by rw [hA, hE, hQ]
          rw [← hA] at v1 c1
          rw [← hE] at v2 c2
          rw [← hQ] at v3 c3
          rw [hAQ] at htk
          have HTK := hide htk
          have hkw : kb < wo.heap.size := by have := HI.out.1.size; omega
          have hBw : B ≤ wo.heap.size := Nat.le_trans hB HI.out.1.size
          have HTw := hide (HT.out.on HI.out.1 hB)
          have XF := hide (heap2 wo (sprO A E Q) (.cells #[.string A, .string E, .string Q] 22))
          have H1 := hide (b52numbers_any (wo.heap.size + 1) [A, E, Q] (by simp) (fun s hs => by simp at hs; rcases hs with rfl | rfl | rfl <;> omega) B _ (strs3 XF.out.2.1) (Nat.le_trans hBw XF.out.2.2.2.size) (HTw.out.on XF.out.2.2.2 hBw))
          clear hfm htk hA hE hQ hAQ v1 v2 v3 hlt
          by_cases hz : firstN [A, E, Q] = 0
          rotate_left
          · have gz : (firstN [A, E, Q] == 0) = false := by simpa using hz
            have HZ := hide hz
            generalize firstN [A, E, Q] = Er at *
            clear hz HBE HLESS
            go_wp2_with fail
            refine H1.out.mono ?_
            rintro e w1 ⟨rfl, hb1⟩
            have HB1 := hide (HI.out.1.trans ((XF.out.2.2.2.trans (hb1.mono XF.out.2.2.2.size)).mono HI.out.1.size))
            clear hb1
            go_wp2_with fail
            go_ret
            exact ⟨_, rfl, HB1.out, fun h => absurd h HZ.out⟩
          have hall := firstN_zero hz
          rw [hz] at H1
          obtain ⟨a, s1, rfl⟩ := numE_small (hall A (by simp))
          obtain ⟨t, s2, rfl⟩ := numE_small (hall E (by simp))
          obtain ⟨z, s3, rfl⟩ := numE_small (hall Q (by simp))
          clear hall hz
          have H2 := hide (fun w hB hT => HBE.out a s1 w hB hT)
          have H3 := hide (fun w hB hT => HBE.out t s2 w hB hT)
          have H4 := hide (fun w hB hT => HLESS.out a t s1 s2 w hB hT)
          have HS1 := hide s1
          have HS2 := hide s2
          have HS3 := hide s3
          clear s1 s2 s3
          by_cases d1 : a < 0 ∨ len < a
          · rw [decide_eq_true d1] at H2
            generalize T a = TA at *
            generalize T t = TE at *
            generalize T z = TZ at *
            clear d1 HBE HLESS
            go_wp2_with fail
            refine H1.out.mono ?_
            rintro e w1 ⟨rfl, hb1⟩
            have K1 := hide (below_blk hb1 XF.out.1 (lt_blk XF.out.1))
            have HB1 := hide (XF.out.2.2.2.trans (hb1.mono XF.out.2.2.2.size))
            have G1 := hide (below_blk HB1.out HI.out.2.1 (lt_blk HI.out.2.1))
            clear hb1 c1 c2 c3 hkw XF H1 q0 q1 q2 q3 q4 ql
            have q0 := cell_blk G1.out 0
            have q1 := cell_blk G1.out 1
            have q2 := cell_blk G1.out 2
            have q3 := cell_blk G1.out 3
            have q4 := cell_blk G1.out 4
            have ql := lt_blk G1.out
            have p0 := cell_blk K1.out 0
            have p1 := cell_blk K1.out 1
            have p2 := cell_blk K1.out 2
            have pl := lt_blk K1.out
            go_wp2_with fail
            refine (H2.out _ (Nat.le_trans hBw HB1.out.size) (HTw.out.on HB1.out hBw)).mono ?_
            rintro e w2 ⟨rfl, hb2⟩
            have G2 := hide (below_blk hb2 G1.out (lt_blk G1.out))
            have K2 := hide (below_blk hb2 K1.out (lt_blk K1.out))
            have HB2 := hide (HB1.out.trans (hb2.mono HB1.out.size))
            clear hb2 q0 q1 q2 q3 q4 ql H2 p0 p1 p2 pl
            have q0 := cell_blk G2.out 0
            have q1 := cell_blk G2.out 1
            have q2 := cell_blk G2.out 2
            have q3 := cell_blk G2.out 3
            have q4 := cell_blk G2.out 4
            have ql := lt_blk G2.out
            have p0 := cell_blk K2.out 0
            have p1 := cell_blk K2.out 1
            have p2 := cell_blk K2.out 2
            have pl := lt_blk K2.out
            go_wp2_with fail
            go_ret
            exact ⟨_, rfl, HI.out.1.trans (HB2.out.mono HI.out.1.size), fun h => absurd h (by decide)⟩
          rw [decide_eq_false d1] at H2
          by_cases d2 : t < 0 ∨ len < t
          · rw [decide_eq_true d2] at H3
            generalize T a = TA at *
            generalize T t = TE at *
            generalize T z = TZ at *
            clear d1 d2 HBE HLESS
            go_wp2_with fail
            refine H1.out.mono ?_
            rintro e w1 ⟨rfl, hb1⟩
            have K1 := hide (below_blk hb1 XF.out.1 (lt_blk XF.out.1))
            have HB1 := hide (XF.out.2.2.2.trans (hb1.mono XF.out.2.2.2.size))
            have G1 := hide (below_blk HB1.out HI.out.2.1 (lt_blk HI.out.2.1))
            clear hb1 c1 c2 c3 hkw XF H1 q0 q1 q2 q3 q4 ql
            have q0 := cell_blk G1.out 0
            have q1 := cell_blk G1.out 1
            have q2 := cell_blk G1.out 2
            have q3 := cell_blk G1.out 3
            have q4 := cell_blk G1.out 4
            have ql := lt_blk G1.out
            have p0 := cell_blk K1.out 0
            have p1 := cell_blk K1.out 1
            have p2 := cell_blk K1.out 2
            have pl := lt_blk K1.out
            go_wp2_with fail
            refine (H2.out _ (Nat.le_trans hBw HB1.out.size) (HTw.out.on HB1.out hBw)).mono ?_
            rintro e w2 ⟨rfl, hb2⟩
            have G2 := hide (below_blk hb2 G1.out (lt_blk G1.out))
            have K2 := hide (below_blk hb2 K1.out (lt_blk K1.out))
            have HB2 := hide (HB1.out.trans (hb2.mono HB1.out.size))
            clear hb2 q0 q1 q2 q3 q4 ql H2 p0 p1 p2 pl
            have q0 := cell_blk G2.out 0
            have q1 := cell_blk G2.out 1
            have q2 := cell_blk G2.out 2
            have q3 := cell_blk G2.out 3
            have q4 := cell_blk G2.out 4
            have ql := lt_blk G2.out
            have p0 := cell_blk K2.out 0
            have p1 := cell_blk K2.out 1
            have p2 := cell_blk K2.out 2
            have pl := lt_blk K2.out
            go_wp2_with fail
            refine (H3.out _ (Nat.le_trans hBw HB2.out.size) (HTw.out.on HB2.out hBw)).mono ?_
            rintro e w3 ⟨rfl, hb3⟩
            have G3 := hide (below_blk hb3 G2.out (lt_blk G2.out))
            have K3 := hide (below_blk hb3 K2.out (lt_blk K2.out))
            have HB3 := hide (HB2.out.trans (hb3.mono HB2.out.size))
            clear hb3 q0 q1 q2 q3 q4 ql H3 p0 p1 p2 pl
            have q0 := cell_blk G3.out 0
            have q1 := cell_blk G3.out 1
            have q2 := cell_blk G3.out 2
            have q3 := cell_blk G3.out 3
            have q4 := cell_blk G3.out 4
            have ql := lt_blk G3.out
            have p0 := cell_blk K3.out 0
            have p1 := cell_blk K3.out 1
            have p2 := cell_blk K3.out 2
            have pl := lt_blk K3.out
            go_wp2_with fail
            go_ret
            exact ⟨_, rfl, HI.out.1.trans (HB3.out.mono HI.out.1.size), fun h => absurd h (by decide)⟩
          rw [decide_eq_false d2] at H3
          by_cases d3 : a < t
          rotate_left
          · rw [decide_eq_false d3] at H4
            generalize T a = TA at *
            generalize T t = TE at *
            generalize T z = TZ at *
            clear d1 d2 d3 HBE HLESS
            go_wp2_with fail
            refine H1.out.mono ?_
            rintro e w1 ⟨rfl, hb1⟩
            have K1 := hide (below_blk hb1 XF.out.1 (lt_blk XF.out.1))
            have HB1 := hide (XF.out.2.2.2.trans (hb1.mono XF.out.2.2.2.size))
            have G1 := hide (below_blk HB1.out HI.out.2.1 (lt_blk HI.out.2.1))
            clear hb1 c1 c2 c3 hkw XF H1 q0 q1 q2 q3 q4 ql
            have q0 := cell_blk G1.out 0
            have q1 := cell_blk G1.out 1
            have q2 := cell_blk G1.out 2
            have q3 := cell_blk G1.out 3
            have q4 := cell_blk G1.out 4
            have ql := lt_blk G1.out
            have p0 := cell_blk K1.out 0
            have p1 := cell_blk K1.out 1
            have p2 := cell_blk K1.out 2
            have pl := lt_blk K1.out
            go_wp2_with fail
            refine (H2.out _ (Nat.le_trans hBw HB1.out.size) (HTw.out.on HB1.out hBw)).mono ?_
            rintro e w2 ⟨rfl, hb2⟩
            have G2 := hide (below_blk hb2 G1.out (lt_blk G1.out))
            have K2 := hide (below_blk hb2 K1.out (lt_blk K1.out))
            have HB2 := hide (HB1.out.trans (hb2.mono HB1.out.size))
            clear hb2 q0 q1 q2 q3 q4 ql H2 p0 p1 p2 pl
            have q0 := cell_blk G2.out 0
            have q1 := cell_blk G2.out 1
            have q2 := cell_blk G2.out 2
            have q3 := cell_blk G2.out 3
            have q4 := cell_blk G2.out 4
            have ql := lt_blk G2.out
            have p0 := cell_blk K2.out 0
            have p1 := cell_blk K2.out 1
            have p2 := cell_blk K2.out 2
            have pl := lt_blk K2.out
            go_wp2_with fail
            refine (H3.out _ (Nat.le_trans hBw HB2.out.size) (HTw.out.on HB2.out hBw)).mono ?_
            rintro e w3 ⟨rfl, hb3⟩
            have G3 := hide (below_blk hb3 G2.out (lt_blk G2.out))
            have K3 := hide (below_blk hb3 K2.out (lt_blk K2.out))
            have HB3 := hide (HB2.out.trans (hb3.mono HB2.out.size))
            clear hb3 q0 q1 q2 q3 q4 ql H3 p0 p1 p2 pl
            have q0 := cell_blk G3.out 0
            have q1 := cell_blk G3.out 1
            have q2 := cell_blk G3.out 2
            have q3 := cell_blk G3.out 3
            have q4 := cell_blk G3.out 4
            have ql := lt_blk G3.out
            have p0 := cell_blk K3.out 0
            have p1 := cell_blk K3.out 1
            have p2 := cell_blk K3.out 2
            have pl := lt_blk K3.out
            go_wp2_with fail
            refine (H4.out _ (Nat.le_trans hBw HB3.out.size) (HTw.out.on HB3.out hBw)).mono ?_
            rintro e w4 ⟨rfl, hb4⟩
            have G4 := hide (below_blk hb4 G3.out (lt_blk G3.out))
            have K4 := hide (below_blk hb4 K3.out (lt_blk K3.out))
            have HB4 := hide (HB3.out.trans (hb4.mono HB3.out.size))
            clear hb4 q0 q1 q2 q3 q4 ql H4 p0 p1 p2 pl
            have q0 := cell_blk G4.out 0
            have q1 := cell_blk G4.out 1
            have q2 := cell_blk G4.out 2
            have q3 := cell_blk G4.out 3
            have q4 := cell_blk G4.out 4
            have ql := lt_blk G4.out
            have p0 := cell_blk K4.out 0
            have p1 := cell_blk K4.out 1
            have p2 := cell_blk K4.out 2
            have pl := lt_blk K4.out
            go_wp2_with fail
            go_ret
            exact ⟨_, rfl, HI.out.1.trans (HB4.out.mono HI.out.1.size), fun h => absurd h (by decide)⟩
          rw [decide_eq_true d3] at H4
          have HN := hide (show ∀ f ∈ S.take (j + 1), SOK len f from fun f hf => by
            rw [HTK.out] at hf
            rcases List.mem_append.1 hf with h | h
            · exact HI.out.2.2 f h
            · simp only [List.mem_cons, List.not_mem_nil, or_false] at h
              exact ⟨a, t, z, h, HS1.out, HS2.out, HS3.out, Rat.not_lt.1 fun h => d1 (.inl h), d3, Rat.not_lt.1 fun h => d2 (.inr h)⟩)
          generalize T a = TA at *
          generalize T t = TE at *
          generalize T z = TZ at *
          clear d1 d2 d3
          go_wp2_with fail
          refine H1.out.mono ?_
          rintro e w1 ⟨rfl, hb1⟩
          have K1 := hide (below_blk hb1 XF.out.1 (lt_blk XF.out.1))
          have HB1 := hide (XF.out.2.2.2.trans (hb1.mono XF.out.2.2.2.size))
          have G1 := hide (below_blk HB1.out HI.out.2.1 (lt_blk HI.out.2.1))
          clear hb1 c1 c2 c3 hkw XF H1 q0 q1 q2 q3 q4 ql
          have q0 := cell_blk G1.out 0
          have q1 := cell_blk G1.out 1
          have q2 := cell_blk G1.out 2
          have q3 := cell_blk G1.out 3
          have q4 := cell_blk G1.out 4
          have ql := lt_blk G1.out
          have p0 := cell_blk K1.out 0
          have p1 := cell_blk K1.out 1
          have p2 := cell_blk K1.out 2
          have pl := lt_blk K1.out
          go_wp2_with fail
          refine (H2.out _ (Nat.le_trans hBw HB1.out.size) (HTw.out.on HB1.out hBw)).mono ?_
          rintro e w2 ⟨rfl, hb2⟩
          have G2 := hide (below_blk hb2 G1.out (lt_blk G1.out))
          have K2 := hide (below_blk hb2 K1.out (lt_blk K1.out))
          have HB2 := hide (HB1.out.trans (hb2.mono HB1.out.size))
          clear hb2 q0 q1 q2 q3 q4 ql H2 p0 p1 p2 pl
          have q0 := cell_blk G2.out 0
          have q1 := cell_blk G2.out 1
          have q2 := cell_blk G2.out 2
          have q3 := cell_blk G2.out 3
          have q4 := cell_blk G2.out 4
          have ql := lt_blk G2.out
          have p0 := cell_blk K2.out 0
          have p1 := cell_blk K2.out 1
          have p2 := cell_blk K2.out 2
          have pl := lt_blk K2.out
          go_wp2_with fail
          refine (H3.out _ (Nat.le_trans hBw HB2.out.size) (HTw.out.on HB2.out hBw)).mono ?_
          rintro e w3 ⟨rfl, hb3⟩
          have G3 := hide (below_blk hb3 G2.out (lt_blk G2.out))
          have K3 := hide (below_blk hb3 K2.out (lt_blk K2.out))
          have HB3 := hide (HB2.out.trans (hb3.mono HB2.out.size))
          clear hb3 q0 q1 q2 q3 q4 ql H3 p0 p1 p2 pl
          have q0 := cell_blk G3.out 0
          have q1 := cell_blk G3.out 1
          have q2 := cell_blk G3.out 2
          have q3 := cell_blk G3.out 3
          have q4 := cell_blk G3.out 4
          have ql := lt_blk G3.out
          have p0 := cell_blk K3.out 0
          have p1 := cell_blk K3.out 1
          have p2 := cell_blk K3.out 2
          have pl := lt_blk K3.out
          go_wp2_with fail
          refine (H4.out _ (Nat.le_trans hBw HB3.out.size) (HTw.out.on HB3.out hBw)).mono ?_
          rintro e w4 ⟨rfl, hb4⟩
          have G4 := hide (below_blk hb4 G3.out (lt_blk G3.out))
          have K4 := hide (below_blk hb4 K3.out (lt_blk K3.out))
          have HB4 := hide (HB3.out.trans (hb4.mono HB3.out.size))
          clear hb4 q0 q1 q2 q3 q4 ql H4 p0 p1 p2 pl
          have q0 := cell_blk G4.out 0
          have q1 := cell_blk G4.out 1
          have q2 := cell_blk G4.out 2
          have q3 := cell_blk G4.out 3
          have q4 := cell_blk G4.out 4
          have ql := lt_blk G4.out
          have p0 := cell_blk K4.out 0
          have p1 := cell_blk K4.out 1
          have p2 := cell_blk K4.out 2
          have pl := lt_blk K4.out
          go_wp2_with fail
          go_roundw
          case rel => exact ⟨j + 1, by omega, by simp, HI.out.1.trans (HB4.out.mono HI.out.1.size), G4.out, HN.out⟩
          case measure => simp [intOf]; omega
        · obtain rfl : j = n2 := by omega
          have hki : ((j : Int) < (j : Int)) = False := eq_false (by omega)
          have HFIN := hide (HEND.out HF.out fun f hf => HI.out.2.2 f (by rw [List.take_of_length_le (by rw [HN2.out]; omega)]; exact hf))
          have HB1 := hide HI.out.1
          clear HI hlt
          go_wp2_with fail
          go_ret
          exact ⟨_, rfl, HB1.out, fun _ => HFIN.out⟩
open Go.RowKit Go.KP Go.KI Go.Shelf
attribute [local go_sem] Oper.semAt_some

abbrev ShortB (L l r : ByteArray) (F : List Fr) (S : List Sp) : Prop := L.size ≤ 24 ∧ l.size ≤ 24 ∧ r.size ≤ 24 ∧ (∀ f ∈ F, f.1.size ≤ 24 ∧ f.2.size ≤ 24) ∧ (∀ f ∈ S, f.1.size ≤ 24 ∧ f.2.1.size ≤ 24 ∧ f.2.2.size ≤ 24) ∧ F.length ≤ 70 ∧ S.length ≤ 70
def GrtRes (w : World) (P : Prop) (e : Ending) (w' : World) : Prop := ∃ g : Bool, e = .returned (.bool g) ∧ Below w.heap.size w w' ∧ (g = false → P)
theorem b52Great_any (L l r : ByteArray) (F : List Fr) (S : List Sp) (fa : Option Addr) (fc : Nat) (sa : Option Addr) (sc : Nat) (B : Nat) (w : World) (hB : B ≤ w.heap.size) (hF : FrRow B w fa F) (hS : SpRow B w sa S) :
    Calls Tryz.prog 86 #[beamV L l r fa F.length fc sa S.length sc] w (GrtRes w (ShortB L l r F S)) := by
  have HRF := hide hF
  have HRS := hide hS
  obtain ⟨n1, hn1⟩ : ∃ n, n = F.length := ⟨_, rfl⟩
  obtain ⟨n2, hn2⟩ : ∃ n, n = S.length := ⟨_, rfl⟩
  rw [← hn1, ← hn2]
  have HN1 := hide hn1
  have HN2 := hide hn2
  have X0 := hide (heap1 w (beamO L l r fa n1 fc sa n2 sc))
  clear hF hS hn1 hn2
  by_cases c0 : 24 < L.size
  · have g0 : (24 : Int) < (L.size : Int) := by omega
    clear c0
    go_enter Tryz.func86, Tryz.ntmps86
    go_wp2_with fail
    go_ret
    exact ⟨_, rfl, X0.out.2.2, fun h => by cases h⟩
  have g0 : ((24 : Int) < (L.size : Int)) = False := eq_false (by omega)
  by_cases c1 : 24 < l.size
  · have g1 : (24 : Int) < (l.size : Int) := by omega
    clear c1
    go_enter Tryz.func86, Tryz.ntmps86
    go_wp2_with fail
    go_ret
    exact ⟨_, rfl, X0.out.2.2, fun h => by cases h⟩
  have g1 : ((24 : Int) < (l.size : Int)) = False := eq_false (by omega)
  by_cases c2 : 24 < r.size
  · have g2 : (24 : Int) < (r.size : Int) := by omega
    clear c2
    go_enter Tryz.func86, Tryz.ntmps86
    go_wp2_with fail
    go_ret
    exact ⟨_, rfl, X0.out.2.2, fun h => by cases h⟩
  have g2 : ((24 : Int) < (r.size : Int)) = False := eq_false (by omega)
  by_cases c3 : 70 < n1
  · have g3 : (70 : Int) < (n1 : Int) := by omega
    clear c3
    go_enter Tryz.func86, Tryz.ntmps86
    go_wp2_with fail
    go_ret
    exact ⟨_, rfl, X0.out.2.2, fun h => by cases h⟩
  have g3 : ((70 : Int) < (n1 : Int)) = False := eq_false (by omega)
  by_cases c4 : 70 < n2
  · have g4 : (70 : Int) < (n2 : Int) := by omega
    clear c4
    go_enter Tryz.func86, Tryz.ntmps86
    go_wp2_with fail
    go_ret
    exact ⟨_, rfl, X0.out.2.2, fun h => by cases h⟩
  have g4 : ((70 : Int) < (n2 : Int)) = False := eq_false (by omega)
  have HC := hide (And.intro c0 (And.intro c1 (And.intro c2 (And.intro c3 c4))))
  by_cases c5 : 5 < n1 ∧ n1 ≤ 64
  · have g5 : (5 : Int) < (n1 : Int) := by omega
    have g6 : (n1 : Int) ≤ 64 := by omega
    clear c0 c1 c2 c3 c4 c5
    go_enter Tryz.func86, Tryz.ntmps86
    go_wp2_with fail
    go_ret
    exact ⟨_, rfl, X0.out.2.2, fun h => by cases h⟩
  have HG1 : Hid (((5 : Int) < (n1 : Int)) = False ∨ ((5 : Int) < (n1 : Int) ∧ ((n1 : Int) ≤ 64) = False)) := hide (by
    by_cases h : 5 < n1
    · exact .inr ⟨by omega, eq_false (by omega)⟩
    · exact .inl (eq_false (by omega)))
  clear c5
  by_cases c6 : 4 < n2 ∧ n2 ≤ 64
  · have g5 : (4 : Int) < (n2 : Int) := by omega
    have g6 : (n2 : Int) ≤ 64 := by omega
    clear c0 c1 c2 c3 c4 c6
    rcases HG1.out with h5 | ⟨h5, h6⟩
    · skip
      go_enter Tryz.func86, Tryz.ntmps86
      go_wp2_with fail
      go_ret
      exact ⟨_, rfl, X0.out.2.2, fun h => by cases h⟩
    · skip
      go_enter Tryz.func86, Tryz.ntmps86
      go_wp2_with fail
      go_ret
      exact ⟨_, rfl, X0.out.2.2, fun h => by cases h⟩
  have HG2 : Hid (((4 : Int) < (n2 : Int)) = False ∨ ((4 : Int) < (n2 : Int) ∧ ((n2 : Int) ≤ 64) = False)) := hide (by
    by_cases h : 4 < n2
    · exact .inr ⟨by omega, eq_false (by omega)⟩
    · exact .inl (eq_false (by omega)))
  have m1 : n1 ≤ 70 := by omega
  have m2 : n2 ≤ 70 := by omega
  clear c0 c1 c2 c3 c4 c6
  have HEND := hide (fun (hF : ∀ f ∈ F, f.1.size ≤ 24 ∧ f.2.size ≤ 24) (hS : ∀ f ∈ S, f.1.size ≤ 24 ∧ f.2.1.size ≤ 24 ∧ f.2.2.size ≤ 24) => (show ShortB L l r F S from ⟨by have := HC.out.1; omega, by have := HC.out.2.1; omega, by have := HC.out.2.2.1; omega, hF, hS, by have := HC.out.2.2.2.1; have := HN1.out; omega, by have := HC.out.2.2.2.2; have := HN2.out; omega⟩))
  obtain ⟨P, hP⟩ : ∃ P, P = ShortB L l r F S := ⟨_, rfl⟩
  rw [← hP] at HEND ⊢
  clear hP HC
  have q0 := cell_blk X0.out.1 3
  have q1 := cell_blk X0.out.1 4
  have ql := lt_blk X0.out.1
  go_enter Tryz.func86, Tryz.ntmps86
  rcases HG1.out with h5 | ⟨h5, h6⟩ <;> rcases HG2.out with h7 | ⟨h7, h8⟩
  all_goals
    go_wp2_with fail
    go_loopw [3] (fun i wr => ∃ k : Nat, k ≤ n1 ∧ i = .int .i64 k ∧ Hid (wr = w.alloc (beamO L l r fa n1 fc sa n2 sc) ∧ ∀ f ∈ F.take k, f.1.size ≤ 24 ∧ f.2.size ≤ 24)) (fun i _ => n1 - (intOf i).toNat)
    case atStart => exact ⟨0, Nat.zero_le _, rfl, rfl, fun f hf => by simp at hf⟩
    case round =>
      obtain ⟨k, hk, rfl, hin⟩ := hrel
      have hw := hin.out.1
      subst hw
      have HI := hide hin.out.2
      clear hin
      by_cases hlt : k < n1
      · have hki : (k : Int) < (n1 : Int) := by omega
        have hk0 : (0 : Int) ≤ (k : Int) := by omega
        have hkl : k < F.length := by rw [← HN1.out]; exact hlt
        obtain ⟨kb, ko, hfa, hkb, d1, d2⟩ := (HRF.out.cells (w2 := w.alloc (beamO L l r fa n1 fc sa n2 sc)) fun i o hi => X0.out.2.2.cell (p := ⟨i, o, none⟩) (show i < w.heap.size by omega)) k hkl
        subst hfa
        have htk := frAt_take hkl
        have hkw : kb < w.heap.size := by omega
        have hkw2 : kb < w.heap.size + 1 := by omega
        generalize frAt F k = f at *
        clear hlt
        by_cases e1 : 24 < f.1.size
        · have g5 : (24 : Int) < (f.1.size : Int) := by omega
          clear htk e1
          go_wp2_with fail
          go_ret
          exact ⟨_, rfl, X0.out.2.2, fun h => by cases h⟩
        have g5 : ((24 : Int) < (f.1.size : Int)) = False := eq_false (by omega)
        by_cases e2 : 24 < f.2.size
        · have g6 : (24 : Int) < (f.2.size : Int) := by omega
          clear htk e1 e2
          go_wp2_with fail
          go_ret
          exact ⟨_, rfl, X0.out.2.2, fun h => by cases h⟩
        have g6 : ((24 : Int) < (f.2.size : Int)) = False := eq_false (by omega)
        have HN := hide (show ∀ x ∈ F.take (k + 1), x.1.size ≤ 24 ∧ x.2.size ≤ 24 from fun x hx => by
          rw [htk] at hx
          rcases List.mem_append.1 hx with h | h
          · exact HI.out x h
          · simp only [List.mem_cons, List.not_mem_nil, or_false] at h
            rw [h]
            exact ⟨by omega, by omega⟩)
        clear htk e1 e2
        go_wp2_with fail
        go_roundw
        case rel => exact ⟨k + 1, by omega, by simp, by first | rfl | trivial, HN.out⟩
        case measure => simp [intOf]; omega
      · obtain rfl : k = n1 := by omega
        have hki : ((k : Int) < (k : Int)) = False := eq_false (by omega)
        have HF := hide (show ∀ f ∈ F, f.1.size ≤ 24 ∧ f.2.size ≤ 24 from fun f hf => HI.out f (by rw [List.take_of_length_le (by rw [HN1.out]; omega)]; exact hf))
        clear HI hlt
        go_wp2_with fail
        go_loopw [4] (fun i wr => ∃ j : Nat, j ≤ n2 ∧ i = .int .i64 j ∧ Hid (wr = w.alloc (beamO L l r fa k fc sa n2 sc) ∧ ∀ f ∈ S.take j, f.1.size ≤ 24 ∧ f.2.1.size ≤ 24 ∧ f.2.2.size ≤ 24)) (fun i _ => n2 - (intOf i).toNat)
        case atStart => exact ⟨0, Nat.zero_le _, rfl, rfl, fun f hf => by simp at hf⟩
        case round =>
          obtain ⟨j, hj, rfl, hin⟩ := hrel
          have hw := hin.out.1
          subst hw
          have HI := hide hin.out.2
          clear hin
          by_cases hlt : j < n2
          · have hki : (j : Int) < (n2 : Int) := by omega
            have hk0 : (0 : Int) ≤ (j : Int) := by omega
            have hkl : j < S.length := by rw [← HN2.out]; exact hlt
            obtain ⟨kb, ko, hfa, hkb, d1, d2, d3⟩ := (HRS.out.cells (w2 := w.alloc (beamO L l r fa k fc sa n2 sc)) fun i o hi => X0.out.2.2.cell (p := ⟨i, o, none⟩) (show i < w.heap.size by omega)) j hkl
            subst hfa
            have htk := spAt_take hkl
            have hkw : kb < w.heap.size := by omega
            have hkw2 : kb < w.heap.size + 1 := by omega
            generalize spAt S j = f at *
            clear hlt
            by_cases e1 : 24 < f.1.size
            · have g5 : (24 : Int) < (f.1.size : Int) := by omega
              clear htk e1
              go_wp2_with fail
              go_ret
              exact ⟨_, rfl, X0.out.2.2, fun h => by cases h⟩
            have g5 : ((24 : Int) < (f.1.size : Int)) = False := eq_false (by omega)
            by_cases e2 : 24 < f.2.1.size
            · have g6 : (24 : Int) < (f.2.1.size : Int) := by omega
              clear htk e1 e2
              go_wp2_with fail
              go_ret
              exact ⟨_, rfl, X0.out.2.2, fun h => by cases h⟩
            have g6 : ((24 : Int) < (f.2.1.size : Int)) = False := eq_false (by omega)
            by_cases e3 : 24 < f.2.2.size
            · have g9 : (24 : Int) < (f.2.2.size : Int) := by omega
              clear htk e1 e2 e3
              go_wp2_with fail
              go_ret
              exact ⟨_, rfl, X0.out.2.2, fun h => by cases h⟩
            have g9 : ((24 : Int) < (f.2.2.size : Int)) = False := eq_false (by omega)
            have HN := hide (show ∀ x ∈ S.take (j + 1), x.1.size ≤ 24 ∧ x.2.1.size ≤ 24 ∧ x.2.2.size ≤ 24 from fun x hx => by
              rw [htk] at hx
              rcases List.mem_append.1 hx with h | h
              · exact HI.out x h
              · simp only [List.mem_cons, List.not_mem_nil, or_false] at h
                rw [h]
                exact ⟨by omega, by omega, by omega⟩)
            clear htk e1 e2 e3
            go_wp2_with fail
            go_roundw
            case rel => exact ⟨j + 1, by omega, by simp, by first | rfl | trivial, HN.out⟩
            case measure => simp [intOf]; omega
          · obtain rfl : j = n2 := by omega
            have hki : ((j : Int) < (j : Int)) = False := eq_false (by omega)
            have HFIN := hide (HEND.out HF.out fun f hf => HI.out f (by rw [List.take_of_length_le (by rw [HN2.out]; omega)]; exact hf))
            clear HI hlt
            go_wp2_with fail
            go_ret
            exact ⟨_, rfl, X0.out.2.2, fun _ => HFIN.out⟩
def SureRes (w : World) (P : Prop) (e : Ending) (w' : World) : Prop := ∃ g : Bool, e = .returned (.bool g) ∧ Below w.heap.size w w' ∧ (g = true → P)
theorem t52Sure_any (L l r : ByteArray) (F : List Fr) (S : List Sp) (fa : Option Addr) (fc : Nat) (sa : Option Addr) (sc : Nat) (B : Nat) (w : World) (hB : B ≤ w.heap.size) (hT : PQ B w) (hF : FrRow B w fa F) (hS : SpRow B w sa S) :
    Calls Tryz.prog 14 #[beamV L l r fa F.length fc sa S.length sc] w (SureRes w (IsBm L l r F S)) := by
  have HT := hide hT
  have HRF := hide hF
  have HRS := hide hS
  have X0 := hide (heap1 w (beamO L l r fa F.length fc sa S.length sc))
  have HG := hide (fun w hB hF hS => b52Great_any L l r F S fa fc sa sc B w hB hF hS)
  have HC := hide (fun (z : ShortB L l r F S) w hB hT hF hS => b52Check_any L l r F S fa fc sa sc z.1 z.2.1 z.2.2.1 z.2.2.2.1 z.2.2.2.2.1 (Nat.le_trans z.2.2.2.2.2.1 (by omega)) (Nat.le_trans z.2.2.2.2.2.2 (by omega)) B w hB hT hF hS)
  generalize F.length = n1 at *
  generalize S.length = n2 at *
  have HRF2 := hide (fun (w2 : World) (h : Below w.heap.size w w2) => HRF.out.cells (w2 := w2) fun k o hk => h.cell (p := ⟨k, o, none⟩) (show k < w.heap.size by omega))
  have HRS2 := hide (fun (w2 : World) (h : Below w.heap.size w w2) => HRS.out.cells (w2 := w2) fun k o hk => h.cell (p := ⟨k, o, none⟩) (show k < w.heap.size by omega))
  clear hT hF hS HRF HRS
  go_enter Tryz.func14, Tryz.ntmps14
  go_wp2_with fail
  refine (HG.out _ (Nat.le_trans hB X0.out.2.2.size) (HRF2.out _ X0.out.2.2) (HRS2.out _ X0.out.2.2)).mono ?_
  rintro e w1 ⟨g, rfl, hb1, hg⟩
  have G1 := hide (below_blk hb1 X0.out.1 (lt_blk X0.out.1))
  have HB1 := hide (X0.out.2.2.trans (hb1.mono X0.out.2.2.size))
  have HGG := hide hg
  clear hb1 hg
  cases g with
  | true =>
    go_wp2_with fail
    go_ret
    exact ⟨_, rfl, HB1.out, fun h => by cases h⟩
  | false =>
    have q0 := cell_blk G1.out 0
    have q1 := cell_blk G1.out 1
    have q2 := cell_blk G1.out 2
    have q3 := cell_blk G1.out 3
    have q4 := cell_blk G1.out 4
    have ql := lt_blk G1.out
    go_wp2_with fail
    refine (HC.out (HGG.out (by trivial)) _ (Nat.le_trans hB HB1.out.size) (HT.out.on HB1.out hB) (HRF2.out _ HB1.out) (HRS2.out _ HB1.out)).mono ?_
    rintro e w2 ⟨z, rfl, hb2, hz⟩
    have HB2 := hide (HB1.out.trans (hb2.mono HB1.out.size))
    have HZ := hide hz
    clear hb2 hz q0 q1 q2 q3 q4 ql
    by_cases h0 : z = 0
    · subst h0
      go_wp2_with fail
      go_ret
      exact ⟨_, rfl, HB2.out, fun _ => HZ.out (by trivial)⟩
    · have g0 : (z == 0) = false := by simpa using h0
      clear h0
      go_wp2_with fail
      go_ret
      exact ⟨_, rfl, HB2.out, fun h => by cases h⟩
end Go.Proofs.YtpmnhipffkhcpaaGreatDoor
namespace Go.KI
open Go
def atB (b : Bm) (k : Nat) : Rat := b.len * (((k : Nat) : Int) / (24 : Int) : Rat)
theorem share_sz {k : Nat} (hk : k ≤ 24) : sz 2 (((k : Nat) : Int) / (24 : Int) : Rat) := by
  have h := divInt_sz (n := (k : Int)) (d := 24) (p := 2) (by decide) (by omega) (by decide)
  rwa [Rat.divInt_eq_div] at h
theorem share_bounds {k : Nat} (hk : k ≤ 24) : 0 ≤ (((k : Nat) : Int) / (24 : Int) : Rat) ∧ (((k : Nat) : Int) / (24 : Int) : Rat) ≤ 1 := by
  have : k = 0 ∨ k = 1 ∨ k = 2 ∨ k = 3 ∨ k = 4 ∨ k = 5 ∨ k = 6 ∨ k = 7 ∨ k = 8 ∨ k = 9 ∨ k = 10 ∨ k = 11 ∨ k = 12 ∨ k = 13 ∨ k = 14 ∨ k = 15 ∨ k = 16 ∨ k = 17 ∨ k = 18 ∨ k = 19 ∨ k = 20 ∨ k = 21 ∨ k = 22 ∨ k = 23 ∨ k = 24 := by omega
  rcases this with rfl | rfl | rfl | rfl | rfl | rfl | rfl | rfl | rfl | rfl | rfl | rfl | rfl | rfl | rfl | rfl | rfl | rfl | rfl | rfl | rfl | rfl | rfl | rfl | rfl <;> exact ⟨by decide +kernel, by decide +kernel⟩
theorem atB_in {b : Bm} (h : BmS b) {k : Nat} (hk : k ≤ 24) : 0 ≤ atB b k ∧ atB b k ≤ b.len ∧ Gr gp gq (atB b k) := by
  obtain ⟨h1, h2⟩ := share_bounds hk
  have hl := Rat.le_of_lt h.pos
  refine ⟨Rat.mul_nonneg hl h1, ?_, share_gr h.sl hk⟩
  have := Rat.mul_le_mul_of_nonneg_left h2 hl
  rwa [Rat.mul_one] at this
def beam0 : Bm := ⟨9, 0, 9, [(3, 3), (6, 3)], []⟩
theorem small_lit (n : Int) (h : n.natAbs < 10 ^ 12) : smallB (n : Rat) := ⟨by rw [Rat.num_intCast]; exact h, by rw [Rat.den_intCast]; decide⟩
theorem beam0_ok : BmS beam0 where
  pos := by decide +kernel
  l0 := by decide +kernel
  ll := by decide +kernel
  r0 := by decide +kernel
  rl := by decide +kernel
  lr := by decide +kernel
  F := by decide +kernel
  S := fun f hf => by cases hf
  sl := small_lit 9 (by decide)
  sf := small_lit 0 (by decide)
  sr := small_lit 9 (by decide)
  sF := fun f hf => by
    simp only [beam0, List.mem_cons, List.not_mem_nil, or_false] at hf
    rcases hf with rfl | rfl
    · exact ⟨small_lit 3 (by decide), small_lit 3 (by decide)⟩
    · exact ⟨small_lit 6 (by decide), small_lit 3 (by decide)⟩
  sS := fun f hf => by cases hf
  fF := by decide
  fS := by decide
theorem gr_four : Gr gp gq (4 : Rat) := small_gr (small_lit 4 (by decide))
end Go.KI
namespace Go.Proofs.YtpmnhipffkhcpaaGreatDoor
open Go.RowKit Go.KP Go.KI Go.Shelf
attribute [local go_sem] Oper.semAt_some

theorem t52At_T {b : Bm} (hs : BmS b) (m : Nat) (hm : m ≤ 255) (fa : Option Addr) (fc : Nat) (sa : Option Addr) (sc : Nat) (B : Nat) (w : World) (hB : B ≤ w.heap.size) (hT : PQ B w) :
    Calls Tryz.prog 16 #[beamV (T b.len) (T b.lft) (T b.rgt) fa b.F.length fc sa b.S.length sc, .int .u8 (m : Int)] w (Ret w (.tuple #[.string (T (atB b (m % 25))), .bool true])) := by
  have HT := hide hT
  have X0 := hide (heap1 w (beamO (T b.len) (T b.lft) (T b.rgt) fa b.F.length fc sa b.S.length sc))
  obtain ⟨k, hk⟩ : ∃ k, k = m % 25 := ⟨_, rfl⟩
  have hk24 : k ≤ 24 := by omega
  have e1 : ((m : Int) : Int).tmod 25 = (k : Int) := by rw [hk]; rfl
  have H1 := hide (fun w hB hT => qOf_any (k : Int) 24 (by omega) (by omega) (by omega) (by omega) (by omega) B w hB hT)
  rw [Rat.divInt_eq_div, show pairV (ratS (((k : Nat) : Int) / (24 : Int) : Rat)) 0 = .tuple #[.string (T (((k : Nat) : Int) / (24 : Int) : Rat)), .int .i64 0] from rfl] at H1
  have H2 := hide (fun w hB hT => qmul_to (T_list b.len) (T_list (((k : Nat) : Int) / (24 : Int) : Rat)) (smallB_fits hs.sl) (sz_fits (share_sz hk24) (by rw [most_eq]; omega)) (mulC_of (smallB_sz hs.sl) (share_sz hk24) (by rw [most_eq]; omega)) B w hB hT)
  rw [show strB (ratS (b.len * (((k : Nat) : Int) / (24 : Int) : Rat))) = T (atB b k) from rfl] at H2
  rw [← hk]
  generalize T (atB b k) = TR at *
  generalize T (((k : Nat) : Int) / (24 : Int) : Rat) = TK at *
  generalize T b.len = TL at *
  generalize T b.lft = Tl at *
  generalize T b.rgt = Tr at *
  generalize b.F.length = n1 at *
  generalize b.S.length = n2 at *
  have hm0 : (0 : Int) ≤ (m : Int) := by omega
  clear hT hs hk
  go_enter Tryz.func16, Tryz.ntmps16
  go_wp2_with fail
  refine (H1.out _ (Nat.le_trans hB X0.out.2.2.size) (HT.out.on X0.out.2.2 hB)).mono ?_
  rintro e w1 ⟨rfl, hb1⟩
  have G1 := hide (below_blk hb1 X0.out.1 (lt_blk X0.out.1))
  have HB1 := hide (X0.out.2.2.trans (hb1.mono X0.out.2.2.size))
  clear hb1 X0
  have q0 := cell_blk G1.out 0
  have ql := lt_blk G1.out
  go_wp2_with fail
  refine (H2.out _ (Nat.le_trans hB HB1.out.size) (HT.out.on HB1.out hB)).mono ?_
  rintro e w2 ⟨rfl, hb2⟩
  have HB2 := hide (HB1.out.trans (hb2.mono HB1.out.size))
  clear hb2 q0 ql
  go_wp2_with fail
  refine bodyPost_ret (results_tmp2 rfl _ _ _) rfl ?_
  exact ⟨rfl, HB2.out⟩
theorem lit3 : T 3 = ⟨#[51]⟩ := txn (n := 3) rfl (a := [51]) (by decide +kernel)
theorem lit4q : T 4 = ⟨#[52]⟩ := txn (n := 4) rfl (a := [52]) (by decide +kernel)
theorem lit6 : T 6 = ⟨#[54]⟩ := txn (n := 6) rfl (a := [54]) (by decide +kernel)
theorem lit9 : T 9 = ⟨#[57]⟩ := txn (n := 9) rfl (a := [57]) (by decide +kernel)
theorem beam0_left : leftB beam0 = 3 := by decide +kernel
theorem beam0_right : rightB beam0 = 3 := by decide +kernel
theorem beam0_moment : momentB beam0 4 = 9 := by decide +kernel
theorem beam0_shear : shearB beam0 4 = 0 := by decide +kernel
theorem t52awake_any (B : Nat) (w : World) (hB : B ≤ w.heap.size) (hT : PQ B w) :
    Calls Tryz.prog 15 #[] w (Ret w (.bool true)) := by
  have X0 := hide (heap2 w (.cells #[.string (T 3), .string (T 3), .string (T 6), .string (T 3)] 39) (bmO beam0 (some ⟨w.heap.size, 0, none⟩) 2 none 0))
  have HB0 := hide X0.out.2.2.2
  obtain ⟨n0, hn0⟩ : ∃ n, n = w.heap.size + 1 := ⟨_, rfl⟩
  have hT0 := (hT.on HB0.out hB).mono (B2 := n0) (by omega)
  have HT := hide hT0
  have hbm : BeamAt n0 ((w.alloc (.cells #[.string (T 3), .string (T 3), .string (T 6), .string (T 3)] 39)).alloc (bmO beam0 (some ⟨w.heap.size, 0, none⟩) 2 none 0)) (some ⟨w.heap.size, 0, none⟩) none beam0 := by
    refine ⟨fun i hi => ?_, fun i hi => by simp [beam0, TS] at hi⟩
    refine ⟨w.heap.size, 0, rfl, by omega, ?_⟩
    have h2 : i < 2 := hi
    have : i = 0 ∨ i = 1 := by omega
    rcases this with rfl | rfl
    · exact ⟨cell_blk X0.out.1 0, cell_blk X0.out.1 1⟩
    · exact ⟨cell_blk X0.out.1 2, cell_blk X0.out.1 3⟩
  have HBM := hide hbm
  have H1 := hide (fun w hB hT hb => bReactions_T beam0_ok (some ⟨n0 - 1, 0, none⟩) 2 none 0 n0 w hB hT hb)
  have H2 := hide (fun w hB hT hb => bMoment_T beam0_ok gr_four (by decide +kernel) (by decide +kernel) (some ⟨n0 - 1, 0, none⟩) 2 none 0 n0 w hB hT hb)
  have H3 := hide (fun w hB hT hb => bShear_T beam0_ok gr_four (by decide +kernel) (by decide +kernel) (some ⟨n0 - 1, 0, none⟩) 2 none 0 n0 w hB hT hb)
  rw [beam0_left, beam0_right] at H1
  rw [beam0_moment] at H2
  rw [beam0_shear] at H3
  rw [show n0 - 1 = w.heap.size by omega] at H1 H2 H3
  have hmx := mxe3
  have e0 := T0
  have e3 := lit3
  have e4 := lit4q
  have e6 := lit6
  have e9 := lit9
  have hS : n0 ≤ ((w.alloc (.cells #[.string (T 3), .string (T 3), .string (T 6), .string (T 3)] 39)).alloc (bmO beam0 (some ⟨w.heap.size, 0, none⟩) 2 none 0)).heap.size := by
    rw [X0.out.2.2.1]
    omega
  have hbl := X0.out.2.1
  obtain ⟨W0, hW0⟩ : ∃ W, W = (w.alloc (.cells #[.string (T 3), .string (T 3), .string (T 6), .string (T 3)] 39)).alloc (bmO beam0 (some ⟨w.heap.size, 0, none⟩) 2 none 0) := ⟨_, rfl⟩
  rw [← hW0] at HB0 HBM HT hS hbl
  delta bmO at hbl hW0
  rw [show beam0.len = 9 from rfl, show beam0.lft = 0 from rfl, show beam0.rgt = 9 from rfl, show beam0.F.length = 2 from rfl, show beam0.S.length = 0 from rfl] at H1 H2 H3 hbl hW0
  rw [e3, e6, e9, e0] at hW0
  rw [e9, e0] at hbl
  rw [e9, e0, e3] at H1
  rw [e9, e0, e4] at H2
  rw [e9, e0, e4] at H3
  have HBL := hide hbl
  clear e0 e3 e4 e6 e9 hT hT0 hbm X0 hn0 hbl
  have r0 := cell_blk HBL.out 0
  have r1 := cell_blk HBL.out 1
  have r2 := cell_blk HBL.out 2
  have r3 := cell_blk HBL.out 3
  have r4 := cell_blk HBL.out 4
  have rl := lt_blk HBL.out
  go_enter Tryz.func15, Tryz.ntmps15
  go_wp2_with fail
  rw [← hW0]
  clear hW0
  go_wp2_with fail
  refine (H1.out _ hS HT.out HBM.out).mono ?_
  rintro e w1 ⟨rfl, hb1⟩
  have HB1 := hide hb1
  have G1 := hide (below_blk hb1 HBL.out rl)
  clear hb1 r0 r1 r2 r3 r4 rl
  have r0 := cell_blk G1.out 0
  have r1 := cell_blk G1.out 1
  have r2 := cell_blk G1.out 2
  have r3 := cell_blk G1.out 3
  have r4 := cell_blk G1.out 4
  have rl := lt_blk G1.out
  go_wp2_with fail
  refine (H2.out _ (Nat.le_trans hS HB1.out.size) (HT.out.on HB1.out hS) (HBM.out.below HB1.out hS)).mono ?_
  rintro e w2 ⟨rfl, hb2⟩
  have HB2 := hide (HB1.out.trans (hb2.mono HB1.out.size))
  have G2 := hide (below_blk hb2 G1.out rl)
  clear hb2 r0 r1 r2 r3 r4 rl
  have r0 := cell_blk G2.out 0
  have r1 := cell_blk G2.out 1
  have r2 := cell_blk G2.out 2
  have r3 := cell_blk G2.out 3
  have r4 := cell_blk G2.out 4
  have rl := lt_blk G2.out
  go_wp2_with fail
  refine (H3.out _ (Nat.le_trans hS HB2.out.size) (HT.out.on HB2.out hS) (HBM.out.below HB2.out hS)).mono ?_
  rintro e w3 ⟨rfl, hb3⟩
  have HB3 := hide (HB0.out.trans ((HB2.out.trans (hb3.mono HB2.out.size)).mono HB0.out.size))
  clear hb3 r0 r1 r2 r3 r4 rl
  go_wp2_with fail
  go_ret
  exact ⟨rfl, HB3.out⟩
open Go.RowKit Go.KP Go.KI Go.Shelf
attribute [local go_sem] Oper.semAt_some

def SumRes (bs : Nat) (w : World) (x : Rat) (e : Ending) (w' : World) : Prop := (∃ v, e = .returned v) ∧ Only bs w w' ∧ w'.heap[bs]? = some (sumO x)
theorem t52add2 {s a c : Rat} {p q : Nat} (ha : sz p a) (hc : sz q c) (h : p + q ≤ 299) (ss : sz 140 s) (sp : sz 140 (a * c)) (bs b : Nat) (B : Nat) (w : World) (hb : w.heap[bs]? = some (sumO s)) (hr : w.heap[b]? = some (.cells #[.string (T a), .string (T c)] 22 (0, 0))) (hB : B ≤ w.heap.size) (hT : PQ B w) :
    Calls Tryz.prog 18 #[.pointer (some ⟨bs, 0, none⟩), .bool false, .slice (some ⟨b, 0, none⟩) 2 2] w (SumRes bs w (s + a * c)) := by
  obtain ⟨k1, k2, _⟩ := okT2 ha hc h
  have := t52add_T [a, c] (by simp) k1 ss (by rw [k2]; exact sp) bs b B w hb (nums2b hr) hB hT
  rw [k2] at this
  exact this
theorem t52sub2 {s a c : Rat} {p q : Nat} (ha : sz p a) (hc : sz q c) (h : p + q ≤ 299) (ss : sz 140 s) (sp : sz 140 (a * c)) (bs b : Nat) (B : Nat) (w : World) (hb : w.heap[bs]? = some (sumO s)) (hr : w.heap[b]? = some (.cells #[.string (T a), .string (T c)] 22 (0, 0))) (hB : B ≤ w.heap.size) (hT : PQ B w) :
    Calls Tryz.prog 18 #[.pointer (some ⟨bs, 0, none⟩), .bool true, .slice (some ⟨b, 0, none⟩) 2 2] w (SumRes bs w (s - a * c)) := by
  obtain ⟨k1, k2, _⟩ := okT2 ha hc h
  have := t52sub_T [a, c] (by simp) k1 ss (by rw [k2]; exact sp) bs b B w hb (nums2b hr) hB hT
  rw [k2] at this
  exact this
theorem t52sub3 {s a c d : Rat} {p q r : Nat} (ha : sz p a) (hc : sz q c) (hd : sz r d) (h : p + q + r ≤ 299) (ss : sz 140 s) (sp : sz 140 (a * c * d)) (bs b : Nat) (B : Nat) (w : World) (hb : w.heap[bs]? = some (sumO s)) (hr : w.heap[b]? = some (.cells #[.string (T a), .string (T c), .string (T d)] 22 (0, 0))) (hB : B ≤ w.heap.size) (hT : PQ B w) :
    Calls Tryz.prog 18 #[.pointer (some ⟨bs, 0, none⟩), .bool true, .slice (some ⟨b, 0, none⟩) 3 3] w (SumRes bs w (s - a * c * d)) := by
  obtain ⟨k1, k2, _⟩ := okT3 ha hc hd h
  have := t52sub_T [a, c, d] (by simp) k1 ss (by rw [k2]; exact sp) bs b B w hb (nums3 hr) hB hT
  rw [k2] at this
  exact this
end Go.Proofs.YtpmnhipffkhcpaaGreatDoor
