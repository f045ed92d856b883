/-
  Integers: Gcd of long numbers walked; Gcd at good texts.
-/
import Derived.Test.YthkioajalhglfaaGreatDoorQf
import Derived.Test.YthkioajalhglfaaGreatDoorPr
namespace Go.Proofs.YthkioajalhglfaaGreatDoor
open Go.RowKit Go.KP Go.KI Go.Shelf
attribute [local go_sem] Oper.semAt_some

theorem valS_abs (m : Bool) (n : Nat) : (valS m n).natAbs = n := by cases m <;> simp [valS]
theorem field_limbs (m : Bool) (v : Value) (w : World) : (Instr.field 48 (numV m v) 1).run Tryz.prog w = .ok v w := by kernel_rfl
/-- The limbs that a slice value shows. -/
def limbsAt (w : World) : Value → List Nat
  | .slice (some ⟨b, o, none⟩) n _ => (List.range n).map fun i => match w.cell? ⟨b, o + i, none⟩ with
    | some (.int _ z) => z.toNat
    | _ => 0
  | _ => []
theorem limbsAt_eq {B : Nat} {w : World} {v : Value} {l : List Nat} (h : LimbAt B w v l) : limbsAt w v = l := by
  rcases h.cases with ⟨a, c, rfl, rfl⟩ | ⟨b, o, cap, rfl, _, hc⟩
  · unfold limbsAt
    split
    · rename_i h1
      injection h1 with h2 h3 h4
      rw [← h3]
      rfl
    · rfl
  · show (List.range l.length).map _ = l
    apply List.ext_getElem?
    intro i
    rw [List.getElem?_map]
    by_cases hi : i < l.length
    · rw [List.getElem?_range hi, lat_some hi]
      simp only [Option.map_some, hc i hi, Int.toNat_natCast]
    · rw [List.getElem?_eq_none (by simpa using hi), List.getElem?_eq_none (by omega)]
      rfl
set_option maxRecDepth 100000 in
set_option maxHeartbeats 4000000 in
theorem Gcd_long (s t : ByteArray) (B : Nat) (w : World) (c1 : chkI s.data.toList = 0) (c2 : chkI t.data.toList = 0) (hl : ¬ (s.size ≤ 18 ∧ t.size ≤ 18)) (hB : B ≤ w.heap.size) (hT : P10 B w) :
    Calls Tryz.prog 19 #[.string s, .string t] w (Ret w (pairV (resS ((Nat.gcd (valI s.data.toList).natAbs (valI t.data.toList).natAbs : Nat) : Int)) (resE ((Nat.gcd (valI s.data.toList).natAbs (valI t.data.toList).natAbs : Nat) : Int)))) := by
  have l1' := (chk_digs c1).2
  have l2' := (chk_digs c2).2
  rw [bytes_len] at l1' l2'
  have H1 := hide (both_any s t (by omega) (by omega) w)
  have hb0 : bothI s.data.toList t.data.toList = 0 := by unfold bothI; rw [if_pos c1, c2]
  rw [hb0] at H1
  have HT := hide hT
  have H2 := hide (fun w => small_no s t hl w)
  have R1 := hide (fun w => read_good s c1 w)
  have R2 := hide (fun w => read_good t c2 w)
  obtain ⟨G, hG⟩ : ∃ G, G = Nat.gcd (valI s.data.toList).natAbs (valI t.data.toList).natAbs := ⟨_, rfl⟩
  rw [← hG]
  have HG := hide hG
  clear c1 c2 hl hT hb0 l1' l2' hG
  go_enter Tryz.func19, Tryz.ntmps19
  go_wp2_with fail
  refine H1.out.mono ?_
  rintro e w1 ⟨rfl, hb1⟩
  have HB1 := hide hb1
  clear hb1 H1
  go_wp2_with fail
  refine (H2.out _).mono ?_
  rintro e w2 ⟨rfl, hb2⟩
  have HB2 := hide (HB1.out.trans (hb2.mono HB1.out.size))
  clear hb2 H2 HB1
  go_wp2_with fail
  refine (R1.out _).mono ?_
  rintro e w3 ⟨m1, a1, l1, rfl, hb3, o1, n1, q1, k1⟩
  have HB3 := hide (HB2.out.trans (hb3.mono HB2.out.size))
  have O1 := hide o1; have N1 := hide n1; have Q1 := hide q1
  obtain ⟨av1, cv1, hvf, _, _⟩ := o1.form
  subst hvf
  clear hb3 HB2 R1 o1 n1 q1
  have hf1 := fun w => field_limbs m1 (.slice av1 l1.length cv1) w
  go_wp2_with fail
  clear hf1
  refine (R2.out _).mono ?_
  rintro e w4 ⟨m2, a2, l2, rfl, hb4, o2, n2, q2, k2⟩
  have HB4 := hide (HB3.out.trans (hb4.mono HB3.out.size))
  have O1' := hide (O1.out.keep hb4)
  have O2 := hide o2; have N2 := hide n2; have Q2 := hide q2
  obtain ⟨av2, cv2, hvf, _, _⟩ := o2.form
  subst hvf
  clear hb4 HB3 R2 o2 n2 q2 O1
  have hf2 := fun w => field_limbs m2 (.slice av2 l2.length cv2) w
  have HG2 := hide (show Nat.gcd (lv 1000000000 l1) (lv 1000000000 l2) = G by
    rw [HG.out, ← Q1.out, ← Q2.out, valS_abs, valS_abs])
  go_wp2_with fail
  clear hf2
  go_loopw [10, 11] (fun p q wr => ∃ (ap : Option Addr) (cp : Nat) (aq : Option Addr) (cq : Nat) (x y : List Nat), p = .slice ap x.length cp ∧ q = .slice aq y.length cq ∧ x.length ≤ 40 ∧ y.length ≤ 40 ∧ Hid (LimbAt wr.heap.size wr (.slice ap x.length cp) x ∧ LimbAt wr.heap.size wr (.slice aq y.length cq) y ∧ Norm 1000000000 x ∧ Norm 1000000000 y ∧ Nat.gcd (lv 1000000000 x) (lv 1000000000 y) = G ∧ Below w.heap.size w wr)) (fun _ q wr => lv 1000000000 (limbsAt wr q))
  case atStart => exact ⟨av1, cv1, av2, cv2, l1, l2, rfl, rfl, k1, k2, LimbAt.of_own O1'.out, LimbAt.of_own O2.out, N1.out, N2.out, HG2.out, HB4.out⟩
  case round =>
    clear k1 k2
    obtain ⟨ap, cp, aq, cq, x, y, rfl, rfl, hx, hy, hin⟩ := hrel
    have I1 := hide hin.out.1; have I2 := hide hin.out.2.1; have N3 := hide hin.out.2.2.1; have N4 := hide hin.out.2.2.2.1; have GG := hide hin.out.2.2.2.2.1; have HBW := hide hin.out.2.2.2.2.2
    clear hin
    by_cases hy0 : y = []
    · subst hy0
      have hz : valS false (lv 1000000000 x) = (G : Int) := by
        have := GG.out
        rw [lv_nil, Nat.gcd_zero_right] at this
        rw [this]
        rfl
      have HR := hide (result_any false (.slice ap x.length cp) x wr.heap.size wr I1.out (Nat.le_refl _) N3.out (by omega) ((HT.out.on HBW.out hB).mono (Nat.le_trans hB HBW.out.size)))
      rw [hz] at HR
      clear hz
      go_wp2_with fail
      refine HR.out.mono ?_
      rintro e w5 ⟨rfl, hb5⟩
      have HB5 := hide (HBW.out.trans (hb5.mono HBW.out.size))
      clear hb5 HR
      go_wp2_with fail
      refine bodyPost_ret (results_tmp2 rfl _ _ _) rfl ?_
      exact ⟨rfl, HB5.out⟩
    · have hyl : 0 < (y.length : Int) := by
        have := List.length_pos_iff.2 hy0
        omega
      have HD := hide (divide_any (.slice ap x.length cp) (.slice aq y.length cq) x y wr.heap.size wr I1.out I2.out (Nat.le_refl _) N3.out N4.out hy0 (by omega) (by omega))
      have hyp : 0 < lv 1000000000 y := by
        rcases Nat.eq_zero_or_pos (lv 1000000000 y) with h | h
        · exact absurd ((N4.out.zero (by omega)).1 h) hy0
        · exact h
      have HYP := hide hyp
      clear hy0 hyp
      go_wp2_with fail
      refine HD.out.mono ?_
      rintro e w5 ⟨vq, vr, q, r, rfl, hb5, oq, or_, nq, nr, eq, er, lq, lr⟩
      obtain ⟨ar, cr, hvf⟩ := or_.form
      subst hvf
      have hrlt : lv 1000000000 r < lv 1000000000 y := by rw [er]; exact Nat.mod_lt _ HYP.out
      have hrl : r.length ≤ 40 := by
        have := norm_le nr N4.out.lt (Nat.le_of_lt hrlt)
        omega
      have HB5 := hide (HBW.out.trans (hb5.mono HBW.out.size))
      have J2 := hide ((I2.out.below hb5 (Nat.le_refl _)).mono hb5.size)
      have HE := hide (show Nat.gcd (lv 1000000000 y) (lv 1000000000 r) = G by rw [er, ← GG.out, Nat.gcd_comm (lv 1000000000 y), ← Nat.gcd_rec, Nat.gcd_comm])
      have OR := hide or_; have NR := hide nr; have HLT := hide hrlt
      clear hb5 oq or_ nq nr eq er lq lr HD hrlt
      go_wp2_with fail
      go_roundw
      case rel => exact ⟨aq, cq, ar, cr, y, r, rfl, rfl, hy, hrl, J2.out, OR.out, N4.out, NR.out, HE.out, HB5.out⟩
      case measure =>
        rw [limbsAt_eq OR.out, limbsAt_eq I2.out]
        exact HLT.out
/-- Gcd at good texts. -/
theorem Gcd_to {s t r : ByteArray} {x y : Int} (h1 : s.data.toList = Lib.itoa x) (h2 : t.data.toList = Lib.itoa y) (h3 : r.data.toList = Lib.itoa ((Nat.gcd x.natAbs y.natAbs : Nat) : Int)) (f1 : fits x) (f2 : fits y) (B : Nat) (w : World) (hB : B ≤ w.heap.size) (hT : P10 B w) :
    Calls Tryz.prog 19 #[.string s, .string t] w (Ret w (pairT r)) := by
  have c1 : chkI s.data.toList = 0 := by rw [h1]; exact chk_fits f1
  have c2 : chkI t.data.toList = 0 := by rw [h2]; exact chk_fits f2
  have ff : fits ((Nat.gcd x.natAbs y.natAbs : Nat) : Int) := by
    rcases Nat.eq_zero_or_pos x.natAbs with h0 | h0
    · rw [h0, Nat.gcd_zero_left]
      exact fits_of_le f2 (by omega)
    · exact fits_of_le f1 (by rw [Int.natAbs_natCast]; exact Nat.gcd_le_left _ h0)
  by_cases hl : s.size ≤ 18 ∧ t.size ≤ 18
  · have e := Gcd_small s t B w c1 c2 hl.1 hl.2 hB hT
    rw [h1, h2, val_itoa, val_itoa, pairV, strB_eq h3] at e
    exact e
  · have e := Gcd_long s t B w c1 c2 hl hB hT
    rw [h1, h2, val_itoa, val_itoa, pairV, (res_fit ff).1, (res_fit ff).2, strB_eq h3] at e
    exact e
end Go.Proofs.YthkioajalhglfaaGreatDoor
