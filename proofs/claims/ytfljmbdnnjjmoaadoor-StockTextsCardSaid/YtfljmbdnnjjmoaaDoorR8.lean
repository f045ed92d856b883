/-
  Print, the program's where bars are not valid, the reference's: the walks. Fits with its errors.
-/
import Derived.Test.YtfljmbdnnjjmoaaDoorR7
namespace Go.Proofs.YtfljmbdnnjjmoaaDoor
open Go.RowKit Go.KP Go.Shelf

theorem fits_res_any (wd dp ln ct cs k : Int) (gv : Value) (gs : List (Int × Int)) (A : Option Addr) (n c : Nat) (ls : List Int) (B : Nat) (w : World) (hg : SlAt B w 2 gv gs.length (pcells gs)) (hB : B ≤ w.heap.size) (hn : ls.length = n) (hls : IntsIn B w A n ls) :
    Calls Tryd.prog 17 #[barV wd dp ln ct cs gv, .slice A n c, .int .i64 k] w (RetEx w (FitsRes (chk wd dp ln ct cs gs) k ln gs ls)) := by
  by_cases he : fitErr (chk wd dp ln ct cs gs) k ls = 0
  · have he2 := he
    unfold fitErr at he2
    split at he2
    · rename_i hke
      split at he2
      · cases he2
      · rename_i h64
        split at he2
        · cases he2
        · rename_i hany
          have hke2 := hke
          unfold kerfErr at hke2
          split at hke2
          · rename_i hc
            split at hke2
            · rename_i hk
              refine (fits_ok wd dp ln ct cs k gv gs A n c ls B w hg hB hn hls hc (btw_iff.1 hk).1 (btw_iff.1 hk).2 (by omega) (by simpa using hany)).mono ?_
              rintro e w' ⟨r, rfl, hb, v, rfl, hv⟩
              have his : fitsIs (chk wd dp ln ct cs gs) k ln gs ls = (fits k (parts ln gs) ls).2.isEmpty := by unfold fitsIs; rw [he]; simp
              refine ⟨_, rfl, hb, v, by rw [his, he], ?_⟩
              unfold fitsL
              rw [his]
              cases hX : (fits k (parts ln gs) ls).2.isEmpty with
              | true =>
                rw [hX] at hv
                exact SlAt.of_owns hv
              | false =>
                rw [hX] at hv
                simp only [Bool.false_eq_true, if_false] at hv
                rw [hv]
                exact SlAt.nil _ _ _
            · cases hke2
          · cases hke2
    · rename_i hke
      exact absurd he2 hke
  · refine (fits_err wd dp ln ct cs k gv gs A n c ls B w hg hB hn hls he).mono ?_
    rintro e w' ⟨rfl, hb⟩
    exact ⟨_, rfl, hb, fitsRes_err rfl he w'⟩

def printS (l : List Br) : ByteArray := if chks l = 0 then ⟨(brText l).toArray⟩ else ⟨#[]⟩
def printE (l : List Br) : Int := if chks l = 0 then 0 else 1
theorem print_all (v : Value) (l : List Br) (B : Nat) (w : World) (hg : BarsAt B w v l) (hB : B ≤ w.heap.size) (hT : P10 B w) :
    Calls Tryd.prog 39 #[v] w (Ret w (.tuple #[.string (printS l), .int .i64 (printE l)])) := by
  by_cases hz : chks l = 0
  · have h := print_any v l B w hg hB hT hz
    have e1 : printS l = ⟨(brText l).toArray⟩ := by unfold printS; rw [if_pos hz]
    have e2 : printE l = 0 := by unfold printE; rw [if_pos hz]
    rw [e1, e2]
    exact h
  · have e1 : printS l = ⟨#[]⟩ := by unfold printS; rw [if_neg hz]
    have e2 : printE l = 1 := by unfold printE; rw [if_neg hz]
    have hzz : (chks l != 0) = true := by simpa using hz
    have HC := hide (checks_any v l B w hg hB)
    obtain ⟨ga, gc, hgv⟩ := SlAt.form hg.1
    subst hgv
    rw [e1, e2]
    clear hz e1 e2 hg hT
    go_enter Tryd.func39, Tryd.ntmps39
    go_wp2_with fail
    refine HC.out.mono ?_
    rintro e w1 ⟨rfl, hb1⟩
    have HB1 := hide hb1
    clear hb1 HC
    go_wp2_with fail
    go_ret2
    exact ⟨rfl, HB1.out⟩

/-- A gap as the reference prints it. -/
def gapL (g : Int × Int) : List UInt8 := 32 :: (Lib.itoa g.1 ++ 45 :: Lib.itoa g.2)
def brHead (b : Br) : List UInt8 := Lib.itoa b.wd ++ (32 :: Lib.itoa b.dp ++ (32 :: Lib.itoa b.ln ++ (32 :: Lib.itoa b.ct ++ (32 :: Lib.itoa b.cs))))
theorem brLine_eq (b : Br) : brLine b = brHead b ++ b.gs.flatMap gapL ++ [10] := by
  unfold brLine brWords
  simp only [List.cons_append, List.nil_append, List.map_cons, List.map_map]
  rw [Lib.join_cons]
  have key : ∀ gs : List (Int × Int), Lib.joinTail [32] (gs.map ((fun x : ByteArray => x.data.toList) ∘ fun g => itoaB g.1 ++ ⟨#[45]⟩ ++ itoaB g.2)) = gs.flatMap gapL := by
    intro gs
    induction gs with
    | nil => rfl
    | cons g r ih =>
      simp only [Lib.joinTail, List.map_cons, List.flatten_cons, List.flatMap_cons] at ih ⊢
      rw [ih]
      simp [gapL, itoaB, ByteArray.data_append]
  have h2 := key b.gs
  simp only [Lib.joinTail, List.map_cons, List.flatten_cons, brHead] at h2 ⊢
  rw [h2]
  simp [itoaB]
theorem brText_succ (l : List Br) (k : Nat) (h : k < l.length) : brText (l.take (k + 1)) = brText (l.take k) ++ (brHead (bAt l k) ++ (bAt l k).gs.flatMap gapL ++ [10]) := by
  have e : bAt l k = l[k] := by simp [bAt, h]
  unfold brText
  rw [List.take_succ_eq_append_getElem h, List.flatMap_append, e, ← brLine_eq]
  simp only [List.flatMap_cons, List.flatMap_nil, List.append_nil]
theorem gapsL_succ (gs : List (Int × Int)) (j : Nat) (h : j < gs.length) : (gs.take (j + 1)).flatMap gapL = (gs.take j).flatMap gapL ++ (32 :: (Lib.itoa (gF gs j) ++ 45 :: Lib.itoa (gT gs j))) := by
  rw [List.take_succ_eq_append_getElem h, List.flatMap_append]
  simp [gapL, gF, gT, h]

/-- Bytes that read as a list. -/
theorem bytes_eq {s : ByteArray} {l : List UInt8} (h : s.data.toList = l) : s = ⟨l.toArray⟩ := by
  subst h
  rfl
theorem itoaB_list (n : Int) : (itoaB n).data.toList = Lib.itoa n := rfl

set_option maxRecDepth 100000 in
theorem brText_take_le {l : List Br} (h : ∀ i, i < l.length → (bAt l i).chk = 0) (k : Nat) : (brText (l.take k)).length ≤ l.length * 925 := by
  have h1 := brText_le (l.take k) (fun i hi => by
    have h2 : i < l.length := by simp at hi; omega
    have h3 := h i h2
    simpa [bAt, List.getElem?_take, show i < k by simp at hi; omega] using h3)
  have h2 : (l.take k).length ≤ l.length := by simp; omega
  have h3 : (l.take k).length * 925 ≤ l.length * 925 := Nat.mul_le_mul_right _ h2
  omega
theorem bytes_size {s : ByteArray} {l : List UInt8} (h : s.data.toList = l) : s.size = l.length := by
  subst h
  rfl
set_option maxRecDepth 100000 in
set_option maxHeartbeats 2000000 in
theorem rprint_all (v : Value) (l : List Br) (B : Nat) (w : World) (hg : BarsAt B w v l) (hB : B ≤ w.heap.size) (hT : P10 B w) (hl : l.length ≤ 66) :
    Calls Tryd.prog 40 #[v] w (Ret w (.tuple #[.string (printS l), .int .i64 (printE l)])) := by
  have HC := hide (rchecks_any v l B w hg hB)
  obtain ⟨ga, gc, hgv⟩ := SlAt.form hg.1
  subst hgv
  have HG := hide hg; have HT := hide hT
  clear hg hT
  by_cases hz : chks l = 0
  · have e1 : printS l = ⟨(brText l).toArray⟩ := by unfold printS; rw [if_pos hz]
    have e2 : printE l = 0 := by unfold printE; rw [if_pos hz]
    rw [e1, e2]
    have hall := (chks_zero.1 hz).2
    have HZ := hide hz; have HALL := hide hall
    clear e1 e2 hz hall
    go_enter Tryd.func40, Tryd.ntmps40
    go_wp2_with fail
    refine HC.out.mono ?_
    rintro e w1 ⟨rfl, hb1⟩
    have HB1 := hide hb1
    have hs1 := hb1.size
    rw [HZ.out]
    clear hb1 HC
    go_wp2_with fail
    go_loopw [4, 5] (fun s i wr => ∃ (k : Nat) (sb : ByteArray), k ≤ l.length ∧ i = .int .i64 k ∧ s = .string sb ∧ Hid (sb.data.toList = brText (l.take k) ∧ Below w.heap.size w wr)) (fun _ i _ => l.length - (intOf i).toNat)
    case atStart => exact ⟨0, ⟨#[]⟩, Nat.zero_le _, rfl, rfl, rfl, HB1.out⟩
    case round =>
      obtain ⟨k, sb, hk, rfl, rfl, hin⟩ := hrel
      have hsz := hin.out.2.size
      by_cases hlt : k < l.length
      · rcases (HG.out.below hin.out.2 hB).rows with ⟨_, _, _, h0⟩ | ⟨bb, o, cap, hv, hb, hc⟩
        · rw [h0] at hlt
          simp at hlt
        cases hv
        obtain ⟨x1, x2, x3, x4, x5, x6⟩ := hc k hlt
        obtain ⟨gb, gd, hgv⟩ := SlAt.form (HG.out.2 k hlt)
        rw [hgv] at x6
        have hgk := HG.out.2 k hlt
        rw [hgv] at hgk
        have HCK := hide (HALL.out k hlt); have HGK := hide hgk
        have hsbl : sb.size ≤ 66 * 925 := by
          have h1 := bytes_size hin.out.1
          have h2 := brText_take_le HALL.out k
          have h3 : l.length * 925 ≤ 66 * 925 := Nat.mul_le_mul_right _ hl
          omega
        have e3 : (k : Int) < l.length := by omega
        have hbb : bb < wr.heap.size := by omega
        obtain ⟨wd, hwd⟩ : ∃ f, f = (bAt l k).wd := ⟨_, rfl⟩
        obtain ⟨dp, hdp⟩ : ∃ f, f = (bAt l k).dp := ⟨_, rfl⟩
        obtain ⟨ln, hln⟩ : ∃ f, f = (bAt l k).ln := ⟨_, rfl⟩
        obtain ⟨ct, hct⟩ : ∃ f, f = (bAt l k).ct := ⟨_, rfl⟩
        obtain ⟨cs, hcs⟩ : ∃ f, f = (bAt l k).cs := ⟨_, rfl⟩
        obtain ⟨gs, hgs⟩ : ∃ f, f = (bAt l k).gs := ⟨_, rfl⟩
        obtain ⟨⟨z1, z2⟩, ⟨z3, z4⟩, ⟨z5, z6⟩, ⟨z7, z8⟩, ⟨z9, z10⟩⟩ := chk_head HCK.out
        have hgapb := fun i hi => chk_gap HCK.out i hi
        have hhead : brHead (bAt l k) = Lib.itoa wd ++ (32 :: Lib.itoa dp ++ (32 :: Lib.itoa ln ++ (32 :: Lib.itoa ct ++ (32 :: Lib.itoa cs)))) := by rw [hwd, hdp, hln, hct, hcs]; rfl
        have hg16 := (chk_zero.1 HCK.out).2.1
        rw [← hwd] at x1 z1 z2
        rw [← hdp] at x2 z3 z4
        rw [← hln] at x3 z5 z6
        rw [← hct] at x4 z7 z8
        rw [← hcs] at x5 z9 z10
        rw [← hgs] at x6 hgk hgapb hg16
        have hsucc := brText_succ l k hlt
        rw [hhead, ← hgs] at hsucc
        have HSU := hide hsucc; have HGK := hide hgk; have HGB := hide hgapb
        clear hc hgv hgk hwd hdp hln hct hcs hgs hhead hgapb hsucc
        go_wp2_with fail
        obtain ⟨g1, g2, g3⟩ := heap1 wr (.cells #[.int .i64 wd, .int .i64 dp, .int .i64 ln, .int .i64 ct, .int .i64 cs, .slice gb gs.length gd] 24)
        obtain ⟨w2, hw2⟩ : ∃ w2, wr.alloc (.cells #[.int .i64 wd, .int .i64 dp, .int .i64 ln, .int .i64 ct, .int .i64 cs, .slice gb gs.length gd] 24) = w2 := ⟨_, rfl⟩
        rw [hw2] at g1 g2 g3 ⊢
        have hB2 := hin.out.2.trans (g3.mono hsz)
        have hT2 := HT.out.on (hB2.mono hB)
        have hx : ∀ x : Of (Below (wr.heap.size + 1) w2), ∀ o, x.w.cell? ⟨wr.heap.size, o, none⟩ = w2.cell? ⟨wr.heap.size, o, none⟩ := fun x o => x.h.cell (p := ⟨wr.heap.size, o, none⟩) (by simp)
        have hc0 := fun o => cell_blk g1 o
        have hlt2 : ∀ x : Of (Below (wr.heap.size + 1) w2), wr.heap.size < x.w.heap.size := fun x => by have := x.h.size; omega
        have hi1 := fun x => itoa_cls wd (by omega) (by omega) B (wr.heap.size + 1) w2 hT2 (by omega) (by omega) x
        have hi2 := fun x => itoa_cls dp (by omega) (by omega) B (wr.heap.size + 1) w2 hT2 (by omega) (by omega) x
        have hi3 := fun x => itoa_cls ln (by omega) (by omega) B (wr.heap.size + 1) w2 hT2 (by omega) (by omega) x
        have hi4 := fun x => itoa_cls ct (by omega) (by omega) B (wr.heap.size + 1) w2 hT2 (by omega) (by omega) x
        have hi5 := fun x => itoa_cls cs (by omega) (by omega) B (wr.heap.size + 1) w2 hT2 (by omega) (by omega) x
        have u1 := itoaB_size wd (by omega) (by omega)
        have u2 := itoaB_size dp (by omega) (by omega)
        have u3 := itoaB_size ln (by omega) (by omega)
        have u4 := itoaB_size ct (by omega) (by omega)
        have u5 := itoaB_size cs (by omega) (by omega)
        have HI1 := hide hi1; have HI2 := hide hi2; have HI3 := hide hi3; have HI4 := hide hi4; have HI5 := hide hi5; have HG1 := hide g1; have HB2 := hide hB2; have HT2 := hide hT2
        have t1 : (9223372036854775807 < sb.size + (itoaB wd).size) = False := eq_false (by omega)
        have t2 : (9223372036854775807 < sb.size + (itoaB wd).size + 1) = False := eq_false (by omega)
        have t3 : (9223372036854775807 < sb.size + (itoaB wd).size + 1 + (itoaB dp).size) = False := eq_false (by omega)
        have t4 : (9223372036854775807 < sb.size + (itoaB wd).size + 1 + (itoaB dp).size + 1) = False := eq_false (by omega)
        have t5 : (9223372036854775807 < sb.size + (itoaB wd).size + 1 + (itoaB dp).size + 1 + (itoaB ln).size) = False := eq_false (by omega)
        have t6 : (9223372036854775807 < sb.size + (itoaB wd).size + 1 + (itoaB dp).size + 1 + (itoaB ln).size + 1) = False := eq_false (by omega)
        have t7 : (9223372036854775807 < sb.size + (itoaB wd).size + 1 + (itoaB dp).size + 1 + (itoaB ln).size + 1 + (itoaB ct).size) = False := eq_false (by omega)
        have t8 : (9223372036854775807 < sb.size + (itoaB wd).size + 1 + (itoaB dp).size + 1 + (itoaB ln).size + 1 + (itoaB ct).size + 1) = False := eq_false (by omega)
        have t9 : (9223372036854775807 < sb.size + (itoaB wd).size + 1 + (itoaB dp).size + 1 + (itoaB ln).size + 1 + (itoaB ct).size + 1 + (itoaB cs).size) = False := eq_false (by omega)
        clear hw2 x1 x2 x3 x4 x5 x6 hi1 hi2 hi3 hi4 hi5 g1 g3 hT2 hB2 z1 z2 z3 z4 z5 z6 z7 z8 z9 z10
        refine region_prefix (C := Cls (Below (wr.heap.size + 1) w2)) 26 (by kernel_rfl) (by decide) (by kernel_rfl) (by kernel_rfl) (by kernel_rfl) (by kernel_rfl) (Cls.mk (Below.refl _ _).drew) ?_
        simp only [List.take_succ_cons, List.take_zero, List.drop_succ_cons, List.drop_zero]
        repeat (go_big_quiet_step (first | exact HI1.out _ | exact HI2.out _ | exact HI3.out _ | exact HI4.out _ | exact HI5.out _))
        refine wpQuiet_nil ?_
        intro w3 hcl3
        have hb3 := hcl3.out
        have hs3 : w2.heap.size ≤ w3.heap.size := hb3.size
        obtain ⟨S0, hS0⟩ : ∃ S0, S0 = sb ++ itoaB wd ++ ⟨#[32]⟩ ++ itoaB dp ++ ⟨#[32]⟩ ++ itoaB ln ++ ⟨#[32]⟩ ++ itoaB ct ++ ⟨#[32]⟩ ++ itoaB cs := ⟨_, rfl⟩
        rw [← hS0]
        have hS0l : S0.data.toList = sb.data.toList ++ (Lib.itoa wd ++ (32 :: Lib.itoa dp ++ (32 :: Lib.itoa ln ++ (32 :: Lib.itoa ct ++ (32 :: Lib.itoa cs))))) := by
          rw [hS0]
          simp [ByteArray.data_append, itoaB]
        have hS0s : S0.size ≤ 62000 := by
          rw [hS0]
          simp only [ByteArray.size_append]
          have q1 : (⟨#[32]⟩ : ByteArray).size = 1 := rfl
          rw [q1]
          omega
        have k3 := below_blk hb3 HG1.out (by omega)
        have K3 := hide k3; have HB3 := hide hb3; have HS0 := hide hS0l
        clear hcl3 hb3 k3 hS0 hS0l hx hc0 hlt2 t1 t2 t3 t4 t5 t6 t7 t8 t9 u1 u2 u3 u4 u5 HI1 HI2 HI3 HI4 HI5
        obtain ⟨wo, hwo⟩ : ∃ wo, wo = wr := ⟨_, rfl⟩
        subst hwo
        have hBo : B ≤ wo.heap.size := by omega
        go_wp2_with fail
        go_loopw [4, 7] (fun s i wr => ∃ (j : Nat) (sv : ByteArray), j ≤ gs.length ∧ i = .int .i64 j ∧ s = .string sv ∧ sv.size ≤ 62000 + j * 44 ∧ Hid (sv.data.toList = S0.data.toList ++ (gs.take j).flatMap gapL ∧ Below (wo.heap.size + 1) w3 wr)) (fun _ i _ => gs.length - (intOf i).toNat)
        case atStart => exact ⟨0, S0, Nat.zero_le _, rfl, rfl, by omega, by simp, Below.refl _ _⟩
        case round =>
          obtain ⟨j, sv, hj, rfl, rfl, hsv, hin2⟩ := hrel
          have hsz4 := hin2.out.2.size
          have K4 := hide (below_blk hin2.out.2 K3.out (by omega))
          have c4 := cell_blk K4.out 5
          have l4 := lt_blk K4.out
          simp at c4
          have HBW := hide (HB3.out.trans (hin2.out.2.mono (Nat.le_refl _)))
          have HBB := hide (HB2.out.trans (HBW.out.mono (show w.heap.size ≤ wo.heap.size + 1 by omega)))
          by_cases hltg : j < gs.length
          · have hgk := (HGK.out.below HBB.out hB)
            rcases hgk.pairs with ⟨_, _, _, h0⟩ | ⟨b2, o2, cap2, hv2, hb2, hc2⟩
            · rw [h0] at hltg
              simp at hltg
            cases hv2
            obtain ⟨q1, q2⟩ := hc2 j hltg
            obtain ⟨p1, p2, p3⟩ := HGB.out j hltg
            have hgs := gapsL_succ gs j hltg
            obtain ⟨f, hf⟩ : ∃ f, f = gF gs j := ⟨_, rfl⟩
            obtain ⟨t, ht⟩ : ∃ t, t = gT gs j := ⟨_, rfl⟩
            rw [← hf] at q1 p1 p2 hgs
            rw [← ht] at q2 p2 p3 hgs
            have HGS := hide hgs
            have hT4 := HT.out.on (HBB.out.mono hB)
            have hx : ∀ x : Of (Below (wo.heap.size + 1) wr), x.w.cell? ⟨wo.heap.size, 5, none⟩ = some (.slice (some ⟨b2, o2, none⟩) gs.length gd) := fun x => (x.h.cell (p := ⟨wo.heap.size, 5, none⟩) (by simp)).trans c4
            have hx1 : ∀ x : Of (Below (wo.heap.size + 1) wr), x.w.cell? ⟨b2, o2 + j * 2, none⟩ = some (.int .i64 f) := fun x => (x.h.cell (p := ⟨b2, o2 + j * 2, none⟩) (show b2 < wo.heap.size + 1 by omega)).trans q1
            have hx2 : ∀ x : Of (Below (wo.heap.size + 1) wr), x.w.cell? ⟨b2, o2 + j * 2 + 1, none⟩ = some (.int .i64 t) := fun x => (x.h.cell (p := ⟨b2, o2 + j * 2 + 1, none⟩) (show b2 < wo.heap.size + 1 by omega)).trans q2
            have hlt2 : ∀ x : Of (Below (wo.heap.size + 1) wr), wo.heap.size < x.w.heap.size := fun x => by have := x.h.size; omega
            have hlt3 : ∀ x : Of (Below (wo.heap.size + 1) wr), b2 < x.w.heap.size := fun x => by have := x.h.size; omega
            have hi1 := fun x => itoa_cls f (by omega) (by omega) B (wo.heap.size + 1) wr hT4 (by omega) (by omega) x
            have hi2 := fun x => itoa_cls t (by omega) (by omega) B (wo.heap.size + 1) wr hT4 (by omega) (by omega) x
            have u1 := itoaB_size f (by omega) (by omega)
            have u2 := itoaB_size t (by omega) (by omega)
            have HI1 := hide hi1; have HI2 := hide hi2
            have t1 : (9223372036854775807 < sv.size + 1) = False := eq_false (by omega)
            have t2 : (9223372036854775807 < sv.size + 1 + (itoaB f).size) = False := eq_false (by omega)
            have t3 : (9223372036854775807 < sv.size + 1 + (itoaB f).size + 1) = False := eq_false (by omega)
            have t4 : (9223372036854775807 < sv.size + 1 + (itoaB f).size + 1 + (itoaB t).size) = False := eq_false (by omega)
            have e4 : (j : Int) < (gs.length : Int) := by omega
            clear hgk hc2 q1 q2 p1 p2 p3 hf ht hgs hT4 hi1 hi2
            go_wp2_with fail
            refine region_prefix (C := Cls (Below (wo.heap.size + 1) wr)) 20 (by kernel_rfl) (by decide) (by kernel_rfl) (by kernel_rfl) (by kernel_rfl) (by kernel_rfl) (Cls.mk (Below.refl _ _).drew) ?_
            simp only [List.take_succ_cons, List.take_zero, List.drop_succ_cons, List.drop_zero]
            repeat (go_big_quiet_step (first | exact HI1.out _ | exact HI2.out _))
            refine wpQuiet_nil ?_
            intro w5 hcl5
            have hb5 := hcl5.out
            obtain ⟨S1, hS1⟩ : ∃ S1, S1 = sv ++ ⟨#[32]⟩ ++ itoaB f ++ ⟨#[45]⟩ ++ itoaB t := ⟨_, rfl⟩
            rw [← hS1]
            have hS1l : S1.data.toList = sv.data.toList ++ (32 :: (Lib.itoa f ++ 45 :: Lib.itoa t)) := by
              rw [hS1]
              simp [ByteArray.data_append, itoaB]
            have hS1s : S1.size ≤ 62000 + (j + 1) * 44 := by
              rw [hS1]
              simp only [ByteArray.size_append]
              have q1 : (⟨#[32]⟩ : ByteArray).size = 1 := rfl
              have q2 : (⟨#[45]⟩ : ByteArray).size = 1 := rfl
              rw [q1, q2]
              omega
            have HS1 := hide hS1l; have HB5 := hide hb5
            clear hcl5 hb5 hS1 hS1l hx hx1 hx2 hlt2 hlt3 HI1 HI2 u1 u2 t1 t2 t3 t4
            go_wp2_with fail
            go_roundw
            case rel =>
              refine ⟨j + 1, S1, by omega, by go_num, rfl, hS1s, ?_, hin2.out.2.trans HB5.out⟩
              rw [HS1.out, hin2.out.1, HGS.out, List.append_assoc]
            case measure => simp [intOf]; omega
          · obtain rfl : j = gs.length := by omega
            have t1 : (9223372036854775807 < sv.size + 1) = False := eq_false (by omega)
            go_wp2_with fail
            go_roundw
            case rel =>
              refine ⟨k + 1, sv ++ ⟨#[10]⟩, by omega, by go_num, rfl, ?_, HBB.out⟩
              rw [HSU.out, ByteArray.data_append, Array.toList_append, hin2.out.1, HS0.out, hin.out.1, List.take_length]
              simp
            case measure => simp [intOf]; omega
      · obtain rfl : k = l.length := by omega
        have htx := hin.out.1
        rw [List.take_length] at htx
        have HTX := hide (bytes_eq htx)
        clear htx
        go_wp2_with fail
        go_ret2
        exact ⟨by rw [← HTX.out]; rfl, hin.out.2⟩
  · have e1 : printS l = ⟨#[]⟩ := by unfold printS; rw [if_neg hz]
    have e2 : printE l = 1 := by unfold printE; rw [if_neg hz]
    have hzz : (chks l != 0) = true := by simpa using hz
    rw [e1, e2]
    clear hz e1 e2
    go_enter Tryd.func40, Tryd.ntmps40
    go_wp2_with fail
    refine HC.out.mono ?_
    rintro e w1 ⟨rfl, hb1⟩
    have HB1 := hide hb1
    clear hb1 HC
    go_wp2_with fail
    go_ret2
    exact ⟨rfl, HB1.out⟩
end Go.Proofs.YtfljmbdnnjjmoaaDoor
