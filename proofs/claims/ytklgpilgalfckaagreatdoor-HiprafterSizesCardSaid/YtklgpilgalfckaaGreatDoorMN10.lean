/-
  Texts laid together.
-/
import Derived.Test.YtklgpilgalfckaaGreatDoorMN5
import Derived.Test.YtklgpilgalfckaaGreatDoorMN9
import Derived.Test.YtklgpilgalfckaaGreatDoorMN1
set_option maxRecDepth 100000
set_option maxHeartbeats 8000000
namespace Go.Proofs.YtklgpilgalfckaaGreatDoor
open Go.RowKit Go.KP Go.KI Go.Shelf
attribute [local go_sem] Oper.semAt_some

theorem exit_natOf {R : Ending → World → Prop} {a : Act} {W : World} {b : Nat} {n d : Int} {ok : Bool} (hb : W.heap[b]? = some (natO n d)) (h2 : a.tmps[2]? = some (.pointer (some ⟨b, 0, none⟩))) (h3 : a.tmps[3]? = some (.bool ok)) (hd : a.defers = []) (hR : R (.returned (.tuple #[natV n d, .bool ok])) W) :
    bodyPost Tryz.prog Tryz.f125 R .ret a W := by
  have hcell := fun o => cell_blk hb o
  refine bodyPost_ret ?_ hd hR
  simp [results, go_sem, hcell, h2, h3]
theorem exit_natSet {R : Ending → World → Prop} {a : Act} {W : World} {b : Nat} {n d u0 u1 : Int} {ok : Bool} (hb : W.heap[b]? = some (natO u0 u1)) (h2 : a.tmps[2]? = some (.pointer (some ⟨b, 0, none⟩))) (h3 : a.tmps[3]? = some (.bool ok)) (hd : a.defers = [])
    (hR : Below b W ((W.setCell ⟨b, 0, none⟩ (.int .i64 n)).setCell ⟨b, 1, none⟩ (.int .i64 d)) → R (.returned (.tuple #[natV n d, .bool ok])) ((W.setCell ⟨b, 0, none⟩ (.int .i64 n)).setCell ⟨b, 1, none⟩ (.int .i64 d))) :
    bodyPost Tryz.prog Tryz.f125 R .ret a ((W.setCell ⟨b, 0, none⟩ (.int .i64 n)).setCell ⟨b, 1, none⟩ (.int .i64 d)) := by
  obtain ⟨s1, s2⟩ := set2 hb (.int .i64 n) (.int .i64 d)
  exact exit_natOf s1 h2 h3 hd (hR s2)
theorem exit_natSetA {R : Ending → World → Prop} {a : Act} {W : World} {b : Nat} {n d u0 u1 : Int} {ok : Bool} {X : Obj} (hb : W.heap[b]? = some (natO u0 u1)) (h2 : a.tmps[2]? = some (.pointer (some ⟨b, 0, none⟩))) (h3 : a.tmps[3]? = some (.bool ok)) (hd : a.defers = [])
    (hR : Below b W (((W.setCell ⟨b, 0, none⟩ (.int .i64 n)).setCell ⟨b, 1, none⟩ (.int .i64 d)).alloc X) → R (.returned (.tuple #[natV n d, .bool ok])) (((W.setCell ⟨b, 0, none⟩ (.int .i64 n)).setCell ⟨b, 1, none⟩ (.int .i64 d)).alloc X)) :
    bodyPost Tryz.prog Tryz.f125 R .ret a (((W.setCell ⟨b, 0, none⟩ (.int .i64 n)).setCell ⟨b, 1, none⟩ (.int .i64 d)).alloc X) := by
  obtain ⟨s1, s2⟩ := set2 hb (.int .i64 n) (.int .i64 d)
  have hl := lt_blk s1
  exact exit_natOf ((Below.heap_alloc _ _ _ hl).trans s1) h2 h3 hd (hR (s2.alloc (by have := s2.size; have := lt_blk hb; omega) _))
theorem blk_other {w : World} {b c o : Nat} {x : Obj} (h : w.heap[b]? = some x) (hne : ¬ c = b) (v : Value) : (w.setCell ⟨c, o, none⟩ v).heap[b]? = some x := by
  simp only [World.setCell]
  rw [Array.getElem?_modify, if_neg hne]
  exact h
theorem nat_set1 {w : World} {c : Nat} {n d u : Int} (h : w.heap[c]? = some (natO n u)) : (w.setCell ⟨c, 1, none⟩ (.int .i64 d)).heap[c]? = some (natO n d) ∧ Below c w (w.setCell ⟨c, 1, none⟩ (.int .i64 d)) := by
  refine ⟨?_, (Below.refl c w).setCell (p := ⟨c, 1, none⟩) (Nat.le_refl _) _⟩
  simp only [World.setCell, Array.getElem?_modify, h]
  simp
theorem nat_set0 {w : World} {c : Nat} {n d u : Int} (h : w.heap[c]? = some (natO u d)) : (w.setCell ⟨c, 0, none⟩ (.int .i64 n)).heap[c]? = some (natO n d) ∧ Below c w (w.setCell ⟨c, 0, none⟩ (.int .i64 n)) := by
  refine ⟨?_, (Below.refl c w).setCell (p := ⟨c, 0, none⟩) (Nat.le_refl _) _⟩
  simp only [World.setCell, Array.getElem?_modify, h]
  simp
def natOV (l : List UInt8) : Value := match natOf l with
  | none => .tuple #[natV 0 0, .bool false]
  | some (n, d) => .tuple #[natV n d, .bool true]
theorem natIV_of_none {l : List UInt8} (h : natI l = none) : natIV l = .tuple #[.int .i64 0, .string ⟨#[]⟩, .bool false] := by unfold natIV; rw [h]
theorem natIV_of_some {l : List UInt8} {n : Nat} {r : List UInt8} (h : natI l = some (n, r)) : natIV l = .tuple #[.int .i64 n, .string (strB r), .bool true] := by unfold natIV; rw [h]
theorem natI_lt {l : List UInt8} {n : Nat} {r : List UInt8} (h : natI l = some (n, r)) : n < 100000000 ∧ r.length ≤ l.length := by
  obtain ⟨h1, h2, _⟩ := natI_some h
  refine ⟨by have := (dec_len_le (u := n) (n := 8) (by omega)).1 h2; simpa using this, ?_⟩
  have := congrArg List.length h1
  rw [List.length_append] at this
  omega
theorem natOf_neg (l : List UInt8) (neg : Bool) (hs : (digs l).length < l.length ↔ neg = true) : natOf l = match natI (digs l) with
    | none => none
    | some (n, rest) => if neg = true ∧ n = 0 then none else
      match rest with
      | [] => some (if neg = true then -(n : Int) else (n : Int), 1)
      | c :: r => if c ≠ 47 then none else
        match natI r with
        | none => none
        | some (d, rest2) => if rest2 ≠ [] ∨ d < 2 ∨ Nat.gcd n d ≠ 1 then none else some (if neg = true then -(n : Int) else (n : Int), d) := by
  unfold natOf
  cases natI (digs l) with
  | none => rfl
  | some p =>
    obtain ⟨n, rest⟩ := p
    simp only [hs]
    cases rest with
    | nil => rfl
    | cons c r =>
      cases natI r with
      | none => rfl
      | some q =>
        obtain ⟨d, r2⟩ := q
        rfl
theorem digs_shorter (l : List UInt8) : (digs l).length < l.length ↔ l.head? = some 45 := by
  cases l with
  | nil => simp [digs]
  | cons c r =>
    by_cases h : c = 45
    · simp [digs, h]
    · simp [digs, h]
theorem nativeOf_any (s : ByteArray) (hs : s.size ≤ 1000000) (w : World) :
    Calls Tryz.prog 125 #[.string s] w (Ret w (natOV s.data.toList)) := by
  have H0 := hide (heap1 w (natO 0 0))
  obtain ⟨neg, hneg⟩ : ∃ neg, neg = decide (s.data.toList.head? = some 45) := ⟨_, rfl⟩
  obtain ⟨O, hO⟩ : ∃ O : ByteArray, O = strB (digs s.data.toList) := ⟨_, rfl⟩
  have hOs : O.size ≤ s.size := by
    rw [hO, strB_size, digs_drop, List.length_drop, bytes_len]
    omega
  have HN := hide (fun w => nativeInt_any O (by omega) w)
  rw [show O.data.toList = digs s.data.toList by rw [hO, strB_list]] at HN
  have hOe : (neg = false → O = s) ∧ (neg = true → s.extract 1 s.size = O) := by
    constructor
    · intro h
      rw [h] at hneg
      rw [hO]
      apply bytes_eq
      rw [strB_list, digs_drop, if_neg (of_decide_eq_false hneg.symm)]
      rfl
    · intro h
      rw [h] at hneg
      rw [ext_drop, hO, digs_drop, if_pos (of_decide_eq_true hneg.symm)]
  have hlen : ((O.size : Int) < (s.size : Int)) = (neg = true) := by
    have h1 := digs_shorter s.data.toList
    rw [bytes_len] at h1
    have h2 : O.size = (digs s.data.toList).length := by rw [hO, strB_size]
    rw [← h2] at h1
    apply propext
    rw [hneg, decide_eq_true_iff, ← h1]
    omega
  have HNEG := hide (natOf_neg s.data.toList neg (by rw [hneg, decide_eq_true_iff]; exact digs_shorter _))
  obtain ⟨V, hV⟩ : ∃ V, V = natOV s.data.toList := ⟨_, rfl⟩
  have HV := hide hV
  rw [← hV]
  clear hV
  have hstart : (s.data.toList = [] ∧ neg = false) ∨ (∃ h : 0 < s.size, s.toList.isEmpty = false ∧ ((neg = false ∧ (((s[0]'h).toNat : Int) == 45) = false) ∨ (neg = true ∧ (((s[0]'h).toNat : Int) == 45) = true))) := by
    by_cases hne : s.data.toList = []
    · exact .inl ⟨hne, by rw [hneg, hne]; rfl⟩
    · obtain ⟨hp, hh⟩ := bytes_head hne
      refine .inr ⟨hp, empty_no hne, ?_⟩
      by_cases h45 : s[0] = 45
      · exact .inr ⟨by rw [hneg, hh, h45]; rfl, by rw [h45]; rfl⟩
      · refine .inl ⟨?_, ?_⟩
        · rw [hneg, hh]
          simpa using h45
        · have : s[0].toNat ≠ 45 := fun h => h45 (UInt8.toNat_inj.1 h)
          simp only [beq_eq_false_iff_ne, ne_eq]
          omega
  clear hneg hO
  rcases hstart with ⟨h1, h2⟩ | ⟨hp, h1, ⟨h2, h3⟩ | ⟨h2, h3⟩⟩
  case' inl =>
    subst h2
    have he := empty_yes h1
    have hs2 : s = O := (hOe.1 rfl).symm
    subst hs2
    have hl : ((s.size : Int) < (s.size : Int)) = False := eq_false (by omega)
    clear h1 hOe hlen hOs
    go_enter Tryz.func125, Tryz.ntmps125
    go_wp2_with fail
  case' inr.inl =>
    subst h2
    have hp0 : (0 : Int) < (s.size : Int) := by omega
    have hs2 : s = O := (hOe.1 rfl).symm
    subst hs2
    have hl : ((s.size : Int) < (s.size : Int)) = False := eq_false (by omega)
    clear hOe hlen hOs
    go_enter Tryz.func125, Tryz.ntmps125
    go_wp2_with fail
  case' inr.inr =>
    subst h2
    have hp0 : (0 : Int) < (s.size : Int) := by omega
    have hs1 : (1 : Int) ≤ (s.size : Int) := by omega
    have HE := hide (hOe.2 rfl)
    have hl : (O.size : Int) < (s.size : Int) := by rw [hlen]
    clear hOe hlen
    go_enter Tryz.func125, Tryz.ntmps125
    go_wp2_with fail
    rw [HE.out]
  all_goals
    refine (HN.out _).mono ?_
    rintro e w1 ⟨rfl, hb1⟩
    have G1 := hide (below_blk hb1 H0.out.1 (lt_blk H0.out.1))
    have HB1 := hide (H0.out.2.2.trans (hb1.mono H0.out.2.2.size))
    have hsz1 := lt_blk G1.out
    have f0 := froz_blk G1.out 0
    have f1 := froz_blk G1.out 1
    have c0 := cell_blk G1.out 0
    have c1 := cell_blk G1.out 1
    clear hb1 HN
    cases hNI : natI (digs s.data.toList) with
    | none =>
      rw [natIV_of_none hNI]
      have HR := hide (show V = .tuple #[natV 0 0, .bool false] by
        rw [HV.out]
        unfold natOV
        rw [HNEG.out, hNI])
      clear hNI
      go_wp2_with fail
      obtain ⟨s1, s2⟩ := set2 G1.out (.int .i64 0) (.int .i64 0)
      refine exit_natOf s1 rfl rfl rfl ?_
      rw [HR.out]
      exact ⟨rfl, HB1.out.trans (s2.mono (by omega))⟩
    | some p =>
      obtain ⟨n, rest⟩ := p
      obtain ⟨hnl, hrl⟩ := natI_lt hNI
      rw [natIV_of_some hNI]
      have HS := hide (show natOf s.data.toList = _ from HNEG.out)
      rw [hNI] at HS
      simp only [] at HS
      have hzc : (n = 0 ∧ ((n : Int) == 0) = true) ∨ (n ≠ 0 ∧ ((n : Int) == 0) = false) := by
        by_cases h : n = 0
        · exact .inl ⟨h, by rw [h]; rfl⟩
        · refine .inr ⟨h, ?_⟩
          simp only [beq_eq_false_iff_ne, ne_eq]
          omega
      have HF := hide (fun (h : natOf s.data.toList = none) => show V = .tuple #[natV 0 0, .bool false] by
        rw [HV.out]
        unfold natOV
        rw [h])
      have HT := hide (fun (a : Int) (b : Nat) (h : natOf s.data.toList = some (a, b)) => show V = .tuple #[natV a b, .bool true] by
        rw [HV.out]
        unfold natOV
        rw [h])
      obtain ⟨t, ht⟩ : ∃ t, t = strB rest := ⟨_, rfl⟩
      rw [← ht]
      have HTT := hide ht
      clear ht hNI HV HNEG
      have hsh : (rest = [] ∧ t.toList.isEmpty = true) ∨ (∃ h : 0 < t.size, t.toList.isEmpty = false ∧ (((t[0]'h).toNat : Int) != 47) = true ∧ ∃ c r, rest = c :: r ∧ c ≠ 47) ∨ (∃ h : 0 < t.size, t.toList.isEmpty = false ∧ (((t[0]'h).toNat : Int) != 47) = false ∧ ∃ r, rest = 47 :: r ∧ t.extract 1 t.size = strB r) := by
        have hte : t.data.toList = rest := by rw [HTT.out, strB_list]
        by_cases hr : rest = []
        · exact .inl ⟨hr, empty_yes (by rw [hte, hr])⟩
        · obtain ⟨hp, hh⟩ := bytes_head (s := t) (by rw [hte]; exact hr)
          obtain ⟨c, r, hcr⟩ : ∃ c r, rest = c :: r := by
            cases rest with
            | nil => exact absurd rfl hr
            | cons c r => exact ⟨c, r, rfl⟩
          have h0 : t[0]'hp = c := by
            rw [hte, hcr] at hh
            injection hh with hh
            exact hh.symm
          by_cases h47 : c = 47
          · refine .inr (.inr ⟨hp, empty_no (by rw [hte]; exact hr), by rw [h0, h47]; rfl, r, by rw [hcr, h47], ?_⟩)
            rw [ext_drop, hte, hcr]
            rfl
          · refine .inr (.inl ⟨hp, empty_no (by rw [hte]; exact hr), ?_, c, r, hcr, h47⟩)
            rw [h0]
            have : c.toNat ≠ 47 := fun h => h47 (UInt8.toNat_inj.1 h)
            simp only [bne_iff_ne, ne_eq]
            omega
      have hts : t.size ≤ 1000000 := by
        rw [HTT.out, strB_size]
        have h1 : (digs s.data.toList).length ≤ s.data.toList.length := by rw [digs_drop, List.length_drop]; omega
        rw [bytes_len] at h1
        omega
      have GA := hide (fun ob : Obj => (Below.heap_alloc w1 ob _ hsz1).trans G1.out)
      rcases hsh with ⟨g1, g2⟩ | ⟨hpt, g2, g3, g1⟩ | ⟨hpt, g2, g3, r, g1, g4⟩
      all_goals
        have GR := hide g1
        clear g1
        rcases hzc with ⟨hz, hz0⟩ | ⟨hz, hz0⟩
      all_goals
        have HZ := hide hz
        clear hz
      all_goals try have hpt0 : (0 : Int) < (t.size : Int) := Int.ofNat_lt.2 hpt
      all_goals go_wp2_with fail
      all_goals first
        | (refine exit_natSet (ok := false) G1.out (by rfl) (by rfl) (by rfl) (fun hb => ?_)
           rw [HF.out (by rw [HS.out, HZ.out]; rfl)]
           exact ⟨rfl, HB1.out.trans hb⟩)
        | (refine exit_natSetA (ok := false) G1.out (by rfl) (by rfl) (by rfl) (fun hb => ?_)
           rw [HF.out (by obtain ⟨c, r, e, hc⟩ := GR.out; rw [HS.out, e]; simp [hc])]
           exact ⟨rfl, HB1.out.trans hb⟩)
        | (refine exit_natSetA (ok := true) (n := (n : Int)) G1.out (by rfl) (by rfl) (by rfl) (fun hb => ?_)
           rw [HT.out (n : Int) 1 (by rw [HS.out, GR.out]; simp [HZ.out])]
           exact ⟨rfl, HB1.out.trans hb⟩)
        | (refine exit_natSetA (ok := true) (n := (-(n : Int))) G1.out (by rfl) (by rfl) (by rfl) (fun hb => ?_)
           rw [HT.out (-(n : Int)) 1 (by rw [HS.out, GR.out]; simp [HZ.out])]
           exact ⟨rfl, HB1.out.trans hb⟩)
        | skip
      all_goals
        have hrr : r.length ≤ 1000000 := by
          have h1 := congrArg List.length GR.out
          rw [List.length_cons] at h1
          have h2 : (digs s.data.toList).length ≤ s.data.toList.length := by rw [digs_drop, List.length_drop]; omega
          rw [bytes_len] at h2
          omega
        have HI : Hid (∀ w, Calls Tryz.prog 180 #[.string (strB r)] w (Ret w (natIV r))) := hide (fun w => by
          have h := nativeInt_any (strB r) (by rw [strB_size]; exact hrr) w
          rwa [strB_list] at h)
        have G0 := hide (heap1 w1 (natO (n : Int) 1))
        refine (HI.out _).mono ?_
        rintro e w2 ⟨rfl, hb2⟩
        have G2 := hide (below_blk hb2 (GA.out _) (Nat.lt_of_lt_of_le hsz1 G0.out.2.2.size))
        have D2 := hide (below_blk hb2 G0.out.1 (lt_blk G0.out.1))
        have HB2 := hide (HB1.out.trans ((G0.out.2.2.trans (hb2.mono G0.out.2.2.size)).mono HB1.out.size))
        have hsz2 := lt_blk D2.out
        have hne : ¬ w1.heap.size = w.heap.size := by omega
        have hne2 : ¬ w.heap.size = w1.heap.size := by omega
        clear hb2 f0 f1 c0 c1
        have f0 := froz_blk G2.out 0
        have f1 := froz_blk G2.out 1
        have c0 := cell_blk G2.out 0
        have c1 := cell_blk G2.out 1
        have f2 := froz_blk D2.out 0
        have f3 := froz_blk D2.out 1
        have c2 := cell_blk D2.out 0
        have c3 := cell_blk D2.out 1
        cases hNI2 : natI r with
        | none =>
          rw [natIV_of_none hNI2]
          have HR := hide (HF.out (by rw [HS.out, GR.out]; simp [hNI2]))
          clear hNI2
          go_wp2_with fail
          obtain ⟨s1, s2⟩ := nat_set1 (d := 0) D2.out
          refine exit_natSet (ok := false) (blk_other G2.out hne _) (by rfl) (by rfl) (by rfl) (fun hb => ?_)
          rw [HR.out]
          exact ⟨rfl, HB2.out.trans ((s2.mono (by omega)).trans hb)⟩
        | some p2 =>
          obtain ⟨d, rest2⟩ := p2
          obtain ⟨hdl, _⟩ := natI_lt hNI2
          rw [natIV_of_some hNI2]
          have HN2 := hide hNI2
          clear hNI2
          obtain ⟨s1, s2⟩ := nat_set1 (d := (d : Int)) D2.out
          have S1 := hide s1; have S2 := hide s2
          have SG := hide (blk_other (o := 1) G2.out hne (.int .i64 (d : Int)))
          clear s1 s2
          have hway : (rest2 ≠ [] ∧ (strB rest2).toList.isEmpty = false) ∨ (rest2 = [] ∧ (strB rest2).toList.isEmpty = true) := by
            by_cases hr : rest2 = []
            · exact .inr ⟨hr, empty_yes (by rw [strB_list, hr])⟩
            · exact .inl ⟨hr, empty_no (by rw [strB_list]; exact hr)⟩
          obtain ⟨t2, ht2⟩ : ∃ t2, t2 = strB rest2 := ⟨_, rfl⟩
          rw [← ht2] at hway ⊢
          clear ht2
          rcases hway with ⟨hr2, ht2⟩ | ⟨hr2, ht2⟩
          · have HR := hide (HF.out (by rw [HS.out, GR.out]; simp [HN2.out, hr2]))
            clear hr2
            go_wp2_with fail
            refine exit_natSet (ok := false) SG.out (by rfl) (by rfl) (by rfl) (fun hb => ?_)
            rw [HR.out]
            exact ⟨rfl, HB2.out.trans ((S2.out.mono (by omega)).trans hb)⟩
          · have HRE := hide hr2
            clear hr2
            by_cases hd2 : d < 2
            · have hd2i : (d : Int) < 2 := by omega
              have HR := hide (HF.out (by rw [HS.out, GR.out]; simp [HN2.out, HRE.out, hd2]))
              clear hd2
              go_wp2_with fail
              refine exit_natSet (ok := false) SG.out (by rfl) (by rfl) (by rfl) (fun hb => ?_)
              rw [HR.out]
              exact ⟨rfl, HB2.out.trans ((S2.out.mono (by omega)).trans hb)⟩
            · have hd2i : ((d : Int) < 2) = False := eq_false (by omega)
              have HD2 := hide hd2
              clear hd2
              go_wp2_with fail
              refine (qgcd_any n d (by omega) (by omega) _).mono ?_
              rintro e w3 ⟨rfl, hb3⟩
              have D3 := hide (below_blk hb3 S1.out (lt_blk S1.out))
              have G3 := hide (below_blk hb3 SG.out (lt_blk SG.out))
              have HB3 := hide (HB2.out.trans ((S2.out.mono (by omega)).trans (hb3.mono (by have := lt_blk SG.out; omega))))
              have SN := hide (nat_set0 (n := -(n : Int)) D3.out)
              clear hb3 c0 c1 c2 c3 f0 f1 f2 f3
              have f0 := froz_blk G3.out 0
              have f1 := froz_blk G3.out 1
              have f2 := froz_blk D3.out 0
              have f3 := froz_blk D3.out 1
              have c0 := cell_blk G3.out 0
              have c1 := cell_blk G3.out 1
              have c2 := cell_blk D3.out 0
              have c3 := cell_blk D3.out 1
              by_cases hg : n.gcd d = 1
              · have hgi : (((n.gcd d : Nat) : Int) != 1) = false := by rw [hg]; rfl
                have HG := hide hg
                clear hg
                go_wp2_with fail
                first
                  | (refine exit_natSet (ok := true) (n := (n : Int)) G3.out (by rfl) (by rfl) (by rfl) (fun hb => ?_)
                     rw [HT.out (n : Int) d (by rw [HS.out, GR.out]; simp [HN2.out, HRE.out, HD2.out, HG.out])]
                     exact ⟨rfl, HB3.out.trans hb⟩)
                  | (refine exit_natSet (ok := true) (n := -(n : Int)) (blk_other G3.out hne _) (by rfl) (by rfl) (by rfl) (fun hb => ?_)
                     rw [HT.out (-(n : Int)) d (by rw [HS.out, GR.out]; simp [HN2.out, HRE.out, HD2.out, HG.out, HZ.out])]
                     exact ⟨rfl, HB3.out.trans ((SN.out.2.mono (by omega)).trans hb)⟩)
              · have hgi : (((n.gcd d : Nat) : Int) != 1) = true := by
                  simp only [bne_iff_ne, ne_eq]
                  omega
                have HR := hide (HF.out (by rw [HS.out, GR.out]; simp [HN2.out, HRE.out, hg]))
                clear hg
                go_wp2_with fail
                refine exit_natSet (ok := false) G3.out (by rfl) (by rfl) (by rfl) (fun hb => ?_)
                rw [HR.out]
                exact ⟨rfl, HB3.out.trans hb⟩
open Go.RowKit Go.KP Go.KI Go.Shelf
attribute [local go_sem] Oper.semAt_some

def readV (l : List UInt8) : Value := if chkQ l = 0 then .tuple #[partsV (strB (numT l)) (strB (denS l)), .int .i64 0] else .tuple #[partsV ⟨#[]⟩ ⟨#[]⟩, .int .i64 (chkQ l)]
theorem natOV_yes {l : List UInt8} (h : natQ l) : natOV l = .tuple #[natV (valQ l).num ((valQ l).den : Nat), .bool true] := by
  unfold natOV
  rw [natOf_eq, if_pos h]
theorem natOV_no {l : List UInt8} (h : ¬ natQ l) : natOV l = .tuple #[natV 0 0, .bool false] := by
  unfold natOV
  rw [natOf_eq, if_neg h]
theorem denS_one {l : List UInt8} (h : cutOK l) : (denS l = [49] ↔ ¬ 47 ∈ l) := by
  unfold denS
  by_cases hs : 47 ∈ l
  · rw [if_pos hs]
    exact ⟨fun e => absurd (.inr ⟨hs, .inr (.inr e)⟩) h, fun e => absurd hs e⟩
  · rw [if_neg hs]
    exact ⟨fun _ => hs, fun _ => rfl⟩
theorem read_ways (l : List UInt8) (N D O : ByteArray) (hN : N = strB (numT l)) (hD : D = strB (denS l)) (hO : O = strB (digs (numT l))) :
    (¬ cutOK l ∧ readV l = .tuple #[partsV ⟨#[]⟩ ⟨#[]⟩, .int .i64 11]) ∨
    (cutOK l ∧ natQ l ∧ readV l = .tuple #[partsV N D, .int .i64 0]) ∨
    (cutOK l ∧ ¬ natQ l ∧ (300 : Int) < (O.size : Int) ∧ readV l = .tuple #[partsV ⟨#[]⟩ ⟨#[]⟩, .int .i64 4]) ∨
    (cutOK l ∧ ¬ natQ l ∧ ((300 : Int) < (O.size : Int)) = False ∧ (300 : Int) < (D.size : Int) ∧ readV l = .tuple #[partsV ⟨#[]⟩ ⟨#[]⟩, .int .i64 4]) ∨
    (cutOK l ∧ ¬ natQ l ∧ ((300 : Int) < (O.size : Int)) = False ∧ ((300 : Int) < (D.size : Int)) = False ∧ (D.toList == [49]) = true ∧ readV l = .tuple #[partsV N D, .int .i64 0]) ∨
    (cutOK l ∧ ¬ natQ l ∧ ((300 : Int) < (O.size : Int)) = False ∧ ((300 : Int) < (D.size : Int)) = False ∧ (D.toList == [49]) = false ∧
      ∃ (x : Int) (y : Nat), N.data.toList = Lib.itoa x ∧ D.data.toList = Lib.itoa (y : Int) ∧ fits x ∧ fits (y : Int) ∧
        ((Nat.gcd x.natAbs y = 1 ∧ readV l = .tuple #[partsV N D, .int .i64 0]) ∨ (Nat.gcd x.natAbs y ≠ 1 ∧ readV l = .tuple #[partsV ⟨#[]⟩ ⟨#[]⟩, .int .i64 11]))) := by
  have e0 : chkQ l = 0 → readV l = .tuple #[partsV N D, .int .i64 0] := fun h => by unfold readV; rw [if_pos h, hN, hD]
  have e1 : ∀ z : Int, z ≠ 0 → chkQ l = z → readV l = .tuple #[partsV ⟨#[]⟩ ⟨#[]⟩, .int .i64 z] := fun z hz h => by unfold readV; rw [h, if_neg hz]
  by_cases hc : cutOK l
  · have hf := chkQ_form hc
    have so : O.size = (digs (numT l)).length := by rw [hO, strB_size]
    have sd : D.size = (denS l).length := by rw [hD, strB_size]
    rw [← so, ← sd] at hf
    by_cases hq : natQ l
    · exact .inr (.inl ⟨hc, hq, e0 hq.1⟩)
    · by_cases h1 : 300 < O.size
      · exact .inr (.inr (.inl ⟨hc, hq, by omega, e1 4 (by decide) (by rw [hf, if_pos (.inl h1)])⟩))
      · have g1 : ((300 : Int) < (O.size : Int)) = False := eq_false (by omega)
        by_cases h2 : 300 < D.size
        · exact .inr (.inr (.inr (.inl ⟨hc, hq, g1, by omega, e1 4 (by decide) (by rw [hf, if_pos (.inr h2)])⟩)))
        · have g2 : ((300 : Int) < (D.size : Int)) = False := eq_false (by omega)
          rw [if_neg (fun h => by rcases h with h | h <;> contradiction)] at hf
          obtain ⟨u1, u2⟩ := lit_eq (s := D) (l := denS l) (m := [49]) (by rw [hD, strB_list])
          by_cases h3 : denS l = [49]
          · have h4 := (denS_one hc).1 h3
            exact .inr (.inr (.inr (.inr (.inl ⟨hc, hq, g1, g2, u1 h3, e0 (by rw [hf, if_neg (fun h => h4 h.1)])⟩))))
          · have h4 : 47 ∈ l := Decidable.byContradiction fun h => h3 ((denS_one hc).2 h)
            have h5 : denS l = denT l := by unfold denS; rw [if_pos h4]
            obtain ⟨c1, c2⟩ := chkI_int (fun e => hc (.inl e))
            have h6 : denT l = Lib.decDigits (dv (denT l)) := numeral_dec (Decidable.byContradiction fun e => hc (.inr ⟨h4, .inl e⟩))
            refine .inr (.inr (.inr (.inr (.inr ⟨hc, hq, g1, g2, u2 h3, valI (numT l), dv (denT l), by rw [hN, strB_list]; exact c1, by rw [hD, strB_list, h5, Lib.itoa_nonneg]; exact h6, ?_, ?_, ?_⟩))))
            · refine fits_len.2 ?_
              have h7 : (digs (numT l)).length = (Lib.decDigits (valI (numT l)).natAbs).length := by
                conv => lhs; rw [c1]
                rw [digs_itoa]
              omega
            · refine fits_nat.2 ?_
              rw [← h6, ← h5]
              omega
            · by_cases hg : Nat.gcd (valI (numT l)).natAbs (dv (denT l)) = 1
              · exact .inl ⟨hg, e0 (by rw [hf, if_neg (fun h => h.2 hg)])⟩
              · exact .inr ⟨hg, e1 11 (by decide) (by rw [hf, if_pos ⟨h4, hg⟩])⟩
  · exact .inl ⟨hc, e1 11 (by decide) (by unfold chkQ; rw [if_pos (Decidable.byContradiction fun e => hc e)])⟩
theorem exit_readQSetA {R : Ending → World → Prop} {a : Act} {W : World} {b : Nat} {n d u0 u1 : ByteArray} {z : Int} {X : Obj} (hb : W.heap[b]? = some (partsO u0 u1)) (h2 : a.tmps[2]? = some (.pointer (some ⟨b, 0, none⟩))) (h3 : a.tmps[3]? = some (.int .i64 z)) (hd : a.defers = [])
    (hR : Below b W (((W.setCell ⟨b, 0, none⟩ (.string n)).setCell ⟨b, 1, none⟩ (.string d)).alloc X) → R (.returned (.tuple #[partsV n d, .int .i64 z])) (((W.setCell ⟨b, 0, none⟩ (.string n)).setCell ⟨b, 1, none⟩ (.string d)).alloc X)) :
    bodyPost Tryz.prog Tryz.f127 R .ret a (((W.setCell ⟨b, 0, none⟩ (.string n)).setCell ⟨b, 1, none⟩ (.string d)).alloc X) := by
  obtain ⟨s1, s2⟩ := set2 hb (.string n) (.string d)
  have hl := lt_blk s1
  exact exit_readQ ((Below.heap_alloc _ _ _ hl).trans s1) h2 h3 hd (hR (s2.alloc (by have := s2.size; have := lt_blk hb; omega) _))
theorem qread_any (s : ByteArray) (hs : s.size ≤ 1000000) (B : Nat) (w : World) (hB : B ≤ w.heap.size) (hT : PQ B w) :
    Calls Tryz.prog 127 #[.string s] w (Ret w (readV s.data.toList)) := by
  have H0 := hide (heap1 w (partsO ⟨#[]⟩ ⟨#[]⟩))
  have hTT := hide (hT.on H0.out.2.2 hB)
  have HC := hide (qcut_any s hs B _ (Nat.le_trans hB H0.out.2.2.size) hTT.out)
  have HN := hide (fun w => nativeOf_any s hs w)
  obtain ⟨N, hN⟩ : ∃ N, N = strB (numT s.data.toList) := ⟨_, rfl⟩
  obtain ⟨D, hD⟩ : ∃ D, D = strB (denS s.data.toList) := ⟨_, rfl⟩
  obtain ⟨O, hO⟩ : ∃ O, O = strB (digs (numT s.data.toList)) := ⟨_, rfl⟩
  have HP := hide (fun w => trimPrefix_any N w)
  rw [show N.data.toList = numT s.data.toList by rw [hN, strB_list], ← hO] at HP
  have hw := read_ways s.data.toList N D O hN hD hO
  obtain ⟨V, hV⟩ : ∃ V, V = readV s.data.toList := ⟨_, rfl⟩
  rw [← hV] at hw ⊢
  have HCY := hide (fun (h : cutOK s.data.toList) => show cutV s.data.toList = .tuple #[partsV N D, .bool true] by unfold cutV; rw [if_pos h, hN, hD])
  have HCN := hide (fun (h : ¬ cutOK s.data.toList) => show cutV s.data.toList = .tuple #[partsV ⟨#[]⟩ ⟨#[]⟩, .bool false] from if_neg h)
  have HNN := hide (fun (h : ¬ natQ s.data.toList) => natOV_no h)
  have HNY := hide (fun (h : natQ s.data.toList) => natOV_yes h)
  have hTB := hide hT.p10
  clear hN hD hO hV hT
  rcases hw with ⟨k1, k2⟩ | ⟨k1, k3, k2⟩ | ⟨k1, k3, g1, k2⟩ | ⟨k1, k3, g1, g2, k2⟩ | ⟨k1, k3, g1, g2, g3, k2⟩ | ⟨k1, k3, g1, g2, g3, x, y, q1, q2, q3, q4, k2⟩
  case inl =>
    rw [HCN.out k1] at HC
    have HE := hide k2
    clear k1 k2
    go_enter Tryz.func127, Tryz.ntmps127
    go_wp2_with fail
    refine HC.out.mono ?_
    rintro e w1 ⟨rfl, hb1⟩
    have G1 := hide (below_blk hb1 H0.out.1 (lt_blk H0.out.1))
    have HB1 := hide (H0.out.2.2.trans (hb1.mono H0.out.2.2.size))
    have f0 := froz_blk G1.out 0
    have f1 := froz_blk G1.out 1
    have c0 := cell_blk G1.out 0
    have c1 := cell_blk G1.out 1
    have hl1 := lt_blk G1.out
    clear hb1
    go_wp2_with fail
    refine exit_readQSetA G1.out (by rfl) (by rfl) (by rfl) (fun hb => ?_)
    rw [HE.out]
    exact ⟨rfl, HB1.out.trans hb⟩
  all_goals
    rw [HCY.out k1] at HC
    first | rw [HNN.out k3] at HN | rw [HNY.out k3] at HN
    have HE := hide k2
    clear k1 k2 k3
  case' inr.inr.inr.inr.inr =>
    obtain ⟨gg, hgg⟩ : ∃ gg, gg = strB (Lib.itoa ((Nat.gcd x.natAbs y : Nat) : Int)) := ⟨_, rfl⟩
    have hgl : gg.data.toList = Lib.itoa ((Nat.gcd x.natAbs y : Nat) : Int) := by rw [hgg, strB_list]
    have HG := hide (fun w hB hT => Gcd_to (r := gg) q1 q2 (by rw [Int.natAbs_natCast]; exact hgl) q3 q4 B w hB hT)
    have hone := itoa_is_one ((Nat.gcd x.natAbs y : Nat) : Int)
    obtain ⟨u1, u2⟩ := lit_eq (m := [49]) hgl
    have hway : ((gg.toList == [49]) = true ∧ V = .tuple #[partsV N D, .int .i64 0]) ∨ ((gg.toList == [49]) = false ∧ V = .tuple #[partsV ⟨#[]⟩ ⟨#[]⟩, .int .i64 11]) := by
      rcases HE.out with ⟨h1, h2⟩ | ⟨h1, h2⟩
      · exact .inl ⟨u1 (hone.2 (by rw [h1]; rfl)), h2⟩
      · exact .inr ⟨u2 (fun e => h1 (by have := hone.1 e; omega)), h2⟩
    clear HE q1 q2 q3 q4 hgg hgl hone u1 u2
    rcases hway with ⟨v1, v2⟩ | ⟨v1, v2⟩
  all_goals
    try (have HE := hide v2; clear v2)
    go_enter Tryz.func127, Tryz.ntmps127
    go_wp2_with fail
    refine HC.out.mono ?_
    rintro e w1 ⟨rfl, hb1⟩
    have G1 := hide (below_blk hb1 H0.out.1 (lt_blk H0.out.1))
    have HB1 := hide (H0.out.2.2.trans (hb1.mono H0.out.2.2.size))
    have H1 := hide (heap1 w1 (partsO N D))
    have hl1 := lt_blk G1.out
    have f0 := froz_blk G1.out 0
    have f1 := froz_blk G1.out 1
    have c0 := cell_blk G1.out 0
    have c1 := cell_blk G1.out 1
    clear hb1
    go_wp2_with fail
    refine (HN.out _).mono ?_
    rintro e w2 ⟨rfl, hb2⟩
    have G2 := hide (below_blk hb2 ((Below.heap_alloc _ _ _ hl1).trans G1.out) (Nat.lt_of_lt_of_le hl1 H1.out.2.2.size))
    have D2 := hide (below_blk hb2 H1.out.1 (lt_blk H1.out.1))
    have HB2 := hide (HB1.out.trans ((H1.out.2.2.trans (hb2.mono H1.out.2.2.size)).mono HB1.out.size))
    have hl2 := lt_blk D2.out
    have hl3 := lt_blk G2.out
    have hne : ¬ w1.heap.size = w.heap.size := by omega
    have hne2 : ¬ w.heap.size = w1.heap.size := by omega
    clear hb2 f0 f1 c0 c1
    have f0 := froz_blk G2.out 0
    have f1 := froz_blk G2.out 1
    have c0 := cell_blk G2.out 0
    have c1 := cell_blk G2.out 1
    have c2 := cell_blk D2.out 0
    have c3 := cell_blk D2.out 1
    go_wp2_with fail
  all_goals try
    (refine (HP.out _).mono ?_
     rintro e w3 ⟨rfl, rfl⟩
     go_wp2_with fail)
  all_goals try
    (refine exit_readQSetA G2.out (by rfl) (by rfl) (by rfl) (fun hb => ?_)
     rw [HE.out]
     exact ⟨rfl, HB2.out.trans hb⟩)
  all_goals
    have H3 := hide (heap1 w2 (natO 0 0))
    have HB3 := hide (HB2.out.trans (H3.out.2.2.mono HB2.out.size))
    refine (HG.out _ (Nat.le_trans hB HB3.out.size) (hTB.out.on HB3.out hB)).mono ?_
    rintro e w4 ⟨rfl, hb4⟩
    have G4 := hide (below_blk hb4 ((Below.heap_alloc _ _ _ hl3).trans G2.out) (Nat.lt_of_lt_of_le hl3 H3.out.2.2.size))
    have D4 := hide (below_blk hb4 ((Below.heap_alloc _ _ _ hl2).trans D2.out) (Nat.lt_of_lt_of_le hl2 H3.out.2.2.size))
    have HB4 := hide (HB3.out.trans (hb4.mono HB3.out.size))
    clear hb4 f0 f1 c0 c1 c2 c3
    have f0 := froz_blk G4.out 0
    have f1 := froz_blk G4.out 1
    have c0 := cell_blk G4.out 0
    have c1 := cell_blk G4.out 1
    have c2 := cell_blk D4.out 0
    have c3 := cell_blk D4.out 1
    go_wp2_with fail
    refine exit_readQSet G4.out (by rfl) (by rfl) (by rfl) (fun hb => ?_)
    rw [HE.out]
    exact ⟨rfl, HB4.out.trans hb⟩
open Go.RowKit Go.KP Go.KI Go.Shelf
attribute [local go_sem] Oper.semAt_some

theorem readV_good {l : List UInt8} (h : chkQ l = 0) : readV l = .tuple #[partsV (strB (Lib.itoa (valQ l).num)) (strB (Lib.itoa ((valQ l).den : Int))), .int .i64 0] := by
  obtain ⟨e1, e2⟩ := numT_of h
  unfold readV
  rw [if_pos h, e1, e2]
theorem readV_bad {l : List UInt8} (h : chkQ l ≠ 0) : readV l = .tuple #[partsV ⟨#[]⟩ ⟨#[]⟩, .int .i64 (chkQ l)] := if_neg h
theorem qboth_bad (s t : ByteArray) (hs : s.size ≤ 1000000) (ht : t.size ≤ 1000000) (f : Value) (h : bothQ s.data.toList t.data.toList ≠ 0) (B : Nat) (w : World) (hB : B ≤ w.heap.size) (hT : PQ B w) :
    Calls Tryz.prog 114 #[.string s, .string t, f] w (Ret w (pairV [] (bothQ s.data.toList t.data.toList))) := by
  have H1 := hide (qread_any s hs B w hB hT)
  have H2 := hide (fun w hB hT => qread_any t ht B w hB hT)
  have HT := hide hT
  have he : strB [] = ⟨#[]⟩ := rfl
  rw [show pairV [] (bothQ s.data.toList t.data.toList) = .tuple #[.string ⟨#[]⟩, .int .i64 (bothQ s.data.toList t.data.toList)] from rfl]
  clear he hT
  by_cases h1 : chkQ s.data.toList = 0
  · have e : bothQ s.data.toList t.data.toList = chkQ t.data.toList := if_pos h1
    rw [e] at h ⊢
    rw [readV_good h1] at H1
    rw [readV_bad h] at H2
    obtain ⟨E, hE⟩ : ∃ E, E = chkQ t.data.toList := ⟨_, rfl⟩
    rw [← hE] at H2 h ⊢
    have hne : (E != 0) = true := by simpa using h
    obtain ⟨n, hn⟩ : ∃ n, n = strB (Lib.itoa (valQ s.data.toList).num) := ⟨_, rfl⟩
    obtain ⟨d, hd⟩ : ∃ d, d = strB (Lib.itoa ((valQ s.data.toList).den : Int)) := ⟨_, rfl⟩
    rw [← hn, ← hd] at H1
    clear e h hE h1 hn hd
    go_enter Tryz.func114, Tryz.ntmps114
    go_wp2_with fail
    refine H1.out.mono ?_
    rintro e w1 ⟨rfl, hb1⟩
    have HB1 := hide (hb1.trans ((heap1 w1 (partsO n d)).2.2.mono hb1.size))
    clear hb1
    go_wp2_with fail
    refine (H2.out _ (Nat.le_trans hB HB1.out.size) (HT.out.on HB1.out hB)).mono ?_
    rintro e w2 ⟨rfl, hb2⟩
    have HB2 := hide (HB1.out.trans (hb2.mono HB1.out.size))
    clear hb2
    go_wp2_with fail
    refine bodyPost_ret (results_tmp2 rfl _ _ _) rfl ?_
    exact ⟨rfl, HB2.out.trans ((heap1 w2 _).2.2.mono HB2.out.size)⟩
  · have e : bothQ s.data.toList t.data.toList = chkQ s.data.toList := if_neg h1
    rw [e] at h ⊢
    rw [readV_bad h] at H1
    obtain ⟨E, hE⟩ : ∃ E, E = chkQ s.data.toList := ⟨_, rfl⟩
    rw [← hE] at H1 h ⊢
    have hne : (E != 0) = true := by simpa using h
    clear e h hE h1 H2
    go_enter Tryz.func114, Tryz.ntmps114
    go_wp2_with fail
    refine H1.out.mono ?_
    rintro e w1 ⟨rfl, hb1⟩
    have HB1 := hide hb1
    clear hb1
    go_wp2_with fail
    refine bodyPost_ret (results_tmp2 rfl _ _ _) rfl ?_
    exact ⟨rfl, HB1.out.trans ((heap1 w1 _).2.2.mono HB1.out.size)⟩
theorem qboth_good (s t : ByteArray) (hs : s.size ≤ 1000000) (ht : t.size ≤ 1000000) (f : Nat) (cap : Array Value) (h1 : chkQ s.data.toList = 0) (h2 : chkQ t.data.toList = 0) (hen : ∀ args w, (callFunc f args).run Tryz.prog w = .ok (.enter f args) w) (r : List UInt8) (z : Int) (B : Nat) (w : World) (hB : B ≤ w.heap.size) (hT : PQ B w)
    (hf : ∀ W, Below w.heap.size w W → Calls Tryz.prog f (#[partsV (strB (Lib.itoa (valQ s.data.toList).num)) (strB (Lib.itoa ((valQ s.data.toList).den : Int))), partsV (strB (Lib.itoa (valQ t.data.toList).num)) (strB (Lib.itoa ((valQ t.data.toList).den : Int)))] ++ cap) W (Ret W (pairV r z))) :
    Calls Tryz.prog 114 #[.string s, .string t, .func (.func f) #[] cap] w (Ret w (pairV r z)) := by
  have H1 := hide (qread_any s hs B w hB hT)
  have H2 := hide (fun w hB hT => qread_any t ht B w hB hT)
  have HT := hide hT
  rw [readV_good h1] at H1
  rw [readV_good h2] at H2
  have HF := hide hf
  obtain ⟨n, hn⟩ : ∃ n, n = strB (Lib.itoa (valQ s.data.toList).num) := ⟨_, rfl⟩
  obtain ⟨d, hd⟩ : ∃ d, d = strB (Lib.itoa ((valQ s.data.toList).den : Int)) := ⟨_, rfl⟩
  obtain ⟨m, hm⟩ : ∃ n, n = strB (Lib.itoa (valQ t.data.toList).num) := ⟨_, rfl⟩
  obtain ⟨c, hc⟩ : ∃ d, d = strB (Lib.itoa ((valQ t.data.toList).den : Int)) := ⟨_, rfl⟩
  rw [← hn, ← hd] at H1 HF
  rw [← hm, ← hc] at H2 HF
  obtain ⟨R, hR⟩ : ∃ R, R = strB r := ⟨_, rfl⟩
  rw [show pairV r z = .tuple #[.string R, .int .i64 z] by rw [hR]] at HF ⊢
  clear hf hn hd hm hc h1 h2 hT hR
  go_enter Tryz.func114, Tryz.ntmps114
  go_wp2_with fail
  refine H1.out.mono ?_
  rintro e w1 ⟨rfl, hb1⟩
  have X1 := hide (heap1 w1 (partsO n d))
  have HB1 := hide (hb1.trans (X1.out.2.2.mono hb1.size))
  clear hb1
  go_wp2_with fail
  refine (H2.out _ (Nat.le_trans hB HB1.out.size) (HT.out.on HB1.out hB)).mono ?_
  rintro e w2 ⟨rfl, hb2⟩
  have G2 := hide (below_blk hb2 X1.out.1 (lt_blk X1.out.1))
  have HB2 := hide (HB1.out.trans (hb2.mono HB1.out.size))
  have X2 := hide (heap1 w2 (partsO m c))
  have HB2b := hide (HB2.out.trans (X2.out.2.2.mono HB2.out.size))
  have c0 := cell_blk G2.out 0
  have c1 := cell_blk G2.out 1
  have hl := lt_blk G2.out
  clear hb2
  go_wp2_with fail
  refine (HF.out _ HB2b.out).mono ?_
  rintro e w3 ⟨rfl, hb3⟩
  have HB3 := hide (HB2b.out.trans (hb3.mono HB2b.out.size))
  clear hb3 c0 c1
  go_wp2_with fail
  refine bodyPost_ret (results_tmp2 rfl _ _ _) rfl ?_
  exact ⟨rfl, HB3.out⟩
open Go.RowKit Go.KP Go.KI Go.Shelf
attribute [local go_sem] Oper.semAt_some

theorem opposite_any {s r : ByteArray} {z : Int} (h1 : s.data.toList = Lib.itoa z) (h2 : r.data.toList = Lib.itoa (-z)) (hs : s.size ≤ 1000000) (w : World) :
    Calls Tryz.prog 177 #[.string s] w fun e w' => e = .returned (.string r) ∧ w = w' := by
  obtain ⟨t1, t2⟩ := lit_eq (m := [48]) h1
  have HP := hide (cutPrefix_any s w)
  rw [h1] at HP
  by_cases h0 : z = 0
  · have e0 : Lib.itoa z = [48] := by rw [h0, itoa_zero]
    have g := t1 e0
    have HR := hide (show r = s from bytes_eq (by rw [h2, h1, h0]; rfl))
    clear t1 t2 h1 h2 e0 HP h0
    go_enter Tryz.func177, Tryz.ntmps177
    go_wp2_with fail
    go_ret
    rw [HR.out]
    exact ⟨rfl, rfl⟩
  · have g := t2 (itoa_nz h0)
    by_cases hn : z < 0
    · have hd : decide ((Lib.itoa z).head? = some 45) = true := by rw [decide_eq_true_iff]; exact (itoa_head z).2 hn
      have HR := hide (show r = strB (digs (Lib.itoa z)) from bytes_eq (by
        rw [strB_list, h2, digs_itoa, show -z = ((z.natAbs : Nat) : Int) by omega, Lib.itoa_nonneg]))
      rw [hd, ← HR.out] at HP
      clear t1 t2 h1 h2 hd h0 hn
      go_enter Tryz.func177, Tryz.ntmps177
      go_wp2_with fail
      refine HP.out.mono ?_
      rintro e w1 ⟨rfl, rfl⟩
      go_wp2_with fail
      go_ret
      exact ⟨rfl, rfl⟩
    · have hd : decide ((Lib.itoa z).head? = some 45) = false := by rw [decide_eq_false_iff_not]; exact fun h => hn ((itoa_head z).1 h)
      have HR := hide (show r = ⟨#[45]⟩ ++ s from bytes_eq (by
        rw [h2, show -z = -((z.natAbs : Nat) : Int) by omega, Lib.itoa_neg _ (by omega), ByteArray.data_append, Array.toList_append, h1, show z = ((z.natAbs : Nat) : Int) by omega, Lib.itoa_nonneg, Int.natAbs_natCast]
        rfl))
      have hv : (9223372036854775807 < 1 + s.size) = False := eq_false (by omega)
      rw [hd] at HP
      obtain ⟨o, ho⟩ : ∃ o, o = strB (digs (Lib.itoa z)) := ⟨_, rfl⟩
      rw [← ho] at HP
      clear t1 t2 h1 h2 hd h0 hn ho
      go_enter Tryz.func177, Tryz.ntmps177
      go_wp2_with fail
      refine HP.out.mono ?_
      rintro e w1 ⟨rfl, rfl⟩
      go_wp2_with fail
      go_ret
      rw [HR.out]
      exact ⟨rfl, rfl⟩
open Go.RowKit Go.KP Go.KI Go.Shelf
attribute [local go_sem] Oper.semAt_some

theorem hasMinus (l : List UInt8) : Lib.hasPrefix l [45] = decide (l.head? = some 45) := by
  cases l with
  | nil => rfl
  | cons c r =>
    by_cases h : c = 45
    · subst h
      simp [Lib.hasPrefix, List.isPrefixOf]
    · simp [Lib.hasPrefix, List.isPrefixOf, h, Ne.symm h]
theorem hasMinus_any {s : ByteArray} {z : Int} (h : s.data.toList = Lib.itoa z) (w : World) :
    Calls Tryz.prog 151 #[.string s, .string ⟨#[45]⟩] w fun e w' => e = .returned (.bool (decide (z < 0))) ∧ w = w' :=
  (Tryz.strings_HasPrefix s ⟨#[45]⟩ w).mono fun e w' ⟨he, hw⟩ => ⟨by
    rw [he, h]
    have : Lib.hasPrefix (Lib.itoa z) (⟨#[45]⟩ : ByteArray).data.toList = decide (z < 0) := by
      show Lib.hasPrefix (Lib.itoa z) [45] = _
      rw [hasMinus]
      exact decide_eq_decide.2 (itoa_head z)
    rw [this], hw.symm⟩
theorem fits_div {n : Int} {g : Nat} (h : fits n) (_ : 0 < g) : fits (n / (g : Int)) := fits_of_le h (Int.natAbs_ediv_le_natAbs _ _)
theorem fdiv_ex {n : Int} {g : Nat} (h : (g : Int) ∣ n) (hg : 0 < g) : n.fdiv (g : Int) = n / (g : Int) ∧ n.fmod (g : Int) = 0 := by
  refine ⟨Int.fdiv_eq_ediv_of_nonneg _ (by omega), ?_⟩
  rw [Int.fmod_eq_emod_of_nonneg _ (by omega)]
  exact Int.emod_eq_zero_of_dvd h
theorem qnumber_any {s t : ByteArray} {n d : Int} (h1 : s.data.toList = Lib.itoa n) (h2 : t.data.toList = Lib.itoa d) (f1 : fits n) (f2 : fits d) (h0 : d ≠ 0) (B : Nat) (w : World) (hB : B ≤ w.heap.size) (hT : P10 B w) :
    Calls Tryz.prog 124 #[.string s, .string t] w (Ret w (pairV (ratS (Rat.divInt n d)) 0)) := by
  have HT := hide hT
  have hss := fits_size h1 f1
  have hts := fits_size h2 f2
  have fneg : ∀ {z : Int}, fits z → fits (-z) := fun h => fits_of_le h (by rw [Int.natAbs_neg]; exact Nat.le_refl _)
  obtain ⟨N, D, S, T, hND, e1, e2, hD, g1, g2, hsign⟩ : ∃ (N : Int) (D : Nat) (S T : ByteArray), Rat.divInt n d = Rat.divInt N D ∧ S.data.toList = Lib.itoa N ∧ T.data.toList = Lib.itoa (D : Int) ∧ 0 < D ∧ fits N ∧ fits (D : Int) ∧ ((decide (d < 0) = true ∧ N = -n ∧ (D : Int) = -d) ∨ (decide (d < 0) = false ∧ S = s ∧ T = t)) := by
    rcases Int.lt_or_lt_of_ne h0 with h | h
    · have e : ((d.natAbs : Nat) : Int) = -d := by omega
      exact ⟨-n, d.natAbs, strB (Lib.itoa (-n)), strB (Lib.itoa (-d)), by rw [e, Rat.neg_divInt_neg], strB_list _, by rw [strB_list, e], by omega, fneg f1, by rw [e]; exact fneg f2, .inl ⟨by simpa using h, rfl, e⟩⟩
    · have e : ((d.natAbs : Nat) : Int) = d := by omega
      exact ⟨n, d.natAbs, s, t, by rw [e], h1, by rw [e]; exact h2, by omega, f1, by rw [e]; exact f2, .inr ⟨by rw [decide_eq_false_iff_not]; omega, rfl, rfl⟩⟩
  rw [hND]
  have HM := hide (fun w => hasMinus_any h2 w)
  have HOP := hide (fun (a : N = -n) (b : (D : Int) = -d) => (And.intro (fun w => opposite_any h1 (by rw [e1, a]) (by omega) w) (fun w => opposite_any h2 (by rw [e2, b]) (by omega) w) : (∀ w, Calls Tryz.prog 177 #[.string s] w fun e w' => e = .returned (.string S) ∧ w = w') ∧ (∀ w, Calls Tryz.prog 177 #[.string t] w fun e w' => e = .returned (.string T) ∧ w = w')))
  obtain ⟨g, hg⟩ : ∃ g, g = Nat.gcd N.natAbs D := ⟨_, rfl⟩
  have hgp : 0 < g := by rw [hg]; exact Nat.gcd_pos_of_pos_right _ hD
  have hgn : (g : Int) ∣ N := by rw [hg]; exact Int.ofNat_dvd_left.2 (Nat.gcd_dvd_left _ _)
  have hgd : (g : Int) ∣ (D : Int) := by rw [hg]; exact Int.ofNat_dvd.2 (Nat.gcd_dvd_right _ _)
  have fg : fits (g : Int) := fits_of_le g2 (by rw [Int.natAbs_natCast, Int.natAbs_natCast, hg]; exact Nat.gcd_le_right _ hD)
  obtain ⟨G, hG⟩ : ∃ G, G = strB (Lib.itoa (g : Int)) := ⟨_, rfl⟩
  have hGl : G.data.toList = Lib.itoa (g : Int) := by rw [hG, strB_list]
  have HG := hide (fun w hB hT => Gcd_to (r := G) e1 e2 (by rw [Int.natAbs_natCast, ← hg]; exact hGl) g1 g2 B w hB hT)
  obtain ⟨Nq, hNq⟩ : ∃ Nq : Int, Nq = N / (g : Int) := ⟨_, rfl⟩
  obtain ⟨Dq, hDq⟩ : ∃ Dq : Int, Dq = (D : Int) / (g : Int) := ⟨_, rfl⟩
  obtain ⟨A, hA⟩ : ∃ A, A = strB (Lib.itoa Nq) := ⟨_, rfl⟩
  obtain ⟨C, hC⟩ : ∃ C, C = strB (Lib.itoa Dq) := ⟨_, rfl⟩
  have hAl : A.data.toList = Lib.itoa Nq := by rw [hA, strB_list]
  have hCl : C.data.toList = Lib.itoa Dq := by rw [hC, strB_list]
  obtain ⟨x1, x2⟩ := fdiv_ex hgn hgp
  obtain ⟨x3, x4⟩ := fdiv_ex hgd hgp
  have hz : (strB (Lib.itoa 0)).data.toList = Lib.itoa 0 := strB_list _
  have HD1 := hide (fun w hB hT => Divide_to (q := A) (r := strB (Lib.itoa 0)) e1 hGl (by rw [x1, ← hNq]; exact hAl) (by rw [x2]; exact hz) g1 fg (by omega) B w hB hT)
  have HD2 := hide (fun w hB hT => Divide_to (q := C) (r := strB (Lib.itoa 0)) e2 hGl (by rw [x3, ← hDq]; exact hCl) (by rw [x4]; exact hz) g2 fg (by omega) B w hB hT)
  have fA := fits_size hAl (by rw [hNq]; exact fits_div g1 hgp)
  have fC := fits_size hCl (by rw [hDq]; exact fits_div g2 hgp)
  have v1 : (9223372036854775807 < A.size + 1) = False := eq_false (by omega)
  have v2 : (9223372036854775807 < A.size + 1 + C.size) = False := eq_false (by omega)
  have HX := hide (show ratS (Rat.divInt N D) = if Dq = 1 then Lib.itoa Nq else Lib.itoa Nq ++ 47 :: Lib.itoa Dq by
    have h := ratS_of (n := N) (d := (D : Int)) (by omega)
    rw [Int.natAbs_natCast, ← hg, ← hNq, ← hDq] at h
    exact h)
  obtain ⟨X, hX⟩ : ∃ X, X = strB (ratS (Rat.divInt N D)) := ⟨_, rfl⟩
  rw [show pairV (ratS (Rat.divInt N D)) 0 = .tuple #[.string X, .int .i64 0] by rw [hX]]
  obtain ⟨u1, u2⟩ := lit_eq (m := [49]) hGl
  obtain ⟨y1, y2⟩ := lit_eq (m := [49]) hCl
  have ho1 := itoa_is_one (g : Int)
  have ho2 := itoa_is_one Dq
  have hway1 : ((G.toList == [49]) = true ∧ S = A ∧ T = C) ∨ (G.toList == [49]) = false := by
    by_cases hg1 : g = 1
    · refine .inl ⟨u1 (ho1.2 (by omega)), bytes_eq (by rw [e1, hAl, hNq, hg1]; simp), bytes_eq (by rw [e2, hCl, hDq, hg1]; simp)⟩
    · exact .inr (u2 (fun e => hg1 (by have := ho1.1 e; omega)))
  have hway2 : ((C.toList == [49]) = true ∧ X = A) ∨ ((C.toList == [49]) = false ∧ X = A ++ ⟨#[47]⟩ ++ C) := by
    by_cases hd1 : Dq = 1
    · exact .inl ⟨y1 (ho2.2 hd1), by rw [hX, HX.out, if_pos hd1, hA]⟩
    · refine .inr ⟨y2 (fun e => hd1 (ho2.1 e)), ?_⟩
      rw [hX, HX.out, if_neg hd1]
      apply bytes_eq
      rw [strB_list]
      simp [hAl, hCl]
  have hTT : B ≤ w.heap.size := hB
  clear h1 h2 f1 f2 h0 hND e1 e2 hD g1 g2 hg hgp hgn hgd fg hG hGl hNq hDq hA hC hAl hCl x1 x2 x3 x4 hz HX hX u1 u2 y1 y2 ho1 ho2 hT fneg
  rcases hway1 with ⟨w1, w2, w3⟩ | w1
  case' inl =>
    subst w2; subst w3
  all_goals
    rcases hsign with ⟨z1, z2, z3⟩ | ⟨z1, z2, z3⟩
  all_goals try
    (have HO := hide (HOP.out z2 z3)
     clear z2 z3)
  all_goals try
    (subst z2
     subst z3)
  all_goals
    rw [z1] at HM
    clear HOP
    rcases hway2 with ⟨k1, k2⟩ | ⟨k1, k2⟩
  all_goals
    have HE := hide k2
    clear k2
    go_enter Tryz.func124, Tryz.ntmps124
    go_wp2_with fail
    refine (HM.out _).mono ?_
    rintro e w1' ⟨rfl, rfl⟩
    clear z1
    go_wp2_with fail
  all_goals try
    (refine (HO.out.1 _).mono ?_
     rintro e w1' ⟨rfl, rfl⟩
     go_wp2_with fail
     refine (HO.out.2 _).mono ?_
     rintro e w1' ⟨rfl, rfl⟩
     go_wp2_with fail)
  all_goals
    refine (HG.out _ hB HT.out).mono ?_
    rintro e w1 ⟨rfl, hb1⟩
    have HB1 := hide hb1
    clear hb1
    go_wp2_with fail
  all_goals try
    (refine (HD1.out _ (Nat.le_trans hB HB1.out.size) (HT.out.on HB1.out hB)).mono ?_
     rintro e w2 ⟨rfl, hb2⟩
     have HB2 := hide (HB1.out.trans (hb2.mono HB1.out.size))
     clear hb2
     go_wp2_with fail
     refine (HD2.out _ (Nat.le_trans hB HB2.out.size) (HT.out.on HB2.out hB)).mono ?_
     rintro e w3 ⟨rfl, hb3⟩
     have HB3 := hide (HB2.out.trans (hb3.mono HB2.out.size))
     clear hb3
     go_wp2_with fail)
  all_goals
    refine bodyPost_ret (results_tmp2 rfl _ _ _) rfl ?_
    rw [HE.out]
    first
      | exact ⟨rfl, HB3.out⟩
      | exact ⟨rfl, HB1.out⟩
open Go.RowKit Go.KP Go.KI Go.Shelf
attribute [local go_sem] Oper.semAt_some

theorem mul_yes {s t : ByteArray} {x y : Int} (h1 : s.data.toList = Lib.itoa x) (h2 : t.data.toList = Lib.itoa y) (f1 : fits x) (f2 : fits y) (f3 : fits (x * y)) (B : Nat) (w : World) (hB : B ≤ w.heap.size) (hT : P10 B w) :
    Calls Tryz.prog 132 #[.string s, .string t] w (Ret w (.tuple #[.string (strB (Lib.itoa (x * y))), .int .i64 0])) := by
  have h := Mul_good h1 h2 f1 f2 B w hB hT
  rw [show resS (x * y) = Lib.itoa (x * y) from if_pos f3, show resE (x * y) = 0 from if_pos f3] at h
  exact h
theorem mul_no {s t : ByteArray} {x y : Int} (h1 : s.data.toList = Lib.itoa x) (h2 : t.data.toList = Lib.itoa y) (f1 : fits x) (f2 : fits y) (f3 : ¬ fits (x * y)) (B : Nat) (w : World) (hB : B ≤ w.heap.size) (hT : P10 B w) :
    Calls Tryz.prog 132 #[.string s, .string t] w (Ret w (.tuple #[.string ⟨#[]⟩, .int .i64 4])) := by
  have h := Mul_good h1 h2 f1 f2 B w hB hT
  rw [show resS (x * y) = [] from if_neg f3, show resE (x * y) = 4 from if_neg f3] at h
  exact h
structure Four (s a t b : ByteArray) (x p y q : Int) : Prop where
  h1 : s.data.toList = Lib.itoa x
  h2 : a.data.toList = Lib.itoa p
  h3 : t.data.toList = Lib.itoa y
  h4 : b.data.toList = Lib.itoa q
  f1 : fits x
  f2 : fits p
  f3 : fits y
  f4 : fits q
theorem crossed_yes {s a t b : ByteArray} {x p y q : Int} (h : Four s a t b x p y q) (fu : fits (x * q)) (fv : fits (y * p)) (B : Nat) (w : World) (hB : B ≤ w.heap.size) (hT : P10 B w) :
    Calls Tryz.prog 128 #[partsV s a, partsV t b] w (Ret w (.tuple #[.string (strB (Lib.itoa (x * q))), .string (strB (Lib.itoa (y * p))), .int .i64 0])) := by
  have H1 := hide (fun w hB hT => mul_yes h.h1 h.h4 h.f1 h.f4 fu B w hB hT)
  have H2 := hide (fun w hB hT => mul_yes h.h3 h.h2 h.f3 h.f2 fv B w hB hT)
  have HT := hide hT
  have X0 := hide (heap2 w (partsO s a) (partsO t b))
  obtain ⟨U, hU⟩ : ∃ U, U = strB (Lib.itoa (x * q)) := ⟨_, rfl⟩
  obtain ⟨V, hV⟩ : ∃ U, U = strB (Lib.itoa (y * p)) := ⟨_, rfl⟩
  rw [← hU] at H1 ⊢
  rw [← hV] at H2 ⊢
  clear hU hV h fu fv hT
  go_enter Tryz.func128, Tryz.ntmps128
  go_wp2_with fail
  refine (H1.out _ (Nat.le_trans hB X0.out.2.2.2.size) (HT.out.on X0.out.2.2.2 hB)).mono ?_
  rintro e w1 ⟨rfl, hb1⟩
  have G1 := hide (below_blk hb1 X0.out.1 (lt_blk X0.out.1))
  have G2 := hide (below_blk hb1 X0.out.2.1 (lt_blk X0.out.2.1))
  have HB1 := hide (X0.out.2.2.2.trans (hb1.mono X0.out.2.2.2.size))
  have c0 := cell_blk G1.out 0
  have c1 := cell_blk G1.out 1
  have c2 := cell_blk G2.out 0
  have c3 := cell_blk G2.out 1
  clear hb1
  go_wp2_with fail
  refine (H2.out _ (Nat.le_trans hB HB1.out.size) (HT.out.on HB1.out hB)).mono ?_
  rintro e w2 ⟨rfl, hb2⟩
  have HB2 := hide (HB1.out.trans (hb2.mono HB1.out.size))
  clear hb2
  go_wp2_with fail
  go_ret3
  exact ⟨rfl, HB2.out⟩
def CrossBad (w : World) (e : Ending) (w2 : World) : Prop := ∃ u v : ByteArray, e = .returned (.tuple #[.string u, .string v, .int .i64 4]) ∧ Below w.heap.size w w2
theorem crossed_no {s a t b : ByteArray} {x p y q : Int} (h : Four s a t b x p y q) (hn : ¬ (fits (x * q) ∧ fits (y * p))) (B : Nat) (w : World) (hB : B ≤ w.heap.size) (hT : P10 B w) :
    Calls Tryz.prog 128 #[partsV s a, partsV t b] w (CrossBad w) := by
  have HT := hide hT
  have X0 := hide (heap2 w (partsO s a) (partsO t b))
  by_cases fu : fits (x * q)
  · have H1 := hide (fun w hB hT => mul_yes h.h1 h.h4 h.f1 h.f4 fu B w hB hT)
    have H2 := hide (fun w hB hT => mul_no h.h3 h.h2 h.f3 h.f2 (fun e => hn ⟨fu, e⟩) B w hB hT)
    obtain ⟨U, hU⟩ : ∃ U, U = strB (Lib.itoa (x * q)) := ⟨_, rfl⟩
    rw [← hU] at H1
    clear hU h fu hn hT
    go_enter Tryz.func128, Tryz.ntmps128
    go_wp2_with fail
    refine (H1.out _ (Nat.le_trans hB X0.out.2.2.2.size) (HT.out.on X0.out.2.2.2 hB)).mono ?_
    rintro e w1 ⟨rfl, hb1⟩
    have G1 := hide (below_blk hb1 X0.out.1 (lt_blk X0.out.1))
    have G2 := hide (below_blk hb1 X0.out.2.1 (lt_blk X0.out.2.1))
    have HB1 := hide (X0.out.2.2.2.trans (hb1.mono X0.out.2.2.2.size))
    have c0 := cell_blk G1.out 0
    have c1 := cell_blk G1.out 1
    have c2 := cell_blk G2.out 0
    have c3 := cell_blk G2.out 1
    clear hb1
    go_wp2_with fail
    refine (H2.out _ (Nat.le_trans hB HB1.out.size) (HT.out.on HB1.out hB)).mono ?_
    rintro e w2 ⟨rfl, hb2⟩
    have HB2 := hide (HB1.out.trans (hb2.mono HB1.out.size))
    clear hb2
    go_wp2_with fail
    go_ret3
    exact ⟨_, _, rfl, HB2.out⟩
  · have H1 := hide (fun w hB hT => mul_no h.h1 h.h4 h.f1 h.f4 fu B w hB hT)
    clear h fu hn hT
    go_enter Tryz.func128, Tryz.ntmps128
    go_wp2_with fail
    refine (H1.out _ (Nat.le_trans hB X0.out.2.2.2.size) (HT.out.on X0.out.2.2.2 hB)).mono ?_
    rintro e w1 ⟨rfl, hb1⟩
    have HB1 := hide (X0.out.2.2.2.trans (hb1.mono X0.out.2.2.2.size))
    clear hb1
    go_wp2_with fail
    go_ret3
    exact ⟨_, _, rfl, HB1.out⟩
open Go.RowKit Go.KP Go.KI Go.Shelf
attribute [local go_sem] Oper.semAt_some

structure IntFn (g : Nat) (f : Int → Int → Int) : Prop where
  enters : ∀ args w, (callFunc g args).run Tryz.prog w = .ok (.enter g args) w
  calls : ∀ (s t : ByteArray) (x y : Int) (B : Nat) (w : World), s.data.toList = Lib.itoa x → t.data.toList = Lib.itoa y → fits x → fits y → B ≤ w.heap.size → P10 B w →
    Calls Tryz.prog g #[.string s, .string t] w (Ret w (pairV (resS (f x y)) (resE (f x y))))
theorem op_call {f : Int → Int → Int} {s t : ByteArray} {x y : Int} (h1 : s.data.toList = Lib.itoa x) (h2 : t.data.toList = Lib.itoa y) (f1 : fits x) (f2 : fits y) :
    s.size ≤ 1000000 ∧ t.size ≤ 1000000 ∧ op2S f s.data.toList t.data.toList = resS (f x y) ∧ op2E f s.data.toList t.data.toList = resE (f x y) := by
  have c1 : chkI s.data.toList = 0 := by rw [h1]; exact chk_fits f1
  have c2 : chkI t.data.toList = 0 := by rw [h2]; exact chk_fits f2
  obtain ⟨_, _, e1, e2⟩ := op2_good (f := f) (show bothI s.data.toList t.data.toList = 0 by unfold bothI; rw [if_pos c1, c2])
  rw [e1, e2, h1, h2, val_itoa, val_itoa]
  have := fits_size h1 f1
  have := fits_size h2 f2
  exact ⟨by omega, by omega, rfl, rfl⟩
theorem subI : IntFn 116 (· - ·) := by
  refine ⟨enters_of Tryz.func116 (by kernel_rfl) rfl, fun s t x y B w h1 h2 f1 f2 hB hT => ?_⟩
  obtain ⟨l1, l2, e1, e2⟩ := op_call (f := (· - ·)) h1 h2 f1 f2
  rw [← e1, ← e2]
  exact Sub_any s t B w l1 l2 hB hT
def combC (f : Int → Int → Int) (x p y q : Int) : Prop := (fits (x * q) ∧ fits (y * p)) ∧ fits (f (x * q) (y * p)) ∧ fits (p * q)
instance (f : Int → Int → Int) (x p y q : Int) : Decidable (combC f x p y q) := inferInstanceAs (Decidable (_ ∧ _ ∧ _))
theorem combined_any {g : Nat} {f : Int → Int → Int} (hg : IntFn g f) {s a t b : ByteArray} {x p y q : Int} (h : Four s a t b x p y q) (h0 : p * q ≠ 0) (bx : Nat) (T : TypeId) (B : Nat) (w : World) (hb : w.heap[bx]? = some (.cells #[.func (.func g) #[] #[]] T (0, 0))) (hB : B ≤ w.heap.size) (hT : P10 B w) :
    Calls Tryz.prog 166 #[partsV s a, partsV t b, .pointer (some ⟨bx, 0, none⟩)] w (Ret w (pairV (if combC f x p y q then ratS (Rat.divInt (f (x * q) (y * p)) (p * q)) else []) (if combC f x p y q then 0 else 4))) := by
  have HT := hide hT
  have X0 := hide (heap2 w (partsO s a) (partsO t b))
  have hbl := lt_blk hb
  have HBX := hide hb
  by_cases hc : fits (x * q) ∧ fits (y * p)
  · have HC := hide (fun w hB hT => crossed_yes h hc.1 hc.2 B w hB hT)
    have HO := hide (fun w hB hT => hg.calls _ _ (x * q) (y * p) B w (strB_list _) (strB_list _) hc.1 hc.2 hB hT)
    have hen := hg.enters
    obtain ⟨U, hU⟩ : ∃ U, U = strB (Lib.itoa (x * q)) := ⟨_, rfl⟩
    obtain ⟨V, hV⟩ : ∃ U, U = strB (Lib.itoa (y * p)) := ⟨_, rfl⟩
    rw [← hU, ← hV] at HC HO
    by_cases hf : fits (f (x * q) (y * p))
    · rw [show resS (f (x * q) (y * p)) = Lib.itoa (f (x * q) (y * p)) from if_pos hf, show resE (f (x * q) (y * p)) = 0 from if_pos hf] at HO
      obtain ⟨N, hN⟩ : ∃ U, U = strB (Lib.itoa (f (x * q) (y * p))) := ⟨_, rfl⟩
      have HO : Hid (∀ w, B ≤ w.heap.size → P10 B w → Calls Tryz.prog g #[.string U, .string V] w (Ret w (.tuple #[.string N, .int .i64 0]))) := hide (by rw [hN]; exact HO.out)
      have hNl : N.data.toList = Lib.itoa (f (x * q) (y * p)) := by rw [hN, strB_list]
      by_cases hd : fits (p * q)
      · have HM := hide (fun w hB hT => mul_yes h.h2 h.h4 h.f2 h.f4 hd B w hB hT)
        obtain ⟨D, hD⟩ : ∃ U, U = strB (Lib.itoa (p * q)) := ⟨_, rfl⟩
        rw [← hD] at HM
        have HN := hide (fun w hB hT => qnumber_any (t := D) hNl (by rw [hD, strB_list]) hf hd h0 B w hB hT)
        have hcc : combC f x p y q := ⟨hc, hf, hd⟩
        rw [if_pos hcc, if_pos hcc]
        obtain ⟨X, hX⟩ : ∃ X, X = strB (ratS (Rat.divInt (f (x * q) (y * p)) (p * q))) := ⟨_, rfl⟩
        rw [show pairV (ratS (Rat.divInt (f (x * q) (y * p)) (p * q))) 0 = .tuple #[.string X, .int .i64 0] by rw [hX]] at HN ⊢
        clear hcc hU hV hN hNl hD hX hc hf hd h h0 hg hT
        go_enter Tryz.func166, Tryz.ntmps166
        go_wp2_with fail
        refine (HC.out _ (Nat.le_trans hB X0.out.2.2.2.size) (HT.out.on X0.out.2.2.2 hB)).mono ?_
        rintro e w1 ⟨rfl, hb1⟩
        have G0 := hide (below_blk hb1 ((below_blk X0.out.2.2.2 HBX.out hbl)) (Nat.lt_of_lt_of_le hbl X0.out.2.2.2.size))
        have G1 := hide (below_blk hb1 X0.out.1 (lt_blk X0.out.1))
        have G2 := hide (below_blk hb1 X0.out.2.1 (lt_blk X0.out.2.1))
        have HB1 := hide (X0.out.2.2.2.trans (hb1.mono X0.out.2.2.2.size))
        have cx := cell_blk G0.out 0
        clear hb1
        go_wp2_with fail
        refine (HO.out _ (Nat.le_trans hB HB1.out.size) (HT.out.on HB1.out hB)).mono ?_
        rintro e w2 ⟨rfl, hb2⟩
        have G3 := hide (below_blk hb2 G1.out (lt_blk G1.out))
        have G4 := hide (below_blk hb2 G2.out (lt_blk G2.out))
        have HB2 := hide (HB1.out.trans (hb2.mono HB1.out.size))
        have c1 := cell_blk G3.out 1
        have c3 := cell_blk G4.out 1
        clear hb2 cx
        go_wp2_with fail
        refine (HM.out _ (Nat.le_trans hB HB2.out.size) (HT.out.on HB2.out hB)).mono ?_
        rintro e w3 ⟨rfl, hb3⟩
        have HB3 := hide (HB2.out.trans (hb3.mono HB2.out.size))
        clear hb3 c1 c3
        go_wp2_with fail
        refine (HN.out _ (Nat.le_trans hB HB3.out.size) (HT.out.on HB3.out hB)).mono ?_
        rintro e w4 ⟨rfl, hb4⟩
        have HB4 := hide (HB3.out.trans (hb4.mono HB3.out.size))
        clear hb4
        go_wp2_with fail
        refine bodyPost_ret (results_tmp2 rfl _ _ _) rfl ?_
        exact ⟨rfl, HB4.out⟩
      · have HM := hide (fun w hB hT => mul_no h.h2 h.h4 h.f2 h.f4 hd B w hB hT)
        have hcc : ¬ combC f x p y q := fun e => hd e.2.2
        rw [if_neg hcc, if_neg hcc]
        rw [show pairV [] 4 = .tuple #[.string ⟨#[]⟩, .int .i64 4] from rfl]
        clear hcc hU hV hN hNl hc hf hd h h0 hg hT
        go_enter Tryz.func166, Tryz.ntmps166
        go_wp2_with fail
        refine (HC.out _ (Nat.le_trans hB X0.out.2.2.2.size) (HT.out.on X0.out.2.2.2 hB)).mono ?_
        rintro e w1 ⟨rfl, hb1⟩
        have G0 := hide (below_blk hb1 ((below_blk X0.out.2.2.2 HBX.out hbl)) (Nat.lt_of_lt_of_le hbl X0.out.2.2.2.size))
        have G1 := hide (below_blk hb1 X0.out.1 (lt_blk X0.out.1))
        have G2 := hide (below_blk hb1 X0.out.2.1 (lt_blk X0.out.2.1))
        have HB1 := hide (X0.out.2.2.2.trans (hb1.mono X0.out.2.2.2.size))
        have cx := cell_blk G0.out 0
        clear hb1
        go_wp2_with fail
        refine (HO.out _ (Nat.le_trans hB HB1.out.size) (HT.out.on HB1.out hB)).mono ?_
        rintro e w2 ⟨rfl, hb2⟩
        have G3 := hide (below_blk hb2 G1.out (lt_blk G1.out))
        have G4 := hide (below_blk hb2 G2.out (lt_blk G2.out))
        have HB2 := hide (HB1.out.trans (hb2.mono HB1.out.size))
        have c1 := cell_blk G3.out 1
        have c3 := cell_blk G4.out 1
        clear hb2 cx
        go_wp2_with fail
        refine (HM.out _ (Nat.le_trans hB HB2.out.size) (HT.out.on HB2.out hB)).mono ?_
        rintro e w3 ⟨rfl, hb3⟩
        have HB3 := hide (HB2.out.trans (hb3.mono HB2.out.size))
        clear hb3 c1 c3
        go_wp2_with fail
        refine bodyPost_ret (results_tmp2 rfl _ _ _) rfl ?_
        exact ⟨rfl, HB3.out⟩
    · rw [show resS (f (x * q) (y * p)) = [] from if_neg hf, show resE (f (x * q) (y * p)) = 4 from if_neg hf] at HO
      have HO : Hid (∀ w, B ≤ w.heap.size → P10 B w → Calls Tryz.prog g #[.string U, .string V] w (Ret w (.tuple #[.string ⟨#[]⟩, .int .i64 4]))) := hide HO.out
      have hcc : ¬ combC f x p y q := fun e => hf e.2.1
      rw [if_neg hcc, if_neg hcc]
      rw [show pairV [] 4 = .tuple #[.string ⟨#[]⟩, .int .i64 4] from rfl]
      clear hcc hU hV hc hf h h0 hg hT
      go_enter Tryz.func166, Tryz.ntmps166
      go_wp2_with fail
      refine (HC.out _ (Nat.le_trans hB X0.out.2.2.2.size) (HT.out.on X0.out.2.2.2 hB)).mono ?_
      rintro e w1 ⟨rfl, hb1⟩
      have G0 := hide (below_blk hb1 ((below_blk X0.out.2.2.2 HBX.out hbl)) (Nat.lt_of_lt_of_le hbl X0.out.2.2.2.size))
      have HB1 := hide (X0.out.2.2.2.trans (hb1.mono X0.out.2.2.2.size))
      have cx := cell_blk G0.out 0
      clear hb1
      go_wp2_with fail
      refine (HO.out _ (Nat.le_trans hB HB1.out.size) (HT.out.on HB1.out hB)).mono ?_
      rintro e w2 ⟨rfl, hb2⟩
      have HB2 := hide (HB1.out.trans (hb2.mono HB1.out.size))
      clear hb2 cx
      go_wp2_with fail
      refine bodyPost_ret (results_tmp2 rfl _ _ _) rfl ?_
      exact ⟨rfl, HB2.out⟩
  · have HC := hide (fun w hB hT => crossed_no h hc B w hB hT)
    have hcc : ¬ combC f x p y q := fun e => hc e.1
    rw [if_neg hcc, if_neg hcc]
    rw [show pairV [] 4 = .tuple #[.string ⟨#[]⟩, .int .i64 4] from rfl]
    clear hcc hc h h0 hg hT
    go_enter Tryz.func166, Tryz.ntmps166
    go_wp2_with fail
    refine (HC.out _ (Nat.le_trans hB X0.out.2.2.2.size) (HT.out.on X0.out.2.2.2 hB)).mono ?_
    rintro e w1 ⟨u, v, rfl, hb1⟩
    have HB1 := hide (X0.out.2.2.2.trans (hb1.mono X0.out.2.2.2.size))
    clear hb1
    go_wp2_with fail
    refine bodyPost_ret (results_tmp2 rfl _ _ _) rfl ?_
    exact ⟨rfl, HB1.out⟩
open Go.RowKit Go.KP Go.KI Go.Shelf
attribute [local go_sem] Oper.semAt_some

structure NatFn (f : Nat) (A C : Int → Int → Int → Int → Int) : Prop where
  enters : ∀ args w, (callFunc f args).run Tryz.prog w = .ok (.enter f args) w
  calls : ∀ (a b c d : Int) (w : World), a.natAbs < 100000000 → b.natAbs < 100000000 → c.natAbs < 100000000 → d.natAbs < 100000000 → Calls Tryz.prog f #[natV a b, natV c d] w (Ret w (natV (A a b c d) (C a b c d)))
theorem mul_i64 {a b : Int} (ha : a.natAbs < 100000000) (hb : b.natAbs < 100000000) : (a * b).natAbs < 10000000000000000 ∧ IntKind.i64.wrap (a * b) = a * b := by
  have h : (a * b).natAbs < 10000000000000000 := by
    rw [Int.natAbs_mul]
    have := Nat.mul_lt_mul'' ha hb
    omega
  exact ⟨h, IntWalk.i64_in _ (by omega)⟩
theorem exit_nat {f : Func} {R : Ending → World → Prop} {a : Act} {W : World} {b : Nat} {n d : Int} (hf : f.results = #[.cell 4 164]) (hb : W.heap[b]? = some (natO n d)) (h2 : a.tmps[4]? = some (.pointer (some ⟨b, 0, none⟩))) (hd : a.defers = []) (hR : R (.returned (natV n d)) W) :
    bodyPost Tryz.prog f R .ret a W := by
  have hcell := fun o => cell_blk hb o
  refine bodyPost_ret ?_ hd hR
  simp [results, hf, go_sem, hcell, h2]
theorem subFn : NatFn 113 (fun a b c d => a * d - c * b) (fun _ b _ d => b * d) := by
  refine ⟨enters_of Tryz.func113 (by kernel_rfl) rfl, fun a b c d w ha hb hc hd => ?_⟩
  obtain ⟨m1, e1⟩ := mul_i64 ha hd
  obtain ⟨m2, e2⟩ := mul_i64 hc hb
  obtain ⟨m3, e3⟩ := mul_i64 hb hd
  have e4 : IntKind.i64.wrap (a * d - c * b) = a * d - c * b := IntWalk.i64_in _ (by omega)
  clear m1 m2 m3
  clear ha hb hc hd
  go_enter Tryz.func113, Tryz.ntmps113
  go_wp2_with fail
  have h3 := heap3 w (natO a b) (natO c d) (natO (a * d - c * b) (b * d))
  exact exit_nat rfl h3.2.2.1 (by rfl) (by rfl) ⟨rfl, h3.2.2.2.2⟩
theorem mulFn : NatFn 130 (fun a _ c _ => a * c) (fun _ b _ d => b * d) := by
  refine ⟨enters_of Tryz.func130 (by kernel_rfl) rfl, fun a b c d w ha hb hc hd => ?_⟩
  obtain ⟨m1, e1⟩ := mul_i64 ha hc
  obtain ⟨m3, e3⟩ := mul_i64 hb hd
  clear m1 m3
  clear ha hb hc hd
  go_enter Tryz.func130, Tryz.ntmps130
  go_wp2_with fail
  have h3 := heap3 w (natO a b) (natO c d) (natO (a * c) (b * d))
  exact exit_nat rfl h3.2.2.1 (by rfl) (by rfl) ⟨rfl, h3.2.2.2.2⟩
theorem quick_no (s t : ByteArray) (hs : s.size ≤ 1000000) (ht : t.size ≤ 1000000) (f : Nat) (h : ¬ (natQ s.data.toList ∧ natQ t.data.toList)) (w : World) :
    Calls Tryz.prog 112 #[.string s, .string t, .func (.func f) #[] #[]] w (Ret w (.tuple #[.string ⟨#[]⟩, .bool false])) := by
  have H1 := hide (nativeOf_any s hs w)
  have H2 := hide (fun w => nativeOf_any t ht w)
  by_cases h1 : natQ s.data.toList
  · rw [natOV_yes h1] at H1
    rw [natOV_no (fun e => h ⟨h1, e⟩)] at H2
    clear h h1
    go_enter Tryz.func112, Tryz.ntmps112
    go_wp2_with fail
    refine H1.out.mono ?_
    rintro e w1 ⟨rfl, hb1⟩
    have HB1 := hide (hb1.trans ((heap1 w1 (natO (valQ s.data.toList).num ((valQ s.data.toList).den : Nat))).2.2.mono hb1.size))
    clear hb1
    go_wp2_with fail
    refine (H2.out _).mono ?_
    rintro e w2 ⟨rfl, hb2⟩
    have HB2 := hide (HB1.out.trans (hb2.mono HB1.out.size))
    clear hb2
    go_wp2_with fail
    refine bodyPost_ret (results_tmp2 rfl _ _ _) rfl ?_
    exact ⟨rfl, HB2.out.trans ((heap1 w2 _).2.2.mono HB2.out.size)⟩
  · rw [natOV_no h1] at H1
    clear h h1 H2
    go_enter Tryz.func112, Tryz.ntmps112
    go_wp2_with fail
    refine H1.out.mono ?_
    rintro e w1 ⟨rfl, hb1⟩
    have HB1 := hide hb1
    clear hb1
    go_wp2_with fail
    refine bodyPost_ret (results_tmp2 rfl _ _ _) rfl ?_
    exact ⟨rfl, HB1.out.trans ((heap1 w1 _).2.2.mono HB1.out.size)⟩
theorem quick_yes (s t : ByteArray) (hs : s.size ≤ 1000000) (ht : t.size ≤ 1000000) (f : Nat) {A C : Int → Int → Int → Int → Int} (hf : NatFn f A C) (h1 : natQ s.data.toList) (h2 : natQ t.data.toList) {n d : Int} (hn : A (valQ s.data.toList).num (valQ s.data.toList).den (valQ t.data.toList).num (valQ t.data.toList).den = n) (hd : C (valQ s.data.toList).num (valQ s.data.toList).den (valQ t.data.toList).num (valQ t.data.toList).den = d)
    (n1 : n.natAbs < 100000000000000000) (d1 : d.natAbs < 100000000000000000) (d0 : d ≠ 0) (B : Nat) (w : World) (hB : B ≤ w.heap.size) (hT : P10 B w) :
    Calls Tryz.prog 112 #[.string s, .string t, .func (.func f) #[] #[]] w (Ret w (.tuple #[.string (strB (ratS (Rat.divInt n d))), .bool true])) := by
  have H1 := hide (nativeOf_any s hs w)
  have H2 := hide (fun w => nativeOf_any t ht w)
  rw [natOV_yes h1] at H1
  rw [natOV_yes h2] at H2
  obtain ⟨a1, a2, _⟩ := natQ_lt h1
  obtain ⟨b1, b2, _⟩ := natQ_lt h2
  have HF := hide (fun w => hf.calls _ _ _ _ w a1 (show ((valQ s.data.toList).den : Int).natAbs < 100000000 by rw [Int.natAbs_natCast]; exact a2) b1 (show ((valQ t.data.toList).den : Int).natAbs < 100000000 by rw [Int.natAbs_natCast]; exact b2))
  rw [hn, hd] at HF
  have hen := hf.enters
  have HT := hide hT
  have HN := hide (fun w hB hT => nnumber_any n d n1 d1 d0 B w hB hT)
  obtain ⟨p, hp⟩ : ∃ p : Int, p = (valQ s.data.toList).num := ⟨_, rfl⟩
  obtain ⟨q, hq⟩ : ∃ p : Int, p = ((valQ s.data.toList).den : Int) := ⟨_, rfl⟩
  obtain ⟨u, hu⟩ : ∃ p : Int, p = (valQ t.data.toList).num := ⟨_, rfl⟩
  obtain ⟨v, hv⟩ : ∃ p : Int, p = ((valQ t.data.toList).den : Int) := ⟨_, rfl⟩
  rw [← hp, ← hq] at H1 HF
  rw [← hu, ← hv] at H2 HF
  obtain ⟨X, hX⟩ : ∃ X, X = strB (ratS (Rat.divInt n d)) := ⟨_, rfl⟩
  rw [← hX] at HN ⊢
  clear hn hd hp hq hu hv hX h1 h2 a1 a2 b1 b2 hf n1 d1 d0 hT
  go_enter Tryz.func112, Tryz.ntmps112
  go_wp2_with fail
  refine H1.out.mono ?_
  rintro e w1 ⟨rfl, hb1⟩
  have X1 := hide (heap1 w1 (natO p q))
  have HB1 := hide (hb1.trans (X1.out.2.2.mono hb1.size))
  clear hb1
  go_wp2_with fail
  refine (H2.out _).mono ?_
  rintro e w2 ⟨rfl, hb2⟩
  have G2 := hide (below_blk hb2 X1.out.1 (lt_blk X1.out.1))
  have HB2 := hide (HB1.out.trans (hb2.mono HB1.out.size))
  have X2 := hide (heap1 w2 (natO u v))
  have HB2b := hide (HB2.out.trans (X2.out.2.2.mono HB2.out.size))
  have c0 := cell_blk G2.out 0
  have c1 := cell_blk G2.out 1
  have hl := lt_blk G2.out
  clear hb2
  go_wp2_with fail
  refine (HF.out _).mono ?_
  rintro e w3 ⟨rfl, hb3⟩
  have HB3 := hide (HB2b.out.trans (hb3.mono HB2b.out.size))
  clear hb3 c0 c1
  go_wp2_with fail
  refine (HN.out _ (Nat.le_trans hB HB3.out.size) (HT.out.on HB3.out hB)).mono ?_
  rintro e w4 ⟨rfl, hb4⟩
  have HB4 := hide (HB3.out.trans (hb4.mono HB3.out.size))
  clear hb4
  go_wp2_with fail
  refine bodyPost_ret (results_tmp2 rfl _ _ _) rfl ?_
  exact ⟨rfl, HB4.out⟩
open Go.RowKit Go.KP Go.KI Go.Shelf
attribute [local go_sem] Oper.semAt_some

theorem pairV_err (z : Int) : pairV [] z = .tuple #[.string ⟨#[]⟩, .int .i64 z] := rfl
theorem mul2_any {s a t b : ByteArray} {x p y q : Int} (h : Four s a t b x p y q) (h0 : p * q ≠ 0) (B : Nat) (w : World) (hB : B ≤ w.heap.size) (hT : P10 B w) :
    Calls Tryz.prog 131 #[partsV s a, partsV t b] w (Ret w (pairV (if fits (x * y) ∧ fits (p * q) then ratS (Rat.divInt (x * y) (p * q)) else []) (if fits (x * y) ∧ fits (p * q) then 0 else 4))) := by
  have HT := hide hT
  have X0 := hide (heap2 w (partsO s a) (partsO t b))
  by_cases hf : fits (x * y)
  · have HO := hide (fun w hB hT => mul_yes h.h1 h.h3 h.f1 h.f3 hf B w hB hT)
    obtain ⟨N, hN⟩ : ∃ U, U = strB (Lib.itoa (x * y)) := ⟨_, rfl⟩
    have hNl : N.data.toList = Lib.itoa (x * y) := by rw [hN, strB_list]
    rw [← hN] at HO
    by_cases hd : fits (p * q)
    · have HM := hide (fun w hB hT => mul_yes h.h2 h.h4 h.f2 h.f4 hd B w hB hT)
      obtain ⟨D, hD⟩ : ∃ U, U = strB (Lib.itoa (p * q)) := ⟨_, rfl⟩
      rw [← hD] at HM
      have HN := hide (fun w hB hT => qnumber_any (t := D) hNl (by rw [hD, strB_list]) hf hd h0 B w hB hT)
      rw [if_pos ⟨hf, hd⟩, if_pos ⟨hf, hd⟩]
      obtain ⟨X, hX⟩ : ∃ X, X = strB (ratS (Rat.divInt (x * y) (p * q))) := ⟨_, rfl⟩
      rw [show pairV (ratS (Rat.divInt (x * y) (p * q))) 0 = .tuple #[.string X, .int .i64 0] by rw [hX]] at HN ⊢
      clear hN hNl hD hX hf hd h h0 hT
      go_enter Tryz.func131, Tryz.ntmps131
      go_wp2_with fail
      refine (HO.out _ (Nat.le_trans hB X0.out.2.2.2.size) (HT.out.on X0.out.2.2.2 hB)).mono ?_
      rintro e w1 ⟨rfl, hb1⟩
      have G1 := hide (below_blk hb1 X0.out.1 (lt_blk X0.out.1))
      have G2 := hide (below_blk hb1 X0.out.2.1 (lt_blk X0.out.2.1))
      have HB1 := hide (X0.out.2.2.2.trans (hb1.mono X0.out.2.2.2.size))
      have c1 := cell_blk G1.out 1
      have c3 := cell_blk G2.out 1
      clear hb1
      go_wp2_with fail
      refine (HM.out _ (Nat.le_trans hB HB1.out.size) (HT.out.on HB1.out hB)).mono ?_
      rintro e w3 ⟨rfl, hb3⟩
      have HB3 := hide (HB1.out.trans (hb3.mono HB1.out.size))
      clear hb3 c1 c3
      go_wp2_with fail
      refine (HN.out _ (Nat.le_trans hB HB3.out.size) (HT.out.on HB3.out hB)).mono ?_
      rintro e w4 ⟨rfl, hb4⟩
      have HB4 := hide (HB3.out.trans (hb4.mono HB3.out.size))
      clear hb4
      go_wp2_with fail
      refine bodyPost_ret (results_tmp2 rfl _ _ _) rfl ?_
      exact ⟨rfl, HB4.out⟩
    · have HM := hide (fun w hB hT => mul_no h.h2 h.h4 h.f2 h.f4 hd B w hB hT)
      rw [if_neg (fun e => hd e.2), if_neg (fun e => hd e.2), pairV_err]
      clear hN hNl hf hd h h0 hT
      go_enter Tryz.func131, Tryz.ntmps131
      go_wp2_with fail
      refine (HO.out _ (Nat.le_trans hB X0.out.2.2.2.size) (HT.out.on X0.out.2.2.2 hB)).mono ?_
      rintro e w1 ⟨rfl, hb1⟩
      have G1 := hide (below_blk hb1 X0.out.1 (lt_blk X0.out.1))
      have G2 := hide (below_blk hb1 X0.out.2.1 (lt_blk X0.out.2.1))
      have HB1 := hide (X0.out.2.2.2.trans (hb1.mono X0.out.2.2.2.size))
      have c1 := cell_blk G1.out 1
      have c3 := cell_blk G2.out 1
      clear hb1
      go_wp2_with fail
      refine (HM.out _ (Nat.le_trans hB HB1.out.size) (HT.out.on HB1.out hB)).mono ?_
      rintro e w3 ⟨rfl, hb3⟩
      have HB3 := hide (HB1.out.trans (hb3.mono HB1.out.size))
      clear hb3 c1 c3
      go_wp2_with fail
      refine bodyPost_ret (results_tmp2 rfl _ _ _) rfl ?_
      exact ⟨rfl, HB3.out⟩
  · have HO := hide (fun w hB hT => mul_no h.h1 h.h3 h.f1 h.f3 hf B w hB hT)
    rw [if_neg (fun e => hf e.1), if_neg (fun e => hf e.1), pairV_err]
    clear hf h h0 hT
    go_enter Tryz.func131, Tryz.ntmps131
    go_wp2_with fail
    refine (HO.out _ (Nat.le_trans hB X0.out.2.2.2.size) (HT.out.on X0.out.2.2.2 hB)).mono ?_
    rintro e w1 ⟨rfl, hb1⟩
    have HB1 := hide (X0.out.2.2.2.trans (hb1.mono X0.out.2.2.2.size))
    clear hb1
    go_wp2_with fail
    refine bodyPost_ret (results_tmp2 rfl _ _ _) rfl ?_
    exact ⟨rfl, HB1.out⟩
abbrev boxF (g : Nat) : Obj := .cells #[.func (.func g) #[] #[]] 169
def CombRet (g : Nat) (w : World) (e : Ending) (w2 : World) : Prop := e = .returned (.func (.func 166) #[] #[.pointer (some ⟨w.heap.size, 0, none⟩)]) ∧ w2 = w.alloc (boxF g)
theorem makeComb_any (g : Nat) (w : World) :
    Calls Tryz.prog 115 #[.func (.func g) #[] #[]] w (CombRet g w) := by
  have hmf : ∀ (fn : Fn) (first cap : Array Value) (w : World), (Instr.makeFunc fn first cap).run Tryz.prog w = .ok (.func fn first cap) w := fun _ _ _ _ => rfl
  go_enter Tryz.func115, Tryz.ntmps115
  go_wp2_with fail
  go_ret
  exact ⟨rfl, rfl⟩
open Go.RowKit Go.KP Go.KI Go.Shelf
attribute [local go_sem] Oper.semAt_some

def qopS (C : Rat → Rat → Prop) [∀ x y, Decidable (C x y)] (f : Rat → Rat → Rat) (a b : List UInt8) : List UInt8 := if bothQ a b = 0 then (if C (valQ a) (valQ b) then ratS (f (valQ a) (valQ b)) else []) else []
def qopE (C : Rat → Rat → Prop) [∀ x y, Decidable (C x y)] (a b : List UInt8) : Int := if bothQ a b = 0 then (if C (valQ a) (valQ b) then 0 else 4) else bothQ a b
theorem bothQ_zero {a b : List UInt8} (h : bothQ a b = 0) : chkQ a = 0 ∧ chkQ b = 0 := by
  unfold bothQ at h
  by_cases h1 : chkQ a = 0
  · rw [if_pos h1] at h
    exact ⟨h1, h⟩
  · rw [if_neg h1] at h
    exact absurd h h1
theorem zero_bothQ {a b : List UInt8} (h1 : chkQ a = 0) (h2 : chkQ b = 0) : bothQ a b = 0 := by unfold bothQ; rw [if_pos h1, h2]
theorem four_of {a b : List UInt8} (h1 : chkQ a = 0) (h2 : chkQ b = 0) : Four (strB (Lib.itoa (valQ a).num)) (strB (Lib.itoa ((valQ a).den : Int))) (strB (Lib.itoa (valQ b).num)) (strB (Lib.itoa ((valQ b).den : Int))) (valQ a).num ((valQ a).den : Int) (valQ b).num ((valQ b).den : Int) := by
  obtain ⟨_, f1, _, _⟩ := chkQ_ok h1
  obtain ⟨_, f2, _, _⟩ := chkQ_ok h2
  exact ⟨strB_list _, strB_list _, strB_list _, strB_list _, f1.1, f1.2, f2.1, f2.2⟩
theorem most8 : 8 + 8 + 1 ≤ most := by rw [most_eq]; omega
theorem den_i (x : Rat) : (x.den : Int) ≠ 0 := den_ne x
theorem quick_nums {a b : List UInt8} (h1 : natQ a) (h2 : natQ b) : ((valQ a).num * ((valQ b).den : Int)).natAbs < 10000000000000000 ∧ ((valQ b).num * ((valQ a).den : Int)).natAbs < 10000000000000000 ∧ (((valQ a).den : Int) * ((valQ b).den : Int)).natAbs < 10000000000000000 ∧ ((valQ a).num * (valQ b).num).natAbs < 10000000000000000 ∧ (((valQ a).den : Int) * (valQ b).num).natAbs < 10000000000000000 := by
  obtain ⟨a1, a2, _⟩ := natQ_lt h1
  obtain ⟨b1, b2, _⟩ := natQ_lt h2
  have a3 : ((valQ a).den : Int).natAbs < 100000000 := by rw [Int.natAbs_natCast]; exact a2
  have b3 : ((valQ b).den : Int).natAbs < 100000000 := by rw [Int.natAbs_natCast]; exact b2
  exact ⟨(mul_i64 a1 b3).1, (mul_i64 b1 a3).1, (mul_i64 a3 b3).1, (mul_i64 a1 b1).1, (mul_i64 a3 b1).1⟩
theorem subC_iff (x y : Rat) : combC (· - ·) x.num (x.den : Int) y.num (y.den : Int) ↔ subC x y :=
  ⟨fun h => ⟨h.1.1, h.1.2, h.2.1, h.2.2⟩, fun h => ⟨⟨h.1, h.2.1⟩, h.2.2.1, h.2.2.2⟩⟩
theorem qSub_any (s t : ByteArray) (hs : s.size ≤ 1000000) (ht : t.size ≤ 1000000) (B : Nat) (w : World) (hB : B ≤ w.heap.size) (hT : PQ B w) :
    Calls Tryz.prog 62 #[.string s, .string t] w (Ret w (pairV (qopS subC (· - ·) s.data.toList t.data.toList) (qopE subC s.data.toList t.data.toList))) := by
  have HT := hide hT
  by_cases hq : natQ s.data.toList ∧ natQ t.data.toList
  · obtain ⟨k1, k2, k3, _, _⟩ := quick_nums hq.1 hq.2
    have hb := zero_bothQ hq.1.1 hq.2.1
    have hc : subC (valQ s.data.toList) (valQ t.data.toList) := subC_of (natQ_sz hq.1) (natQ_sz hq.2) most8
    have e1 : qopS subC (· - ·) s.data.toList t.data.toList = ratS (valQ s.data.toList - valQ t.data.toList) := by unfold qopS; rw [if_pos hb, if_pos hc]
    have e2 : qopE subC s.data.toList t.data.toList = 0 := by unfold qopE; rw [if_pos hb, if_pos hc]
    rw [e1, e2]
    have HQ := hide (quick_yes s t hs ht 113 subFn hq.1 hq.2 rfl rfl (by omega) (by omega) (Int.mul_ne_zero (den_i _) (den_i _)) B w hB hT.p10)
    rw [divInt_sub] at HQ
    obtain ⟨X, hX⟩ : ∃ X, X = strB (ratS (valQ s.data.toList - valQ t.data.toList)) := ⟨_, rfl⟩
    rw [show pairV (ratS (valQ s.data.toList - valQ t.data.toList)) 0 = .tuple #[.string X, .int .i64 0] by rw [hX]]
    rw [← hX] at HQ
    clear hX e1 e2 hc hb k1 k2 k3 hq hT
    go_enter Tryz.func62, Tryz.ntmps62
    go_wp2_with fail
    refine HQ.out.mono ?_
    rintro e w1 ⟨rfl, hb1⟩
    have HB1 := hide hb1
    clear hb1
    go_wp2_with fail
    refine bodyPost_ret (results_tmp2 rfl _ _ _) rfl ?_
    exact ⟨rfl, HB1.out⟩
  · have HQ := hide (quick_no s t hs ht 113 hq w)
    have key : ∀ W bx, Below w.heap.size w W → W.heap[bx]? = some (boxF 116) → Calls Tryz.prog 114 #[.string s, .string t, .func (.func 166) #[] #[.pointer (some ⟨bx, 0, none⟩)]] W (Ret W (pairV (qopS subC (· - ·) s.data.toList t.data.toList) (qopE subC s.data.toList t.data.toList))) := by
      intro W bx hW hbx
      have hBW := Nat.le_trans hB hW.size
      by_cases hb : bothQ s.data.toList t.data.toList = 0
      · obtain ⟨c1, c2⟩ := bothQ_zero hb
        have h4 := four_of c1 c2
        refine qboth_good s t hs ht 166 _ c1 c2 (enters_of Tryz.func166 (by kernel_rfl) rfl) _ _ B W hBW (HT.out.on hW hB) ?_
        intro W2 hW2
        have h := combined_any subI h4 (Int.mul_ne_zero (den_i _) (den_i _)) bx _ B W2 (below_blk hW2 hbx (lt_blk hbx)) (Nat.le_trans hBW hW2.size) ((HT.out.p10.on hW hB).on hW2 hBW)
        unfold qopS qopE
        rw [if_pos hb, if_pos hb]
        by_cases hc : subC (valQ s.data.toList) (valQ t.data.toList)
        · rw [if_pos (((subC_iff _ _).2 hc)), if_pos (((subC_iff _ _).2 hc)), divInt_sub] at h
          rw [if_pos hc, if_pos hc]
          exact h
        · rw [if_neg (fun e => hc ((subC_iff _ _).1 e)), if_neg (fun e => hc ((subC_iff _ _).1 e))] at h
          rw [if_neg hc, if_neg hc]
          exact h
      · unfold qopS qopE
        rw [if_neg hb, if_neg hb]
        exact qboth_bad s t hs ht _ hb B W hBW (HT.out.on hW hB)
    have HK := hide key
    obtain ⟨X, hX⟩ : ∃ X, X = strB (qopS subC (· - ·) s.data.toList t.data.toList) := ⟨_, rfl⟩
    obtain ⟨E, hE⟩ : ∃ E, E = qopE subC s.data.toList t.data.toList := ⟨_, rfl⟩
    rw [show pairV (qopS subC (· - ·) s.data.toList t.data.toList) (qopE subC s.data.toList t.data.toList) = .tuple #[.string X, .int .i64 E] by rw [hX, hE]] at HK ⊢
    clear key hX hE hq hT
    go_enter Tryz.func62, Tryz.ntmps62
    go_wp2_with fail
    refine HQ.out.mono ?_
    rintro e w1 ⟨rfl, hb1⟩
    have HB1 := hide hb1
    clear hb1
    go_wp2_with fail
    refine (makeComb_any _ _).mono ?_
    rintro e w2 ⟨rfl, rfl⟩
    have X1 := hide (heap1 w1 (boxF 116))
    have HB2 := hide (HB1.out.trans (X1.out.2.2.mono HB1.out.size))
    go_wp2_with fail
    refine (HK.out _ _ HB2.out X1.out.1).mono ?_
    rintro e w3 ⟨rfl, hb3⟩
    have HB3 := hide (HB2.out.trans (hb3.mono HB2.out.size))
    clear hb3
    go_wp2_with fail
    refine bodyPost_ret (results_tmp2 rfl _ _ _) rfl ?_
    exact ⟨rfl, HB3.out⟩
theorem qMul_any (s t : ByteArray) (hs : s.size ≤ 1000000) (ht : t.size ≤ 1000000) (B : Nat) (w : World) (hB : B ≤ w.heap.size) (hT : PQ B w) :
    Calls Tryz.prog 79 #[.string s, .string t] w (Ret w (pairV (qopS mulC (· * ·) s.data.toList t.data.toList) (qopE mulC s.data.toList t.data.toList))) := by
  have HT := hide hT
  by_cases hq : natQ s.data.toList ∧ natQ t.data.toList
  · obtain ⟨_, _, k3, k4, _⟩ := quick_nums hq.1 hq.2
    have hb := zero_bothQ hq.1.1 hq.2.1
    have hc : mulC (valQ s.data.toList) (valQ t.data.toList) := mulC_of (natQ_sz hq.1) (natQ_sz hq.2) (by rw [most_eq]; omega)
    have e1 : qopS mulC (· * ·) s.data.toList t.data.toList = ratS (valQ s.data.toList * valQ t.data.toList) := by unfold qopS; rw [if_pos hb, if_pos hc]
    have e2 : qopE mulC s.data.toList t.data.toList = 0 := by unfold qopE; rw [if_pos hb, if_pos hc]
    rw [e1, e2]
    have HQ := hide (quick_yes s t hs ht 130 mulFn hq.1 hq.2 rfl rfl (by omega) (by omega) (Int.mul_ne_zero (den_i _) (den_i _)) B w hB hT.p10)
    rw [divInt_mul] at HQ
    obtain ⟨X, hX⟩ : ∃ X, X = strB (ratS (valQ s.data.toList * valQ t.data.toList)) := ⟨_, rfl⟩
    rw [show pairV (ratS (valQ s.data.toList * valQ t.data.toList)) 0 = .tuple #[.string X, .int .i64 0] by rw [hX]]
    rw [← hX] at HQ
    clear hX e1 e2 hc hb k3 k4 hq hT
    go_enter Tryz.func79, Tryz.ntmps79
    go_wp2_with fail
    refine HQ.out.mono ?_
    rintro e w1 ⟨rfl, hb1⟩
    have HB1 := hide hb1
    clear hb1
    go_wp2_with fail
    refine bodyPost_ret (results_tmp2 rfl _ _ _) rfl ?_
    exact ⟨rfl, HB1.out⟩
  · have HQ := hide (quick_no s t hs ht 130 hq w)
    have key : ∀ W, Below w.heap.size w W → Calls Tryz.prog 114 #[.string s, .string t, .func (.func 131) #[] #[]] W (Ret W (pairV (qopS mulC (· * ·) s.data.toList t.data.toList) (qopE mulC s.data.toList t.data.toList))) := by
      intro W hW
      have hBW := Nat.le_trans hB hW.size
      by_cases hb : bothQ s.data.toList t.data.toList = 0
      · obtain ⟨c1, c2⟩ := bothQ_zero hb
        have h4 := four_of c1 c2
        refine qboth_good s t hs ht 131 #[] c1 c2 (enters_of Tryz.func131 (by kernel_rfl) rfl) _ _ B W hBW (HT.out.on hW hB) ?_
        intro W2 hW2
        have h := mul2_any h4 (Int.mul_ne_zero (den_i _) (den_i _)) B W2 (Nat.le_trans hBW hW2.size) ((HT.out.p10.on hW hB).on hW2 hBW)
        unfold qopS qopE
        rw [if_pos hb, if_pos hb]
        rw [divInt_mul] at h
        exact h
      · unfold qopS qopE
        rw [if_neg hb, if_neg hb]
        exact qboth_bad s t hs ht _ hb B W hBW (HT.out.on hW hB)
    have HK := hide key
    obtain ⟨X, hX⟩ : ∃ X, X = strB (qopS mulC (· * ·) s.data.toList t.data.toList) := ⟨_, rfl⟩
    obtain ⟨E, hE⟩ : ∃ E, E = qopE mulC s.data.toList t.data.toList := ⟨_, rfl⟩
    rw [show pairV (qopS mulC (· * ·) s.data.toList t.data.toList) (qopE mulC s.data.toList t.data.toList) = .tuple #[.string X, .int .i64 E] by rw [hX, hE]] at HK ⊢
    clear key hX hE hq hT
    go_enter Tryz.func79, Tryz.ntmps79
    go_wp2_with fail
    refine HQ.out.mono ?_
    rintro e w1 ⟨rfl, hb1⟩
    have HB1 := hide hb1
    clear hb1
    go_wp2_with fail
    refine (HK.out _ HB1.out).mono ?_
    rintro e w3 ⟨rfl, hb3⟩
    have HB3 := hide (HB1.out.trans (hb3.mono HB1.out.size))
    clear hb3
    go_wp2_with fail
    refine bodyPost_ret (results_tmp2 rfl _ _ _) rfl ?_
    exact ⟨rfl, HB3.out⟩
end Go.Proofs.YtklgpilgalfckaaGreatDoor
