/-
  Numbers read, the program's and the reference's: the walks.
-/
import Derived.Test.YtfljmbdnnjjmoaaDoorT0
import Derived.Test.YtfljmbdnnjjmoaaDoorShelfC
import Derived.Test.YtfljmbdnnjjmoaaDoorR8
namespace Go.Proofs.YtfljmbdnnjjmoaaDoor
open Go.RowKit Go.KP Go.Shelf

/-- What the readers of texts ask of a world: the listed table and variables stand. -/
structure PT (B : Nat) (w : World) : Prop where
  p10 : P10 B w
  lt : 3 < B
  len : ∃ m, w.cell? ⟨0, 0, none⟩ = some (.int .i64 m)
  e2 : ∃ te pe, w.cell? ⟨2, 0, none⟩ = some (.iface te pe)
  e3 : ∃ te pe, w.cell? ⟨3, 0, none⟩ = some (.iface te pe)
theorem PT.on {B : Nat} {w w' : World} (h : PT B w) (hb : Below B w w') : PT B w' := by
  have hlt := h.lt
  refine ⟨h.p10.on hb, h.lt, ?_, ?_, ?_⟩
  · obtain ⟨m, hm⟩ := h.len
    exact ⟨m, (hb.cell (p := ⟨0, 0, none⟩) (show 0 < B by omega)).trans hm⟩
  · obtain ⟨t, p, hm⟩ := h.e2
    exact ⟨t, p, (hb.cell (p := ⟨2, 0, none⟩) (show 2 < B by omega)).trans hm⟩
  · obtain ⟨t, p, hm⟩ := h.e3
    exact ⟨t, p, (hb.cell (p := ⟨3, 0, none⟩) (show 3 < B by omega)).trans hm⟩
theorem atoi_good (s : ByteArray) (hl : s.size ≤ 1000000) (v : Int) (h : Lib.atoiAll s.data.toList = .ok v) (w : World) :
    Calls Tryd.prog 81 #[.string s] w fun e w' => e = .returned (.tuple #[.int .i64 v, .nilIface]) ∧ Below w.heap.size w w' := by
  refine (Tryd.strconv_Atoi_ok s (by omega) v h w).mono ?_
  rintro e w' ⟨he, rfl | ⟨t, rfl⟩⟩
  · exact ⟨he, Below.refl _ _⟩
  · exact ⟨he, Lib.bytesWorld_below w 5 t⟩
theorem atoi_bad (s : ByteArray) (hl : s.size ≤ 1000000) (h : ∀ v, Lib.atoiAll s.data.toList ≠ .ok v) (B : Nat) (w : World) (hT : PT B w) :
    Calls Tryd.prog 81 #[.string s] w fun e w' => ∃ (N : Nat) (k : Int), e = .returned (.tuple #[.int .i64 k, .iface 135 (.pointer (some ⟨N, 0, none⟩))]) ∧ w.heap.size ≤ N ∧ Below w.heap.size w w' := by
  obtain ⟨t2, p2, h2⟩ := hT.e2
  obtain ⟨t3, p3, h3⟩ := hT.e3
  cases hx : Lib.atoiAll s.data.toList with
  | ok v => exact absurd hx (h v)
  | range =>
    refine (Any.strconv_Atoi_range Tryd.laysC172 s (by omega) hx _ w h3 (.inr ⟨_, _, rfl⟩)).mono ?_
    rintro e w' ⟨N, he, hN, _, hb⟩
    exact ⟨N, _, he, hN, hb⟩
  | _ =>
    refine (Any.strconv_Atoi_syntax Tryd.laysC172 s (by omega) hx _ w h2 (.inr ⟨_, _, rfl⟩)).mono ?_
    rintro e w' ⟨N, he, hN, _, hb⟩
    exact ⟨N, _, he, hN, hb⟩
theorem atoi_none (B : Nat) (w : World) (hT : PT B w) :
    Calls Tryd.prog 81 #[.string ⟨#[]⟩] w fun e w' => ∃ (N : Nat), e = .returned (.tuple #[.int .i64 0, .iface 135 (.pointer (some ⟨N, 0, none⟩))]) ∧ w.heap.size ≤ N ∧ Below w.heap.size w w' := by
  obtain ⟨t2, p2, h2⟩ := hT.e2
  refine (Any.strconv_Atoi_syntax Tryd.laysC172 ⟨#[]⟩ (by decide) rfl _ w h2 (.inr ⟨_, _, rfl⟩)).mono ?_
  rintro e w' ⟨N, he, hN, _, hb⟩
  exact ⟨N, he, hN, hb⟩

theorem numL_of {l : List UInt8} {v : Int} (h : Lib.atoiAll l = .ok v) : numL l = if 0 ≤ v ∧ l.length ≤ 10 ∧ Lib.itoa v = l then some v.toNat else none := by
  unfold numL
  rw [h]
theorem numL_bad {l : List UInt8} (h : ∀ v, Lib.atoiAll l ≠ .ok v) : numL l = none := by
  unfold numL
  split
  · rename_i v hv
    exact absurd hv (h v)
  · rfl
/-- What a reader of a number returns. -/
def NumRes (l : List UInt8) (w : World) (e : Ending) (w' : World) : Prop :=
  ∃ k : Int, e = .returned (.tuple #[.int .i64 k, .bool (numL l).isSome]) ∧ (∀ v, numL l = some v → k = v) ∧ Below w.heap.size w w'
theorem numRes_none {l : List UInt8} {w w' : World} {k : Int} (h : numL l = none) (hb : Below w.heap.size w w') : NumRes l w (.returned (.tuple #[.int .i64 k, .bool false])) w' := by
  refine ⟨k, by rw [h]; rfl, (fun v hv => by rw [h] at hv; cases hv), hb⟩
theorem numRes_some {l : List UInt8} {w w' : World} {v : Nat} (h : numL l = some v) (hb : Below w.heap.size w w') : NumRes l w (.returned (.tuple #[.int .i64 v, .bool true])) w' := by
  refine ⟨v, by rw [h]; rfl, (fun u hv => by rw [h] at hv; injection hv with hv; rw [hv]), hb⟩
theorem bytes_inj {s t : ByteArray} (h : s.data.toList = t.data.toList) : s = t := (bytes_eq h).trans (bytes_eq rfl).symm
set_option maxRecDepth 100000 in
set_option maxHeartbeats 1000000 in
theorem number_any (s : ByteArray) (hl : s.size ≤ 1000000) (B : Nat) (w : World) (hT : PT B w) (hB : B ≤ w.heap.size) :
    Calls Tryd.prog 74 #[.string s] w (NumRes s.data.toList w) := by
  have HT := hide hT
  clear hT
  by_cases hx : ∃ v, Lib.atoiAll s.data.toList = .ok v
  · obtain ⟨v, hv⟩ := hx
    have hbd := Lib.atoiAll_bounds hv
    have HV := hide (numL_of hv)
    have HA := hide (atoi_good s hl v hv w)
    clear hv
    go_enter Tryd.func74, Tryd.ntmps74
    go_wp2_with fail
    refine HA.out.mono ?_
    rintro e w1 ⟨rfl, hb1⟩
    have HB1 := hide hb1
    have hs1 := hb1.size
    clear hb1 HA
    by_cases h0 : 0 ≤ v
    · have g0 : decide (v ≥ 0) = true := by simpa using h0
      by_cases h1 : s.size ≤ 10
      · have HI := hide (itoa_any v hbd.1 hbd.2 B w1 (HT.out.p10.on (HB1.out.mono hB)))
        have g1 : decide ((s.size : Int) ≤ 10) = true := by simp; omega
        by_cases h2 : itoaB v = s
        · have g2 : ((itoaB v).toList == s.toList) = true := by rw [h2]; simp
          have HR := hide (show numL s.data.toList = some v.toNat by rw [HV.out, if_pos ⟨h0, h1, by rw [← h2]; rfl⟩])
          clear h2
          go_wp2_with fail
          refine HI.out.mono ?_
          rintro e w2 ⟨rfl, hb2⟩
          have HB2 := hide (HB1.out.trans (hb2.mono hs1))
          clear hb2 HI
          go_wp2_with fail
          go_ret2
          have := numRes_some HR.out HB2.out
          rwa [Int.toNat_of_nonneg h0] at this
        · have g2 : ((itoaB v).toList == s.toList) = false := by
            rw [ByteArray.toList_eq, ByteArray.toList_eq]
            exact beq_false_of_ne (fun h => h2 (bytes_inj h))
          have HR := hide (show numL s.data.toList = none by rw [HV.out, if_neg (fun h => h2 (bytes_inj (s := itoaB v) h.2.2))])
          clear h2
          go_wp2_with fail
          refine HI.out.mono ?_
          rintro e w2 ⟨rfl, hb2⟩
          have HB2 := hide (HB1.out.trans (hb2.mono hs1))
          clear hb2 HI
          go_wp2_with fail
          go_ret2
          exact numRes_none HR.out HB2.out
      · have g1 : decide ((s.size : Int) ≤ 10) = false := by simp; omega
        have HR := hide (show numL s.data.toList = none by rw [HV.out, if_neg (fun h => h1 h.2.1)])
        go_wp2_with fail
        go_ret2
        exact numRes_none HR.out HB1.out
    · have g0 : decide (v ≥ 0) = false := by simpa using h0
      have HR := hide (show numL s.data.toList = none by rw [HV.out, if_neg (fun h => h0 h.1)])
      go_wp2_with fail
      go_ret2
      exact numRes_none HR.out HB1.out
  · have hno : ∀ v, Lib.atoiAll s.data.toList ≠ .ok v := fun v hv => hx ⟨v, hv⟩
    have HR := hide (numL_bad hno)
    have HA := hide (atoi_bad s hl hno B w HT.out)
    clear hno hx
    go_enter Tryd.func74, Tryd.ntmps74
    go_wp2_with fail
    refine HA.out.mono ?_
    rintro e w1 ⟨N, k, rfl, _, hb1⟩
    have HB1 := hide hb1
    have hs1 := hb1.size
    clear hb1 HA
    go_wp2_with fail
    go_ret2
    exact numRes_none HR.out HB1.out
end Go.Proofs.YtfljmbdnnjjmoaaDoor
