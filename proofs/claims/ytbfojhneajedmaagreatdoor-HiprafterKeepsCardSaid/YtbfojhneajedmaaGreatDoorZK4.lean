/-
  The law HiprafterKeeps: its row and its tied card. Conditions: those of the given row alone.
-/
import Derived.Test.YtbfojhneajedmaaGreatDoorCards
import Derived.Test.YtbfojhneajedmaaGreatDoorTie
import Derived.ChangeMaps5
import Derived.Test.YtbfojhneajedmaaGreatDoorZ7
import Derived.Test.YtbfojhneajedmaaGreatDoorZ8
import Derived.Test.YtbfojhneajedmaaGreatDoorZ15
namespace Go.Proofs.YtbfojhneajedmaaGreatDoor.hiprafterKeeps
open Go.ChangeShapes Go.WideShapes Go.ChangeAt Go.RowKit Go.KP

set_option maxRecDepth 100000 in
theorem contract (H : Type) (enc : TypeId × Value → H) (W : World) (base : Nat) (args : Array Value) (ds gs : List (DataW H)) (before : List MemPlace)
    (hval : ∀ (j : Nat) t v, Tryz.f4.params[j]? = some t → args[j]? = some v → Value.okWide Tryz.prog W .any base t v)
    (hW : DataW.Whole enc Tryz.prog Tryz.f4.params.toList Rows.hiprafterKeepsSpec.vars false W args.toList ds gs before) (hL : laidMetH Tryz.prog Rows.hiprafterKeepsRow.laid W) (hsh : W.ShapedOpen Tryz.prog) :
    Calls Tryz.prog 4 args W fun e W' => ∃ v, e = .returned v ∧ Rows.hiprafterKeepsSpec.post enc Tryz.prog Tryz.f4 false true false false W args v W' := by
  have hW' := hW
  obtain ⟨p, q, hA0, hV, rfl, hfz, hnd⟩ := hW
  have hA : DataW.TrodAll enc Tryz.prog W 0 (fun _ => true) true Tryz.f4.params.toList args.toList ds p := hA0
  rw [Tryz.params4] at hA hval
  obtain ⟨v0, vs0, d0, ds0, p0, q0, hargs, rfl, rfl, h0, r0⟩ := trodAll_cons hA
  obtain ⟨v1, vs1, d1, ds1, p1, q1, rfl, rfl, rfl, h1, r1⟩ := trodAll_cons r0
  obtain ⟨v2, vs2, d2, ds2, p2, q2, rfl, rfl, rfl, h2, r2⟩ := trodAll_cons r1
  obtain ⟨v3, vs3, d3, ds3, p3, q3, rfl, rfl, rfl, h3, r3⟩ := trodAll_cons r2
  obtain ⟨v4, vs4, d4, ds4, p4, q4, rfl, rfl, rfl, h4, r4⟩ := trodAll_cons r3
  obtain ⟨v5, vs5, d5, ds5, p5, q5, rfl, rfl, rfl, h5, r5⟩ := trodAll_cons r4
  obtain ⟨rfl, rfl, rfl⟩ := trodAll_nil r5
  obtain rfl : args = #[v0, v1, v2, v3, v4, v5] := by cases args; simp_all
  obtain ⟨rfl, rfl⟩ := trodVars_none hV
  obtain ⟨a0, c0, rfl, ha0, hc0⟩ := open_small (hval 0 43 v0 rfl rfl)
  obtain ⟨k1, rfl, rfl, rfl, hk1⟩ := open_int Tryz.underlying5 (hval 1 5 v1 rfl rfl) h1
  have b1 := bounds_u8 hk1
  obtain ⟨k2, rfl, rfl, rfl, hk2⟩ := open_int Tryz.underlying5 (hval 2 5 v2 rfl rfl) h2
  have b2 := bounds_u8 hk2
  obtain ⟨k3, rfl, rfl, rfl, hk3⟩ := open_int Tryz.underlying5 (hval 3 5 v3 rfl rfl) h3
  have b3 := bounds_u8 hk3
  obtain ⟨k4, rfl, rfl, rfl, hk4⟩ := open_int Tryz.underlying44 (hval 4 44 v4 rfl rfl) h4
  have b4 := bounds_u16' hk4
  obtain ⟨k5, rfl, rfl, rfl, hk5⟩ := open_int Tryz.underlying44 (hval 5 44 v5 rfl rfl) h5
  have b5 := bounds_u16' hk5
  clear hA0
  simp only [List.append_nil] at hW'
  have walk : Calls Tryz.prog 4 #[.agg #[.int .i8 a0.x, .int .i8 a0.y, .int .i8 a0.z, .int .i8 c0.x, .int .i8 c0.y, .int .i8 c0.z], .int .u8 k1, .int .u8 k2, .int .u8 k3, .int .u16 k4, .int .u16 k5] W (Ret W (.bool true)) := (by
    obtain ⟨m1, rfl⟩ : ∃ m : Nat, k1 = (m : Int) := ⟨k1.toNat, by omega⟩
    obtain ⟨m2, rfl⟩ : ∃ m : Nat, k2 = (m : Int) := ⟨k2.toNat, by omega⟩
    obtain ⟨m3, rfl⟩ : ∃ m : Nat, k3 = (m : Int) := ⟨k3.toNat, by omega⟩
    obtain ⟨m4, rfl⟩ : ∃ m : Nat, k4 = (m : Int) := ⟨k4.toNat, by omega⟩
    obtain ⟨m5, rfl⟩ : ∃ m : Nat, k5 = (m : Int) := ⟨k5.toNat, by omega⟩
    exact lawKeeps_any ha0 hc0 m1 m2 m3 m4 m5 (by omega) (by omega) (by omega) (by omega) (by omega) _ W (Nat.le_refl _) (pq_of_laid hL hsh))
  refine walk.mono fun e W' ⟨he, hb⟩ => ?_
  subst he
  exact ⟨_, rfl, law_post laidOut (by kernel_rfl) rfl (by kernel_rfl) Tryz.underlying4 hW' rfl hb⟩

theorem reads (os : Os) {H : Type} (enc : TypeId × Value → H) : ∃ places, DataW.whole enc Tryz.prog ((numStart os).forCall (fun _ _ => 0) ⟨#[], #[.agg #[.int .i8 0, .int .i8 0, .int .i8 0, .int .i8 0, .int .i8 0, .int .i8 0], .int .u8 0, .int .u8 0, .int .u8 0, .int .u16 0, .int .u16 0], []⟩).memory Tryz.f4.params.toList Rows.hiprafterKeepsSpec.vars false (#[.agg #[.int .i8 0, .int .i8 0, .int .i8 0, .int .i8 0, .int .i8 0, .int .i8 0], .int .u8 0, .int .u8 0, .int .u8 0, .int .u16 0, .int .u16 0] : Array Value).toList 8 = some ([.agg [.agg [.lit (.int .i8 0), .lit (.int .i8 0), .lit (.int .i8 0)], .agg [.lit (.int .i8 0), .lit (.int .i8 0), .lit (.int .i8 0)]], .lit (.int .u8 0), .lit (.int .u8 0), .lit (.int .u8 0), .lit (.int .u16 0), .lit (.int .u16 0)], [], places) :=
  ⟨[], by kernel_rfl⟩

set_option maxRecDepth 100000 in
theorem lifted (os : Os) (started : os.Started) (H : Type) (enc : TypeId × Value → H) (F : Stop.Interp) :
    ReturnsInHanded {} Tryz.checked os 4 .any ((OpenSpec.ofChange Rows.hiprafterKeepsSpec).preRow enc Tryz.prog Tryz.f4 Rows.hiprafterKeepsRow.domain false Rows.hiprafterKeepsRow.laid) (((OpenSpec.ofChange Rows.hiprafterKeepsSpec).at F).post enc Tryz.prog Tryz.f4 false true false false) := by
  obtain ⟨places, hx⟩ := reads os enc
  refine returnsInHanded_of_row (C := Tryz.checked) (s := OpenSpec.ofChange Rows.hiprafterKeepsSpec) own started (by kernel_rfl) Tryz.func4
    (witness_row_at (enc := enc) (C := Tryz.checked) false (numStart os) #[.agg #[.int .i8 0, .int .i8 0, .int .i8 0, .int .i8 0, .int .i8 0, .int .i8 0], .int .u8 0, .int .u8 0, .int .u8 0, .int .u16 0, .int .u16 0] rfl (by kernel_rfl) (by kernel_rfl) (by kernel_rfl)
      (OpenSpec.preRow_of_cond 8 hx (by kernel_rfl) (fun k hk => by cases hk) (by kernel_rfl) (numStart_met os _))) ?_
  intro W base args ds gs before hval hW _ _ _ hL hsh _
  exact contract H enc W base args ds gs before hval hW hL hsh

theorem k_wf : Rows.hiprafterKeepsRow.wf (OpenSpec.ofChange (OpenSpec.ofChange Rows.hiprafterKeepsSpec).bare) = true := by kernel_rfl
theorem k_par : Tryz.f4.params.all (Tryz.pinned.checked.prog.readableRec ·) = true := by kernel_rfl
theorem k_tie : namedTie Tryz.pinned.checked.prog Rows.hiprafterKeepsRow.named (OpenSpec.ofChange Rows.hiprafterKeepsSpec).bare.vars = true := by kernel_rfl
theorem k_st : (Rows.hiprafterKeepsRow.stops == []) = true := by kernel_rfl
theorem k_kn : (Rows.hiprafterKeepsRow.knobs == []) = true := by kernel_rfl
theorem k_inPlace : (Rows.hiprafterKeepsRow.inPlace == Tryz.pinned.checked.prog.inPlace 4) = true := by kernel_rfl
theorem k_unf : (Rows.hiprafterKeepsRow.unfollowed == Tryz.pinned.checked.prog.unfollowed 4) = true := by kernel_rfl
theorem k_rcs : (Rows.hiprafterKeepsRow.recurses == Tryz.pinned.checked.prog.recurses 4) = true := by kernel_rfl
theorem k_nam : (Rows.hiprafterKeepsRow.named == Tryz.pinned.checked.prog.varsNamed 4) = true := by kernel_rfl
theorem k_maps : (Rows.hiprafterKeepsRow.maps == (Tryz.f4.params.toList ++ (OpenSpec.ofChange Rows.hiprafterKeepsSpec).bare.plain.varTypes Tryz.pinned.checked.prog).any (Tryz.pinned.checked.prog.mapsRec ·)) = true := by kernel_rfl
theorem k_ifs : (Rows.hiprafterKeepsRow.ifaces == (Tryz.f4.params.toList ++ (OpenSpec.ofChange Rows.hiprafterKeepsSpec).bare.plain.varTypes Tryz.pinned.checked.prog).any (Tryz.pinned.checked.prog.ifacesRec ·)) = true := by kernel_rfl
theorem k_mo : (Rows.hiprafterKeepsRow.mapsOut == Tryz.pinned.checked.prog.mapsAmong Tryz.f4.resultTypes.toList) = true := by kernel_rfl
theorem k_lo : (Rows.hiprafterKeepsRow.loops == (Tryz.f4.params.toList ++ (OpenSpec.ofChange Rows.hiprafterKeepsSpec).bare.plain.varTypes Tryz.pinned.checked.prog).any (Tryz.pinned.checked.prog.loopsFrom ·)) = true := by kernel_rfl
theorem k_wk : (Rows.hiprafterKeepsRow.wideKeys == (Tryz.f4.params.toList ++ (OpenSpec.ofChange Rows.hiprafterKeepsSpec).bare.plain.varTypes Tryz.pinned.checked.prog ++ Tryz.f4.resultTypes.toList).any (Tryz.pinned.checked.prog.wideKeysFrom ·)) = true := by kernel_rfl
theorem k_va : (OpenSpec.ofChange Rows.hiprafterKeepsSpec).bare.vars.all (Tryz.pinned.checked.prog.varReadable ·) = true := by kernel_rfl
theorem k_rt : Tryz.f4.resultTypes.all (fun t => Tryz.pinned.checked.prog.readableRec t && decide (t < Tryz.pinned.checked.prog.types.size)) = true := by kernel_rfl
theorem k_io : (Rows.hiprafterKeepsRow.ifacesOut == Tryz.f4.resultTypes.toList.any (Tryz.pinned.checked.prog.ifacesRec ·)) = true := by kernel_rfl
theorem k_lp : (Rows.hiprafterKeepsRow.loopsOut == Tryz.f4.resultTypes.toList.any (Tryz.pinned.checked.prog.loopsFrom ·)) = true := by kernel_rfl
theorem k_sh : Rows.hiprafterKeepsRow.shortTexts.isNone = true := by kernel_rfl
theorem k_ki : (Rows.hiprafterKeepsRow.kinds == (if Rows.hiprafterKeepsRow.domain.isEmpty then [] else Tryz.f4.params.toList.map fun t => match Tryz.pinned.checked.prog.underlying t with | some (.int k) => some k | _ => none)) = true := by kernel_rfl
theorem k_pi : (Rows.hiprafterKeepsRow.pinned == Rows.hiprafterKeepsRow.pinnedBy) = true := by kernel_rfl
theorem k_ve : (Rows.hiprafterKeepsRow.veiled == (Tryz.f4.params.toList ++ (OpenSpec.ofChange Rows.hiprafterKeepsSpec).bare.plain.varTypes Tryz.pinned.checked.prog ++ Tryz.f4.resultTypes.toList).any (Tryz.pinned.checked.prog.veiledRec ·)) = true := by kernel_rfl
theorem k_vf : Rows.hiprafterKeepsRow.veiledFits Tryz.pinned.checked.prog Tryz.f4.params.toList (Tryz.f4.params.toList ++ (OpenSpec.ofChange Rows.hiprafterKeepsSpec).bare.plain.varTypes Tryz.pinned.checked.prog ++ Tryz.f4.resultTypes.toList) = true := by kernel_rfl
set_option maxRecDepth 100000 in
theorem closed : joinedFacts Tryz.pinned.checked.prog 4 Tryz.f4 (OpenSpec.ofChange Rows.hiprafterKeepsSpec).bare Rows.hiprafterKeepsRow = true := by
  unfold joinedFacts
  exact (and_t (and_t (and_t (and_t (and_t (and_t (and_t (and_t (and_t (and_t (and_t (and_t (and_t (and_t (and_t (and_t (and_t (and_t (and_t (and_t (and_t (and_t (and_t (and_t (and_t (and_t (and_t (and_t (and_t (and_t (and_t k_wf prog_laidOut) prog_mapsRowed) k_par) k_tie) k_st) prog_stops) k_kn) prog_stopKnobs) k_inPlace) k_unf) k_rcs) k_nam) k_maps) k_ifs) k_mo) k_lo) k_wk) k_va) k_rt) k_io) k_lp) prog_plainKeys) k_sh) prog_stopsHeard) prog_mayEnter) prog_lifted) prog_make) k_ki) k_pi) k_ve) k_vf)

theorem said : Rows.HiprafterKeepsSaid :=
  OpenClaim.holds_of_cond 4 Tryz.f4 rfl rfl rfl rfl rfl rfl rfl ⟨rfl, rfl, rfl, rfl, rfl⟩ rfl rfl rfl rfl rfl (by kernel_rfl) Tryz.func4 closed
    (of_decide_eq_true (by kernel_rfl)) (by unfold Func.isWrapper; first | (rw [if_pos (by decide +kernel)]; kernel_rfl) | (rw [if_neg (by decide +kernel)]; exact ⟨rfl, rfl⟩))
    (fun os started H enc _ F => by rw [OpenClaim.pre_eq_preRow]; exact lifted os started H enc F)

theorem plain (f : FuncId) (fn : Func) (hf : Tryz.pinned.checked.prog.funcNamed Rows.hiprafterKeepsRow.func = some f) (hfn : Tryz.pinned.checked.prog.funcs[f]? = some fn) :
    true = Tryz.pinned.checked.prog.looks [] ∧ ∀ (j : Nat) t, fn.params[j]? = some t → Tryz.pinned.checked.prog.wantsStandIn t = false := by
  obtain rfl : f = 4 := Option.some.inj ((show Tryz.prog.funcNamed Rows.hiprafterKeepsRow.func = some 4 by kernel_rfl).symm.trans hf) |>.symm
  obtain rfl : fn = Tryz.f4 := (Option.some.inj (Tryz.func4.symm.trans hfn)).symm
  refine ⟨by kernel_rfl, fun j t ht => ?_⟩
  rw [Tryz.params4] at ht
  have hm := Array.mem_of_getElem? ht
  simp only [List.mem_toArray, List.mem_cons, List.not_mem_nil, or_false] at hm
  rcases hm with rfl | rfl | rfl | rfl | rfl | rfl
  · exact (show Tryz.prog.wantsStandIn 43 = false by kernel_rfl)
  · exact (show Tryz.prog.wantsStandIn 5 = false by kernel_rfl)
  · exact (show Tryz.prog.wantsStandIn 5 = false by kernel_rfl)
  · exact (show Tryz.prog.wantsStandIn 5 = false by kernel_rfl)
  · exact (show Tryz.prog.wantsStandIn 44 = false by kernel_rfl)
  · exact (show Tryz.prog.wantsStandIn 44 = false by kernel_rfl)
end Go.Proofs.YtbfojhneajedmaaGreatDoor.hiprafterKeeps
namespace Go.Proofs.YtbfojhneajedmaaGreatDoor
theorem hiprafterKeeps.k_wft : Rows.hiprafterKeepsRow.wfByText (OpenSpec.ofChange Rows.hiprafterKeepsSpec) = true := by kernel_rfl
theorem hiprafterKeeps.k_main : Tryz.pinned.checked.prog.mainIs = some (Rows.hiprafterKeepsCard.stood.harness.1, Rows.hiprafterKeepsCard.stood.harness.2.toList) := by kernel_rfl
theorem hiprafterKeeps.k_goes : false = Rows.hiprafterKeepsRow.goesBy Tryz.pinned.checked.prog := by kernel_rfl
/-- The card. -/
theorem hiprafterKeeps_card : Rows.HiprafterKeepsCardSaid :=
  Claim7.holds_tied_plain_at .later [] _ _ _ _ hiprafterKeeps.said (fun _ h => by cases h) hiprafterKeeps.k_wft (fun _ h => by cases h) hiprafterKeeps_row_tie rfl ⟨rfl, rfl⟩ hiprafterKeeps.k_main rfl hiprafterKeeps.plain hiprafterKeeps.k_goes
end Go.Proofs.YtbfojhneajedmaaGreatDoor
