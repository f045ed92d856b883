/-
  The law MeasureDecimals: its row and its tied card. Conditions: those of the given row alone.
-/
import Derived.Test.YtfcjaljaomknjaaGreatDoorCards
import Derived.Test.YtfcjaljaomknjaaGreatDoorTie
import Derived.ChangeMaps5
import Derived.Test.YtfcjaljaomknjaaGreatDoorME7
import Derived.Test.YtfcjaljaomknjaaGreatDoorME6
import Derived.Test.YtfcjaljaomknjaaGreatDoorME19
namespace Go.Proofs.YtfcjaljaomknjaaGreatDoor.measureDecimals
open Go.ChangeShapes Go.WideShapes Go.ChangeAt Go.RowKit Go.KP

set_option maxRecDepth 100000 in
theorem contract (H : Type) (enc : TypeId × Value → H) (W : World) (base : Nat) (args : Array Value) (ds gs : List (DataW H)) (before : List MemPlace)
    (hval : ∀ (j : Nat) t v, Tryz.f3.params[j]? = some t → args[j]? = some v → Value.okWide Tryz.prog W .any base t v)
    (hW : DataW.Whole enc Tryz.prog Tryz.f3.params.toList Rows.measureDecimalsSpec.vars false W args.toList ds gs before) (hL : laidMetH Tryz.prog Rows.measureDecimalsRow.laid W) (hsh : W.ShapedOpen Tryz.prog) :
    Calls Tryz.prog 3 args W fun e W' => ∃ v, e = .returned v ∧ Rows.measureDecimalsSpec.post enc Tryz.prog Tryz.f3 false true false false W args v W' := by
  have hW' := hW
  obtain ⟨p, q, hA0, hV, rfl, hfz, hnd⟩ := hW
  have hA : DataW.TrodAll enc Tryz.prog W 0 (fun _ => true) true Tryz.f3.params.toList args.toList ds p := hA0
  rw [Tryz.params3] at hA hval
  obtain ⟨v0, vs0, d0, ds0, p0, q0, hargs, rfl, rfl, h0, r0⟩ := trodAll_cons hA
  obtain ⟨v1, vs1, d1, ds1, p1, q1, rfl, rfl, rfl, h1, r1⟩ := trodAll_cons r0
  obtain ⟨v2, vs2, d2, ds2, p2, q2, rfl, rfl, rfl, h2, r2⟩ := trodAll_cons r1
  obtain ⟨rfl, rfl, rfl⟩ := trodAll_nil r2
  obtain rfl : args = #[v0, v1, v2] := by cases args; simp_all
  obtain ⟨rfl, rfl⟩ := trodVars_none hV
  obtain ⟨s0, rfl, rfl, rfl, hs0⟩ := Go.ChangeMaps.open_string Tryz.underlying22 (hval 0 22 v0 rfl rfl) h0
  obtain ⟨k1, rfl, rfl, rfl, hk1⟩ := open_int Tryz.underlying3 (hval 1 3 v1 rfl rfl) h1
  have b1 := bounds_i64 hk1
  obtain ⟨s2, rfl, rfl, rfl, hs2⟩ := Go.ChangeMaps.open_string Tryz.underlying9 (hval 2 9 v2 rfl rfl) h2
  clear hA0
  simp only [List.append_nil] at hW'
  have walk : Calls Tryz.prog 3 #[.string s0, .int .i64 k1, .string s2] W (Ret W (.bool true)) := (measureDecimals_any s0 s2 hs0 k1 _ W (Nat.le_refl _) (pq_of_laid hL hsh))
  refine walk.mono fun e W' ⟨he, hb⟩ => ?_
  subst he
  exact ⟨_, rfl, law_post laidOut (by kernel_rfl) rfl (by kernel_rfl) Tryz.underlying4 hW' rfl hb⟩

theorem reads (os : Os) {H : Type} (enc : TypeId × Value → H) : ∃ places, DataW.whole enc Tryz.prog ((numStart os).forCall (fun _ _ => 0) ⟨#[], #[.string ⟨#[]⟩, .int .i64 0, .string ⟨#[]⟩], []⟩).memory Tryz.f3.params.toList Rows.measureDecimalsSpec.vars false (#[.string ⟨#[]⟩, .int .i64 0, .string ⟨#[]⟩] : Array Value).toList 8 = some ([.lit (.string []), .lit (.int .i64 0), .lit (.string [])], [], places) :=
  ⟨[], by kernel_rfl⟩

set_option maxRecDepth 100000 in
theorem lifted (os : Os) (started : os.Started) (H : Type) (enc : TypeId × Value → H) (F : Stop.Interp) :
    ReturnsInHanded {} Tryz.checked os 3 .any ((OpenSpec.ofChange Rows.measureDecimalsSpec).preRow enc Tryz.prog Tryz.f3 Rows.measureDecimalsRow.domain false Rows.measureDecimalsRow.laid) (((OpenSpec.ofChange Rows.measureDecimalsSpec).at F).post enc Tryz.prog Tryz.f3 false true false false) := by
  obtain ⟨places, hx⟩ := reads os enc
  refine returnsInHanded_of_row (C := Tryz.checked) (s := OpenSpec.ofChange Rows.measureDecimalsSpec) own started (by kernel_rfl) Tryz.func3
    (witness_row_at (enc := enc) (C := Tryz.checked) false (numStart os) #[.string ⟨#[]⟩, .int .i64 0, .string ⟨#[]⟩] rfl (by kernel_rfl) (by kernel_rfl) (by kernel_rfl)
      (OpenSpec.preRow_of_cond 8 hx (by kernel_rfl) (fun k hk => by cases hk) (by kernel_rfl) (numStart_met os _))) ?_
  intro W base args ds gs before hval hW _ _ _ hL hsh _
  exact contract H enc W base args ds gs before hval hW hL hsh

theorem k_wf : Rows.measureDecimalsRow.wf (OpenSpec.ofChange (OpenSpec.ofChange Rows.measureDecimalsSpec).bare) = true := by kernel_rfl
theorem k_par : Tryz.f3.params.all (Tryz.pinned.checked.prog.readableRec ·) = true := by kernel_rfl
theorem k_tie : namedTie Tryz.pinned.checked.prog Rows.measureDecimalsRow.named (OpenSpec.ofChange Rows.measureDecimalsSpec).bare.vars = true := by kernel_rfl
theorem k_st : (Rows.measureDecimalsRow.stops == []) = true := by kernel_rfl
theorem k_kn : (Rows.measureDecimalsRow.knobs == []) = true := by kernel_rfl
theorem k_inPlace : (Rows.measureDecimalsRow.inPlace == Tryz.pinned.checked.prog.inPlace 3) = true := by kernel_rfl
theorem k_unf : (Rows.measureDecimalsRow.unfollowed == Tryz.pinned.checked.prog.unfollowed 3) = true := by kernel_rfl
theorem k_rcs : (Rows.measureDecimalsRow.recurses == Tryz.pinned.checked.prog.recurses 3) = true := by kernel_rfl
theorem k_nam : (Rows.measureDecimalsRow.named == Tryz.pinned.checked.prog.varsNamed 3) = true := by kernel_rfl
theorem k_maps : (Rows.measureDecimalsRow.maps == (Tryz.f3.params.toList ++ (OpenSpec.ofChange Rows.measureDecimalsSpec).bare.plain.varTypes Tryz.pinned.checked.prog).any (Tryz.pinned.checked.prog.mapsRec ·)) = true := by kernel_rfl
theorem k_ifs : (Rows.measureDecimalsRow.ifaces == (Tryz.f3.params.toList ++ (OpenSpec.ofChange Rows.measureDecimalsSpec).bare.plain.varTypes Tryz.pinned.checked.prog).any (Tryz.pinned.checked.prog.ifacesRec ·)) = true := by kernel_rfl
theorem k_mo : (Rows.measureDecimalsRow.mapsOut == Tryz.pinned.checked.prog.mapsAmong Tryz.f3.resultTypes.toList) = true := by kernel_rfl
theorem k_lo : (Rows.measureDecimalsRow.loops == (Tryz.f3.params.toList ++ (OpenSpec.ofChange Rows.measureDecimalsSpec).bare.plain.varTypes Tryz.pinned.checked.prog).any (Tryz.pinned.checked.prog.loopsFrom ·)) = true := by kernel_rfl
theorem k_wk : (Rows.measureDecimalsRow.wideKeys == (Tryz.f3.params.toList ++ (OpenSpec.ofChange Rows.measureDecimalsSpec).bare.plain.varTypes Tryz.pinned.checked.prog ++ Tryz.f3.resultTypes.toList).any (Tryz.pinned.checked.prog.wideKeysFrom ·)) = true := by kernel_rfl
theorem k_va : (OpenSpec.ofChange Rows.measureDecimalsSpec).bare.vars.all (Tryz.pinned.checked.prog.varReadable ·) = true := by kernel_rfl
theorem k_rt : Tryz.f3.resultTypes.all (fun t => Tryz.pinned.checked.prog.readableRec t && decide (t < Tryz.pinned.checked.prog.types.size)) = true := by kernel_rfl
theorem k_io : (Rows.measureDecimalsRow.ifacesOut == Tryz.f3.resultTypes.toList.any (Tryz.pinned.checked.prog.ifacesRec ·)) = true := by kernel_rfl
theorem k_lp : (Rows.measureDecimalsRow.loopsOut == Tryz.f3.resultTypes.toList.any (Tryz.pinned.checked.prog.loopsFrom ·)) = true := by kernel_rfl
theorem k_sh : Rows.measureDecimalsRow.shortTexts.isNone = true := by kernel_rfl
theorem k_ki : (Rows.measureDecimalsRow.kinds == (if Rows.measureDecimalsRow.domain.isEmpty then [] else Tryz.f3.params.toList.map fun t => match Tryz.pinned.checked.prog.underlying t with | some (.int k) => some k | _ => none)) = true := by kernel_rfl
theorem k_pi : (Rows.measureDecimalsRow.pinned == Rows.measureDecimalsRow.pinnedBy) = true := by kernel_rfl
theorem k_ve : (Rows.measureDecimalsRow.veiled == (Tryz.f3.params.toList ++ (OpenSpec.ofChange Rows.measureDecimalsSpec).bare.plain.varTypes Tryz.pinned.checked.prog ++ Tryz.f3.resultTypes.toList).any (Tryz.pinned.checked.prog.veiledRec ·)) = true := by kernel_rfl
theorem k_vf : Rows.measureDecimalsRow.veiledFits Tryz.pinned.checked.prog Tryz.f3.params.toList (Tryz.f3.params.toList ++ (OpenSpec.ofChange Rows.measureDecimalsSpec).bare.plain.varTypes Tryz.pinned.checked.prog ++ Tryz.f3.resultTypes.toList) = true := by kernel_rfl
set_option maxRecDepth 100000 in
theorem closed : joinedFacts Tryz.pinned.checked.prog 3 Tryz.f3 (OpenSpec.ofChange Rows.measureDecimalsSpec).bare Rows.measureDecimalsRow = true := by
  unfold joinedFacts
  exact (and_t (and_t (and_t (and_t (and_t (and_t (and_t (and_t (and_t (and_t (and_t (and_t (and_t (and_t (and_t (and_t (and_t (and_t (and_t (and_t (and_t (and_t (and_t (and_t (and_t (and_t (and_t (and_t (and_t (and_t (and_t k_wf prog_laidOut) prog_mapsRowed) k_par) k_tie) k_st) prog_stops) k_kn) prog_stopKnobs) k_inPlace) k_unf) k_rcs) k_nam) k_maps) k_ifs) k_mo) k_lo) k_wk) k_va) k_rt) k_io) k_lp) prog_plainKeys) k_sh) prog_stopsHeard) prog_mayEnter) prog_lifted) prog_make) k_ki) k_pi) k_ve) k_vf)

theorem said : Rows.MeasureDecimalsSaid :=
  OpenClaim.holds_of_cond 3 Tryz.f3 rfl rfl rfl rfl rfl rfl rfl ⟨rfl, rfl, rfl, rfl, rfl⟩ rfl rfl rfl rfl rfl (by kernel_rfl) Tryz.func3 closed
    (of_decide_eq_true (by kernel_rfl)) (by unfold Func.isWrapper; first | (rw [if_pos (by decide +kernel)]; kernel_rfl) | (rw [if_neg (by decide +kernel)]; exact ⟨rfl, rfl⟩))
    (fun os started H enc _ F => by rw [OpenClaim.pre_eq_preRow]; exact lifted os started H enc F)

theorem plain (f : FuncId) (fn : Func) (hf : Tryz.pinned.checked.prog.funcNamed Rows.measureDecimalsRow.func = some f) (hfn : Tryz.pinned.checked.prog.funcs[f]? = some fn) :
    true = Tryz.pinned.checked.prog.looks [] ∧ ∀ (j : Nat) t, fn.params[j]? = some t → Tryz.pinned.checked.prog.wantsStandIn t = false := by
  obtain rfl : f = 3 := Option.some.inj ((show Tryz.prog.funcNamed Rows.measureDecimalsRow.func = some 3 by kernel_rfl).symm.trans hf) |>.symm
  obtain rfl : fn = Tryz.f3 := (Option.some.inj (Tryz.func3.symm.trans hfn)).symm
  refine ⟨by kernel_rfl, fun j t ht => ?_⟩
  rw [Tryz.params3] at ht
  have hm := Array.mem_of_getElem? ht
  simp only [List.mem_toArray, List.mem_cons, List.not_mem_nil, or_false] at hm
  rcases hm with rfl | rfl | rfl
  · exact (show Tryz.prog.wantsStandIn 22 = false by kernel_rfl)
  · exact (show Tryz.prog.wantsStandIn 3 = false by kernel_rfl)
  · exact (show Tryz.prog.wantsStandIn 9 = false by kernel_rfl)
end Go.Proofs.YtfcjaljaomknjaaGreatDoor.measureDecimals
namespace Go.Proofs.YtfcjaljaomknjaaGreatDoor
theorem measureDecimals.k_wft : Rows.measureDecimalsRow.wfByText (OpenSpec.ofChange Rows.measureDecimalsSpec) = true := by kernel_rfl
theorem measureDecimals.k_main : Tryz.pinned.checked.prog.mainIs = some (Rows.measureDecimalsCard.stood.harness.1, Rows.measureDecimalsCard.stood.harness.2.toList) := by kernel_rfl
theorem measureDecimals.k_goes : false = Rows.measureDecimalsRow.goesBy Tryz.pinned.checked.prog := by kernel_rfl
/-- The card. -/
theorem measureDecimals_card : Rows.MeasureDecimalsCardSaid :=
  Claim7.holds_tied_plain_at .later [] _ _ _ _ measureDecimals.said (fun _ h => by cases h) measureDecimals.k_wft (fun _ h => by cases h) measureDecimals_row_tie rfl ⟨rfl, rfl⟩ measureDecimals.k_main rfl measureDecimals.plain measureDecimals.k_goes
end Go.Proofs.YtfcjaljaomknjaaGreatDoor
