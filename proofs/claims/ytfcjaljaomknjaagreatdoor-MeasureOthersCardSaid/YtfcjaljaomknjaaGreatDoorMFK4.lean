/-
  The law MeasureOthers: its row and its tied card. Conditions: those of the given row alone.
-/
import Derived.Test.YtfcjaljaomknjaaGreatDoorCards
import Derived.Test.YtfcjaljaomknjaaGreatDoorTie
import Derived.ChangeMaps5
import Derived.Test.YtfcjaljaomknjaaGreatDoorMF7
import Derived.Test.YtfcjaljaomknjaaGreatDoorMF6
import Derived.Test.YtfcjaljaomknjaaGreatDoorMF19
import Derived.Test.YtfcjaljaomknjaaGreatDoorMF20
namespace Go.Proofs.YtfcjaljaomknjaaGreatDoor.measureOthers
open Go.ChangeShapes Go.WideShapes Go.ChangeAt Go.RowKit Go.KP

set_option maxRecDepth 100000 in
theorem contract (H : Type) (enc : TypeId × Value → H) (W : World) (base : Nat) (args : Array Value) (ds gs : List (DataW H)) (before : List MemPlace)
    (hval : ∀ (j : Nat) t v, Tryz.f4.params[j]? = some t → args[j]? = some v → Value.okWide Tryz.prog W .any base t v)
    (hW : DataW.Whole enc Tryz.prog Tryz.f4.params.toList Rows.measureOthersSpec.vars false W args.toList ds gs before) (hL : laidMetH Tryz.prog Rows.measureOthersRow.laid W) (hsh : W.ShapedOpen Tryz.prog) :
    Calls Tryz.prog 4 args W fun e W' => ∃ v, e = .returned v ∧ Rows.measureOthersSpec.post enc Tryz.prog Tryz.f4 false true false false W args v W' := by
  have hW' := hW
  obtain ⟨p, q, hA0, hV, rfl, hfz, hnd⟩ := hW
  have hA : DataW.TrodAll enc Tryz.prog W 0 (fun _ => true) true Tryz.f4.params.toList args.toList ds p := hA0
  rw [Tryz.params4] at hA hval
  obtain ⟨v0, vs0, d0, ds0, p0, q0, hargs, rfl, rfl, h0, r0⟩ := trodAll_cons hA
  obtain ⟨v1, vs1, d1, ds1, p1, q1, rfl, rfl, rfl, h1, r1⟩ := trodAll_cons r0
  obtain ⟨rfl, rfl, rfl⟩ := trodAll_nil r1
  obtain rfl : args = #[v0, v1] := by cases args; simp_all
  obtain ⟨rfl, rfl⟩ := trodVars_none hV
  obtain ⟨s0, rfl, rfl, rfl, hs0⟩ := Go.ChangeMaps.open_string Tryz.underlying22 (hval 0 22 v0 rfl rfl) h0
  obtain ⟨s1, rfl, rfl, rfl, hs1⟩ := Go.ChangeMaps.open_string Tryz.underlying9 (hval 1 9 v1 rfl rfl) h1
  clear hA0
  simp only [List.append_nil] at hW'
  have walk : Calls Tryz.prog 4 #[.string s0, .string s1] W (Ret W (.bool true)) := (measureOthers_any s0 s1 hs0 _ W (Nat.le_refl _) (pe_of_laid hL hsh))
  refine walk.mono fun e W' ⟨he, hb⟩ => ?_
  subst he
  exact ⟨_, rfl, law_post laidOut (by kernel_rfl) rfl (by kernel_rfl) Tryz.underlying4 hW' rfl hb⟩

theorem reads (os : Os) {H : Type} (enc : TypeId × Value → H) : ∃ places, DataW.whole enc Tryz.prog ((numStart os).forCall (fun _ _ => 0) ⟨#[], #[.string ⟨#[]⟩, .string ⟨#[]⟩], []⟩).memory Tryz.f4.params.toList Rows.measureOthersSpec.vars false (#[.string ⟨#[]⟩, .string ⟨#[]⟩] : Array Value).toList 8 = some ([.lit (.string []), .lit (.string [])], [], places) :=
  ⟨[], by kernel_rfl⟩

set_option maxRecDepth 100000 in
theorem lifted (os : Os) (started : os.Started) (H : Type) (enc : TypeId × Value → H) (F : Stop.Interp) :
    ReturnsInHanded {} Tryz.checked os 4 .any ((OpenSpec.ofChange Rows.measureOthersSpec).preRow enc Tryz.prog Tryz.f4 Rows.measureOthersRow.domain false Rows.measureOthersRow.laid) (((OpenSpec.ofChange Rows.measureOthersSpec).at F).post enc Tryz.prog Tryz.f4 false true false false) := by
  obtain ⟨places, hx⟩ := reads os enc
  refine returnsInHanded_of_row (C := Tryz.checked) (s := OpenSpec.ofChange Rows.measureOthersSpec) own started (by kernel_rfl) Tryz.func4
    (witness_row_at (enc := enc) (C := Tryz.checked) false (numStart os) #[.string ⟨#[]⟩, .string ⟨#[]⟩] rfl (by kernel_rfl) (by kernel_rfl) (by kernel_rfl)
      (OpenSpec.preRow_of_cond 8 hx (by kernel_rfl) (fun k hk => by cases hk) (by kernel_rfl) (numStart_met os _))) ?_
  intro W base args ds gs before hval hW _ _ _ hL hsh _
  exact contract H enc W base args ds gs before hval hW hL hsh

theorem k_wf : Rows.measureOthersRow.wf (OpenSpec.ofChange (OpenSpec.ofChange Rows.measureOthersSpec).bare) = true := by kernel_rfl
theorem k_par : Tryz.f4.params.all (Tryz.pinned.checked.prog.readableRec ·) = true := by kernel_rfl
theorem k_tie : namedTie Tryz.pinned.checked.prog Rows.measureOthersRow.named (OpenSpec.ofChange Rows.measureOthersSpec).bare.vars = true := by kernel_rfl
theorem k_st : (Rows.measureOthersRow.stops == []) = true := by kernel_rfl
theorem k_kn : (Rows.measureOthersRow.knobs == []) = true := by kernel_rfl
theorem k_inPlace : (Rows.measureOthersRow.inPlace == Tryz.pinned.checked.prog.inPlace 4) = true := by kernel_rfl
theorem k_unf : (Rows.measureOthersRow.unfollowed == Tryz.pinned.checked.prog.unfollowed 4) = true := by kernel_rfl
theorem k_rcs : (Rows.measureOthersRow.recurses == Tryz.pinned.checked.prog.recurses 4) = true := by kernel_rfl
theorem k_nam : (Rows.measureOthersRow.named == Tryz.pinned.checked.prog.varsNamed 4) = true := by kernel_rfl
theorem k_maps : (Rows.measureOthersRow.maps == (Tryz.f4.params.toList ++ (OpenSpec.ofChange Rows.measureOthersSpec).bare.plain.varTypes Tryz.pinned.checked.prog).any (Tryz.pinned.checked.prog.mapsRec ·)) = true := by kernel_rfl
theorem k_ifs : (Rows.measureOthersRow.ifaces == (Tryz.f4.params.toList ++ (OpenSpec.ofChange Rows.measureOthersSpec).bare.plain.varTypes Tryz.pinned.checked.prog).any (Tryz.pinned.checked.prog.ifacesRec ·)) = true := by kernel_rfl
theorem k_mo : (Rows.measureOthersRow.mapsOut == Tryz.pinned.checked.prog.mapsAmong Tryz.f4.resultTypes.toList) = true := by kernel_rfl
theorem k_lo : (Rows.measureOthersRow.loops == (Tryz.f4.params.toList ++ (OpenSpec.ofChange Rows.measureOthersSpec).bare.plain.varTypes Tryz.pinned.checked.prog).any (Tryz.pinned.checked.prog.loopsFrom ·)) = true := by kernel_rfl
theorem k_wk : (Rows.measureOthersRow.wideKeys == (Tryz.f4.params.toList ++ (OpenSpec.ofChange Rows.measureOthersSpec).bare.plain.varTypes Tryz.pinned.checked.prog ++ Tryz.f4.resultTypes.toList).any (Tryz.pinned.checked.prog.wideKeysFrom ·)) = true := by kernel_rfl
theorem k_va : (OpenSpec.ofChange Rows.measureOthersSpec).bare.vars.all (Tryz.pinned.checked.prog.varReadable ·) = true := by kernel_rfl
theorem k_rt : Tryz.f4.resultTypes.all (fun t => Tryz.pinned.checked.prog.readableRec t && decide (t < Tryz.pinned.checked.prog.types.size)) = true := by kernel_rfl
theorem k_io : (Rows.measureOthersRow.ifacesOut == Tryz.f4.resultTypes.toList.any (Tryz.pinned.checked.prog.ifacesRec ·)) = true := by kernel_rfl
theorem k_lp : (Rows.measureOthersRow.loopsOut == Tryz.f4.resultTypes.toList.any (Tryz.pinned.checked.prog.loopsFrom ·)) = true := by kernel_rfl
theorem k_sh : Rows.measureOthersRow.shortTexts.isNone = true := by kernel_rfl
theorem k_ki : (Rows.measureOthersRow.kinds == (if Rows.measureOthersRow.domain.isEmpty then [] else Tryz.f4.params.toList.map fun t => match Tryz.pinned.checked.prog.underlying t with | some (.int k) => some k | _ => none)) = true := by kernel_rfl
theorem k_pi : (Rows.measureOthersRow.pinned == Rows.measureOthersRow.pinnedBy) = true := by kernel_rfl
theorem k_ve : (Rows.measureOthersRow.veiled == (Tryz.f4.params.toList ++ (OpenSpec.ofChange Rows.measureOthersSpec).bare.plain.varTypes Tryz.pinned.checked.prog ++ Tryz.f4.resultTypes.toList).any (Tryz.pinned.checked.prog.veiledRec ·)) = true := by kernel_rfl
theorem k_vf : Rows.measureOthersRow.veiledFits Tryz.pinned.checked.prog Tryz.f4.params.toList (Tryz.f4.params.toList ++ (OpenSpec.ofChange Rows.measureOthersSpec).bare.plain.varTypes Tryz.pinned.checked.prog ++ Tryz.f4.resultTypes.toList) = true := by kernel_rfl
set_option maxRecDepth 100000 in
theorem closed : joinedFacts Tryz.pinned.checked.prog 4 Tryz.f4 (OpenSpec.ofChange Rows.measureOthersSpec).bare Rows.measureOthersRow = true := by
  unfold joinedFacts
  exact (and_t (and_t (and_t (and_t (and_t (and_t (and_t (and_t (and_t (and_t (and_t (and_t (and_t (and_t (and_t (and_t (and_t (and_t (and_t (and_t (and_t (and_t (and_t (and_t (and_t (and_t (and_t (and_t (and_t (and_t (and_t k_wf prog_laidOut) prog_mapsRowed) k_par) k_tie) k_st) prog_stops) k_kn) prog_stopKnobs) k_inPlace) k_unf) k_rcs) k_nam) k_maps) k_ifs) k_mo) k_lo) k_wk) k_va) k_rt) k_io) k_lp) prog_plainKeys) k_sh) prog_stopsHeard) prog_mayEnter) prog_lifted) prog_make) k_ki) k_pi) k_ve) k_vf)

theorem said : Rows.MeasureOthersSaid :=
  OpenClaim.holds_of_cond 4 Tryz.f4 rfl rfl rfl rfl rfl rfl rfl ⟨rfl, rfl, rfl, rfl, rfl⟩ rfl rfl rfl rfl rfl (by kernel_rfl) Tryz.func4 closed
    (of_decide_eq_true (by kernel_rfl)) (by unfold Func.isWrapper; first | (rw [if_pos (by decide +kernel)]; kernel_rfl) | (rw [if_neg (by decide +kernel)]; exact ⟨rfl, rfl⟩))
    (fun os started H enc _ F => by rw [OpenClaim.pre_eq_preRow]; exact lifted os started H enc F)

theorem plain (f : FuncId) (fn : Func) (hf : Tryz.pinned.checked.prog.funcNamed Rows.measureOthersRow.func = some f) (hfn : Tryz.pinned.checked.prog.funcs[f]? = some fn) :
    true = Tryz.pinned.checked.prog.looks [] ∧ ∀ (j : Nat) t, fn.params[j]? = some t → Tryz.pinned.checked.prog.wantsStandIn t = false := by
  obtain rfl : f = 4 := Option.some.inj ((show Tryz.prog.funcNamed Rows.measureOthersRow.func = some 4 by kernel_rfl).symm.trans hf) |>.symm
  obtain rfl : fn = Tryz.f4 := (Option.some.inj (Tryz.func4.symm.trans hfn)).symm
  refine ⟨by kernel_rfl, fun j t ht => ?_⟩
  rw [Tryz.params4] at ht
  have hm := Array.mem_of_getElem? ht
  simp only [List.mem_toArray, List.mem_cons, List.not_mem_nil, or_false] at hm
  rcases hm with rfl | rfl
  · exact (show Tryz.prog.wantsStandIn 22 = false by kernel_rfl)
  · exact (show Tryz.prog.wantsStandIn 9 = false by kernel_rfl)
end Go.Proofs.YtfcjaljaomknjaaGreatDoor.measureOthers
namespace Go.Proofs.YtfcjaljaomknjaaGreatDoor
theorem measureOthers.k_wft : Rows.measureOthersRow.wfByText (OpenSpec.ofChange Rows.measureOthersSpec) = true := by kernel_rfl
theorem measureOthers.k_main : Tryz.pinned.checked.prog.mainIs = some (Rows.measureOthersCard.stood.harness.1, Rows.measureOthersCard.stood.harness.2.toList) := by kernel_rfl
theorem measureOthers.k_goes : false = Rows.measureOthersRow.goesBy Tryz.pinned.checked.prog := by kernel_rfl
/-- The card. -/
theorem measureOthers_card : Rows.MeasureOthersCardSaid :=
  Claim7.holds_tied_plain_at .later [] _ _ _ _ measureOthers.said (fun _ h => by cases h) measureOthers.k_wft (fun _ h => by cases h) measureOthers_row_tie rfl ⟨rfl, rfl⟩ measureOthers.k_main rfl measureOthers.plain measureOthers.k_goes
end Go.Proofs.YtfcjaljaomknjaaGreatDoor
