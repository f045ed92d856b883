/-
  The law RootNear: its row and its tied card. Conditions: those of the given row alone.
-/
import Derived.Test.YtgddookioipjiaaGreatDoorCards
import Derived.Test.YtgddookioipjiaaGreatDoorTie
import Derived.ChangeMaps5
import Derived.Test.YtgddookioipjiaaGreatDoorZ10
import Derived.Test.YtgddookioipjiaaGreatDoorZ12
import Derived.Test.YtgddookioipjiaaGreatDoorZ17
namespace Go.Proofs.YtgddookioipjiaaGreatDoor.rootNear
open Go.ChangeShapes Go.WideShapes Go.ChangeAt Go.RowKit Go.KP

set_option maxRecDepth 100000 in
theorem contract (H : Type) (enc : TypeId × Value → H) (W : World) (base : Nat) (args : Array Value) (ds gs : List (DataW H)) (before : List MemPlace)
    (hval : ∀ (j : Nat) t v, Tryz.f11.params[j]? = some t → args[j]? = some v → Value.okWide Tryz.prog W .any base t v)
    (hW : DataW.Whole enc Tryz.prog Tryz.f11.params.toList Rows.rootNearSpec.vars false W args.toList ds gs before) (hL : laidMetH Tryz.prog Rows.rootNearRow.laid W) (hsh : W.ShapedOpen Tryz.prog) :
    Calls Tryz.prog 11 args W fun e W' => ∃ v, e = .returned v ∧ Rows.rootNearSpec.post enc Tryz.prog Tryz.f11 false true false false W args v W' := by
  have hW' := hW
  obtain ⟨p, q, hA0, hV, rfl, hfz, hnd⟩ := hW
  have hA : DataW.TrodAll enc Tryz.prog W 0 (fun _ => true) true Tryz.f11.params.toList args.toList ds p := hA0
  rw [Tryz.params11] at hA hval
  obtain ⟨v0, vs0, d0, ds0, p0, q0, hargs, rfl, rfl, h0, r0⟩ := trodAll_cons hA
  obtain ⟨v1, vs1, d1, ds1, p1, q1, rfl, rfl, rfl, h1, r1⟩ := trodAll_cons r0
  obtain ⟨rfl, rfl, rfl⟩ := trodAll_nil r1
  obtain rfl : args = #[v0, v1] := by cases args; simp_all
  obtain ⟨rfl, rfl⟩ := trodVars_none hV
  obtain ⟨s0, rfl, rfl, rfl, hs0⟩ := Go.ChangeMaps.open_string Tryz.underlying22 (hval 0 22 v0 rfl rfl) h0
  obtain ⟨s1, rfl, rfl, rfl, hs1⟩ := Go.ChangeMaps.open_string Tryz.underlying22 (hval 1 22 v1 rfl rfl) h1
  clear hA0
  simp only [List.append_nil] at hW'
  have walk : Calls Tryz.prog 11 #[.string s0, .string s1] W (Ret W (.bool true)) := (lawNear_any s0 s1 _ W (Nat.le_refl _) (pr_of_laid hL hsh))
  refine walk.mono fun e W' ⟨he, hb⟩ => ?_
  subst he
  exact ⟨_, rfl, law_post laidOut (by kernel_rfl) rfl (by kernel_rfl) Tryz.underlying4 hW' rfl hb⟩

theorem reads (os : Os) {H : Type} (enc : TypeId × Value → H) : ∃ places, DataW.whole enc Tryz.prog ((numStart os).forCall (fun _ _ => 0) ⟨#[], #[.string ⟨#[]⟩, .string ⟨#[]⟩], []⟩).memory Tryz.f11.params.toList Rows.rootNearSpec.vars false (#[.string ⟨#[]⟩, .string ⟨#[]⟩] : Array Value).toList 8 = some ([.lit (.string []), .lit (.string [])], [], places) :=
  ⟨[], by kernel_rfl⟩

set_option maxRecDepth 100000 in
theorem lifted (os : Os) (started : os.Started) (H : Type) (enc : TypeId × Value → H) (F : Stop.Interp) :
    ReturnsInHanded {} Tryz.checked os 11 .any ((OpenSpec.ofChange Rows.rootNearSpec).preRow enc Tryz.prog Tryz.f11 Rows.rootNearRow.domain false Rows.rootNearRow.laid) (((OpenSpec.ofChange Rows.rootNearSpec).at F).post enc Tryz.prog Tryz.f11 false true false false) := by
  obtain ⟨places, hx⟩ := reads os enc
  refine returnsInHanded_of_row (C := Tryz.checked) (s := OpenSpec.ofChange Rows.rootNearSpec) own started (by kernel_rfl) Tryz.func11
    (witness_row_at (enc := enc) (C := Tryz.checked) false (numStart os) #[.string ⟨#[]⟩, .string ⟨#[]⟩] rfl (by kernel_rfl) (by kernel_rfl) (by kernel_rfl)
      (OpenSpec.preRow_of_cond 8 hx (by kernel_rfl) (fun k hk => by cases hk) (by kernel_rfl) (numStart_met os _))) ?_
  intro W base args ds gs before hval hW _ _ _ hL hsh _
  exact contract H enc W base args ds gs before hval hW hL hsh

theorem k_wf : Rows.rootNearRow.wf (OpenSpec.ofChange (OpenSpec.ofChange Rows.rootNearSpec).bare) = true := by kernel_rfl
theorem k_par : Tryz.f11.params.all (Tryz.pinned.checked.prog.readableRec ·) = true := by kernel_rfl
theorem k_tie : namedTie Tryz.pinned.checked.prog Rows.rootNearRow.named (OpenSpec.ofChange Rows.rootNearSpec).bare.vars = true := by kernel_rfl
theorem k_st : (Rows.rootNearRow.stops == []) = true := by kernel_rfl
theorem k_kn : (Rows.rootNearRow.knobs == []) = true := by kernel_rfl
theorem k_inPlace : (Rows.rootNearRow.inPlace == Tryz.pinned.checked.prog.inPlace 11) = true := by kernel_rfl
theorem k_unf : (Rows.rootNearRow.unfollowed == Tryz.pinned.checked.prog.unfollowed 11) = true := by kernel_rfl
theorem k_rcs : (Rows.rootNearRow.recurses == Tryz.pinned.checked.prog.recurses 11) = true := by kernel_rfl
theorem k_nam : (Rows.rootNearRow.named == Tryz.pinned.checked.prog.varsNamed 11) = true := by kernel_rfl
theorem k_maps : (Rows.rootNearRow.maps == (Tryz.f11.params.toList ++ (OpenSpec.ofChange Rows.rootNearSpec).bare.plain.varTypes Tryz.pinned.checked.prog).any (Tryz.pinned.checked.prog.mapsRec ·)) = true := by kernel_rfl
theorem k_ifs : (Rows.rootNearRow.ifaces == (Tryz.f11.params.toList ++ (OpenSpec.ofChange Rows.rootNearSpec).bare.plain.varTypes Tryz.pinned.checked.prog).any (Tryz.pinned.checked.prog.ifacesRec ·)) = true := by kernel_rfl
theorem k_mo : (Rows.rootNearRow.mapsOut == Tryz.pinned.checked.prog.mapsAmong Tryz.f11.resultTypes.toList) = true := by kernel_rfl
theorem k_lo : (Rows.rootNearRow.loops == (Tryz.f11.params.toList ++ (OpenSpec.ofChange Rows.rootNearSpec).bare.plain.varTypes Tryz.pinned.checked.prog).any (Tryz.pinned.checked.prog.loopsFrom ·)) = true := by kernel_rfl
theorem k_wk : (Rows.rootNearRow.wideKeys == (Tryz.f11.params.toList ++ (OpenSpec.ofChange Rows.rootNearSpec).bare.plain.varTypes Tryz.pinned.checked.prog ++ Tryz.f11.resultTypes.toList).any (Tryz.pinned.checked.prog.wideKeysFrom ·)) = true := by kernel_rfl
theorem k_va : (OpenSpec.ofChange Rows.rootNearSpec).bare.vars.all (Tryz.pinned.checked.prog.varReadable ·) = true := by kernel_rfl
theorem k_rt : Tryz.f11.resultTypes.all (fun t => Tryz.pinned.checked.prog.readableRec t && decide (t < Tryz.pinned.checked.prog.types.size)) = true := by kernel_rfl
theorem k_io : (Rows.rootNearRow.ifacesOut == Tryz.f11.resultTypes.toList.any (Tryz.pinned.checked.prog.ifacesRec ·)) = true := by kernel_rfl
theorem k_lp : (Rows.rootNearRow.loopsOut == Tryz.f11.resultTypes.toList.any (Tryz.pinned.checked.prog.loopsFrom ·)) = true := by kernel_rfl
theorem k_sh : Rows.rootNearRow.shortTexts.isNone = true := by kernel_rfl
theorem k_ki : (Rows.rootNearRow.kinds == (if Rows.rootNearRow.domain.isEmpty then [] else Tryz.f11.params.toList.map fun t => match Tryz.pinned.checked.prog.underlying t with | some (.int k) => some k | _ => none)) = true := by kernel_rfl
theorem k_pi : (Rows.rootNearRow.pinned == Rows.rootNearRow.pinnedBy) = true := by kernel_rfl
theorem k_ve : (Rows.rootNearRow.veiled == (Tryz.f11.params.toList ++ (OpenSpec.ofChange Rows.rootNearSpec).bare.plain.varTypes Tryz.pinned.checked.prog ++ Tryz.f11.resultTypes.toList).any (Tryz.pinned.checked.prog.veiledRec ·)) = true := by kernel_rfl
theorem k_vf : Rows.rootNearRow.veiledFits Tryz.pinned.checked.prog Tryz.f11.params.toList (Tryz.f11.params.toList ++ (OpenSpec.ofChange Rows.rootNearSpec).bare.plain.varTypes Tryz.pinned.checked.prog ++ Tryz.f11.resultTypes.toList) = true := by kernel_rfl
set_option maxRecDepth 100000 in
theorem closed : joinedFacts Tryz.pinned.checked.prog 11 Tryz.f11 (OpenSpec.ofChange Rows.rootNearSpec).bare Rows.rootNearRow = true := by
  unfold joinedFacts
  exact (and_t (and_t (and_t (and_t (and_t (and_t (and_t (and_t (and_t (and_t (and_t (and_t (and_t (and_t (and_t (and_t (and_t (and_t (and_t (and_t (and_t (and_t (and_t (and_t (and_t (and_t (and_t (and_t (and_t (and_t (and_t k_wf prog_laidOut) prog_mapsRowed) k_par) k_tie) k_st) prog_stops) k_kn) prog_stopKnobs) k_inPlace) k_unf) k_rcs) k_nam) k_maps) k_ifs) k_mo) k_lo) k_wk) k_va) k_rt) k_io) k_lp) prog_plainKeys) k_sh) prog_stopsHeard) prog_mayEnter) prog_lifted) prog_make) k_ki) k_pi) k_ve) k_vf)

theorem said : Rows.RootNearSaid :=
  OpenClaim.holds_of_cond 11 Tryz.f11 rfl rfl rfl rfl rfl rfl rfl ⟨rfl, rfl, rfl, rfl, rfl⟩ rfl rfl rfl rfl rfl (by kernel_rfl) Tryz.func11 closed
    (of_decide_eq_true (by kernel_rfl)) (by unfold Func.isWrapper; first | (rw [if_pos (by decide +kernel)]; kernel_rfl) | (rw [if_neg (by decide +kernel)]; exact ⟨rfl, rfl⟩))
    (fun os started H enc _ F => by rw [OpenClaim.pre_eq_preRow]; exact lifted os started H enc F)

theorem plain (f : FuncId) (fn : Func) (hf : Tryz.pinned.checked.prog.funcNamed Rows.rootNearRow.func = some f) (hfn : Tryz.pinned.checked.prog.funcs[f]? = some fn) :
    true = Tryz.pinned.checked.prog.looks [] ∧ ∀ (j : Nat) t, fn.params[j]? = some t → Tryz.pinned.checked.prog.wantsStandIn t = false := by
  obtain rfl : f = 11 := Option.some.inj ((show Tryz.prog.funcNamed Rows.rootNearRow.func = some 11 by kernel_rfl).symm.trans hf) |>.symm
  obtain rfl : fn = Tryz.f11 := (Option.some.inj (Tryz.func11.symm.trans hfn)).symm
  refine ⟨by kernel_rfl, fun j t ht => ?_⟩
  rw [Tryz.params11] at ht
  have hm := Array.mem_of_getElem? ht
  simp only [List.mem_toArray, List.mem_cons, List.not_mem_nil, or_false] at hm
  rcases hm with rfl | rfl
  · exact (show Tryz.prog.wantsStandIn 22 = false by kernel_rfl)
  · exact (show Tryz.prog.wantsStandIn 22 = false by kernel_rfl)
end Go.Proofs.YtgddookioipjiaaGreatDoor.rootNear
namespace Go.Proofs.YtgddookioipjiaaGreatDoor
theorem rootNear.k_wft : Rows.rootNearRow.wfByText (OpenSpec.ofChange Rows.rootNearSpec) = true := by kernel_rfl
theorem rootNear.k_main : Tryz.pinned.checked.prog.mainIs = some (Rows.rootNearCard.stood.harness.1, Rows.rootNearCard.stood.harness.2.toList) := by kernel_rfl
theorem rootNear.k_goes : false = Rows.rootNearRow.goesBy Tryz.pinned.checked.prog := by kernel_rfl
/-- The card. -/
theorem rootNear_card : Rows.RootNearCardSaid :=
  Claim7.holds_tied_plain_at .later [] _ _ _ _ rootNear.said (fun _ h => by cases h) rootNear.k_wft (fun _ h => by cases h) rootNear_row_tie rfl ⟨rfl, rfl⟩ rootNear.k_main rfl rootNear.plain rootNear.k_goes
end Go.Proofs.YtgddookioipjiaaGreatDoor
