/-
  The law VectorLagrange: its row and its tied card. Conditions: those of the given row alone.
-/
import Derived.Test.YtbfojhneajedmaaGreatDoorCards
import Derived.Test.YtbfojhneajedmaaGreatDoorTie
import Derived.ChangeMaps5
import Derived.Test.YtbfojhneajedmaaGreatDoorZ7
import Derived.Test.YtbfojhneajedmaaGreatDoorZ20
import Derived.Test.YtbfojhneajedmaaGreatDoorZ26
import Derived.Test.YtbfojhneajedmaaGreatDoorZ31
namespace Go.Proofs.YtbfojhneajedmaaGreatDoor.vectorLagrange
open Go.ChangeShapes Go.WideShapes Go.ChangeAt Go.RowKit Go.KP

set_option maxRecDepth 100000 in
theorem contract (H : Type) (enc : TypeId × Value → H) (W : World) (base : Nat) (args : Array Value) (ds gs : List (DataW H)) (before : List MemPlace)
    (hval : ∀ (j : Nat) t v, Tryz.f11.params[j]? = some t → args[j]? = some v → Value.okWide Tryz.prog W .any base t v)
    (hW : DataW.Whole enc Tryz.prog Tryz.f11.params.toList Rows.vectorLagrangeSpec.vars false W args.toList ds gs before) (hL : laidMetH Tryz.prog Rows.vectorLagrangeRow.laid W) (hsh : W.ShapedOpen Tryz.prog) :
    Calls Tryz.prog 11 args W fun e W' => ∃ v, e = .returned v ∧ Rows.vectorLagrangeSpec.post enc Tryz.prog Tryz.f11 false true false false W args v W' := by
  have hW' := hW
  obtain ⟨p, q, hA0, hV, rfl, hfz, hnd⟩ := hW
  have hA : DataW.TrodAll enc Tryz.prog W 0 (fun _ => true) true Tryz.f11.params.toList args.toList ds p := hA0
  rw [Tryz.params11] at hA hval
  obtain ⟨v0, vs0, d0, ds0, p0, q0, hargs, rfl, rfl, h0, r0⟩ := trodAll_cons hA
  obtain ⟨v1, vs1, d1, ds1, p1, q1, rfl, rfl, rfl, h1, r1⟩ := trodAll_cons r0
  obtain ⟨rfl, rfl, rfl⟩ := trodAll_nil r1
  obtain rfl : args = #[v0, v1] := by cases args; simp_all
  obtain ⟨rfl, rfl⟩ := trodVars_none hV
  obtain ⟨a0, rfl⟩ := open_spot (hval 0 24 v0 rfl rfl)
  obtain ⟨a1, rfl⟩ := open_spot (hval 1 24 v1 rfl rfl)
  clear hA0
  simp only [List.append_nil] at hW'
  have walk : Calls Tryz.prog 11 #[.agg #[.string a0.x, .string a0.y, .string a0.z], .agg #[.string a1.x, .string a1.y, .string a1.z]] W (Ret W (.bool true)) := (lawLagrange_any a0 a1 _ W (Nat.le_refl _) (pr_of_laid hL hsh))
  refine walk.mono fun e W' ⟨he, hb⟩ => ?_
  subst he
  exact ⟨_, rfl, law_post laidOut (by kernel_rfl) rfl (by kernel_rfl) Tryz.underlying4 hW' rfl hb⟩

theorem reads (os : Os) {H : Type} (enc : TypeId × Value → H) : ∃ places, DataW.whole enc Tryz.prog ((numStart os).forCall (fun _ _ => 0) ⟨#[], #[.agg #[.string ⟨#[]⟩, .string ⟨#[]⟩, .string ⟨#[]⟩], .agg #[.string ⟨#[]⟩, .string ⟨#[]⟩, .string ⟨#[]⟩]], []⟩).memory Tryz.f11.params.toList Rows.vectorLagrangeSpec.vars false (#[.agg #[.string ⟨#[]⟩, .string ⟨#[]⟩, .string ⟨#[]⟩], .agg #[.string ⟨#[]⟩, .string ⟨#[]⟩, .string ⟨#[]⟩]] : Array Value).toList 8 = some ([.agg [.lit (.string []), .lit (.string []), .lit (.string [])], .agg [.lit (.string []), .lit (.string []), .lit (.string [])]], [], places) :=
  ⟨[], by kernel_rfl⟩

set_option maxRecDepth 100000 in
theorem lifted (os : Os) (started : os.Started) (H : Type) (enc : TypeId × Value → H) (F : Stop.Interp) :
    ReturnsInHanded {} Tryz.checked os 11 .any ((OpenSpec.ofChange Rows.vectorLagrangeSpec).preRow enc Tryz.prog Tryz.f11 Rows.vectorLagrangeRow.domain false Rows.vectorLagrangeRow.laid) (((OpenSpec.ofChange Rows.vectorLagrangeSpec).at F).post enc Tryz.prog Tryz.f11 false true false false) := by
  obtain ⟨places, hx⟩ := reads os enc
  refine returnsInHanded_of_row (C := Tryz.checked) (s := OpenSpec.ofChange Rows.vectorLagrangeSpec) own started (by kernel_rfl) Tryz.func11
    (witness_row_at (enc := enc) (C := Tryz.checked) false (numStart os) #[.agg #[.string ⟨#[]⟩, .string ⟨#[]⟩, .string ⟨#[]⟩], .agg #[.string ⟨#[]⟩, .string ⟨#[]⟩, .string ⟨#[]⟩]] rfl (by kernel_rfl) (by kernel_rfl) (by kernel_rfl)
      (OpenSpec.preRow_of_cond 8 hx (by kernel_rfl) (fun k hk => by cases hk) (by kernel_rfl) (numStart_met os _))) ?_
  intro W base args ds gs before hval hW _ _ _ hL hsh _
  exact contract H enc W base args ds gs before hval hW hL hsh

theorem k_wf : Rows.vectorLagrangeRow.wf (OpenSpec.ofChange (OpenSpec.ofChange Rows.vectorLagrangeSpec).bare) = true := by kernel_rfl
theorem k_par : Tryz.f11.params.all (Tryz.pinned.checked.prog.readableRec ·) = true := by kernel_rfl
theorem k_tie : namedTie Tryz.pinned.checked.prog Rows.vectorLagrangeRow.named (OpenSpec.ofChange Rows.vectorLagrangeSpec).bare.vars = true := by kernel_rfl
theorem k_st : (Rows.vectorLagrangeRow.stops == []) = true := by kernel_rfl
theorem k_kn : (Rows.vectorLagrangeRow.knobs == []) = true := by kernel_rfl
theorem k_inPlace : (Rows.vectorLagrangeRow.inPlace == Tryz.pinned.checked.prog.inPlace 11) = true := by kernel_rfl
theorem k_unf : (Rows.vectorLagrangeRow.unfollowed == Tryz.pinned.checked.prog.unfollowed 11) = true := by kernel_rfl
theorem k_rcs : (Rows.vectorLagrangeRow.recurses == Tryz.pinned.checked.prog.recurses 11) = true := by kernel_rfl
theorem k_nam : (Rows.vectorLagrangeRow.named == Tryz.pinned.checked.prog.varsNamed 11) = true := by kernel_rfl
theorem k_maps : (Rows.vectorLagrangeRow.maps == (Tryz.f11.params.toList ++ (OpenSpec.ofChange Rows.vectorLagrangeSpec).bare.plain.varTypes Tryz.pinned.checked.prog).any (Tryz.pinned.checked.prog.mapsRec ·)) = true := by kernel_rfl
theorem k_ifs : (Rows.vectorLagrangeRow.ifaces == (Tryz.f11.params.toList ++ (OpenSpec.ofChange Rows.vectorLagrangeSpec).bare.plain.varTypes Tryz.pinned.checked.prog).any (Tryz.pinned.checked.prog.ifacesRec ·)) = true := by kernel_rfl
theorem k_mo : (Rows.vectorLagrangeRow.mapsOut == Tryz.pinned.checked.prog.mapsAmong Tryz.f11.resultTypes.toList) = true := by kernel_rfl
theorem k_lo : (Rows.vectorLagrangeRow.loops == (Tryz.f11.params.toList ++ (OpenSpec.ofChange Rows.vectorLagrangeSpec).bare.plain.varTypes Tryz.pinned.checked.prog).any (Tryz.pinned.checked.prog.loopsFrom ·)) = true := by kernel_rfl
theorem k_wk : (Rows.vectorLagrangeRow.wideKeys == (Tryz.f11.params.toList ++ (OpenSpec.ofChange Rows.vectorLagrangeSpec).bare.plain.varTypes Tryz.pinned.checked.prog ++ Tryz.f11.resultTypes.toList).any (Tryz.pinned.checked.prog.wideKeysFrom ·)) = true := by kernel_rfl
theorem k_va : (OpenSpec.ofChange Rows.vectorLagrangeSpec).bare.vars.all (Tryz.pinned.checked.prog.varReadable ·) = true := by kernel_rfl
theorem k_rt : Tryz.f11.resultTypes.all (fun t => Tryz.pinned.checked.prog.readableRec t && decide (t < Tryz.pinned.checked.prog.types.size)) = true := by kernel_rfl
theorem k_io : (Rows.vectorLagrangeRow.ifacesOut == Tryz.f11.resultTypes.toList.any (Tryz.pinned.checked.prog.ifacesRec ·)) = true := by kernel_rfl
theorem k_lp : (Rows.vectorLagrangeRow.loopsOut == Tryz.f11.resultTypes.toList.any (Tryz.pinned.checked.prog.loopsFrom ·)) = true := by kernel_rfl
theorem k_sh : Rows.vectorLagrangeRow.shortTexts.isNone = true := by kernel_rfl
theorem k_ki : (Rows.vectorLagrangeRow.kinds == (if Rows.vectorLagrangeRow.domain.isEmpty then [] else Tryz.f11.params.toList.map fun t => match Tryz.pinned.checked.prog.underlying t with | some (.int k) => some k | _ => none)) = true := by kernel_rfl
theorem k_pi : (Rows.vectorLagrangeRow.pinned == Rows.vectorLagrangeRow.pinnedBy) = true := by kernel_rfl
theorem k_ve : (Rows.vectorLagrangeRow.veiled == (Tryz.f11.params.toList ++ (OpenSpec.ofChange Rows.vectorLagrangeSpec).bare.plain.varTypes Tryz.pinned.checked.prog ++ Tryz.f11.resultTypes.toList).any (Tryz.pinned.checked.prog.veiledRec ·)) = true := by kernel_rfl
theorem k_vf : Rows.vectorLagrangeRow.veiledFits Tryz.pinned.checked.prog Tryz.f11.params.toList (Tryz.f11.params.toList ++ (OpenSpec.ofChange Rows.vectorLagrangeSpec).bare.plain.varTypes Tryz.pinned.checked.prog ++ Tryz.f11.resultTypes.toList) = true := by kernel_rfl
set_option maxRecDepth 100000 in
theorem closed : joinedFacts Tryz.pinned.checked.prog 11 Tryz.f11 (OpenSpec.ofChange Rows.vectorLagrangeSpec).bare Rows.vectorLagrangeRow = true := by
  unfold joinedFacts
  exact (and_t (and_t (and_t (and_t (and_t (and_t (and_t (and_t (and_t (and_t (and_t (and_t (and_t (and_t (and_t (and_t (and_t (and_t (and_t (and_t (and_t (and_t (and_t (and_t (and_t (and_t (and_t (and_t (and_t (and_t (and_t k_wf prog_laidOut) prog_mapsRowed) k_par) k_tie) k_st) prog_stops) k_kn) prog_stopKnobs) k_inPlace) k_unf) k_rcs) k_nam) k_maps) k_ifs) k_mo) k_lo) k_wk) k_va) k_rt) k_io) k_lp) prog_plainKeys) k_sh) prog_stopsHeard) prog_mayEnter) prog_lifted) prog_make) k_ki) k_pi) k_ve) k_vf)

theorem said : Rows.VectorLagrangeSaid :=
  OpenClaim.holds_of_cond 11 Tryz.f11 rfl rfl rfl rfl rfl rfl rfl ⟨rfl, rfl, rfl, rfl, rfl⟩ rfl rfl rfl rfl rfl (by kernel_rfl) Tryz.func11 closed
    (of_decide_eq_true (by kernel_rfl)) (by unfold Func.isWrapper; first | (rw [if_pos (by decide +kernel)]; kernel_rfl) | (rw [if_neg (by decide +kernel)]; exact ⟨rfl, rfl⟩))
    (fun os started H enc _ F => by rw [OpenClaim.pre_eq_preRow]; exact lifted os started H enc F)

theorem plain (f : FuncId) (fn : Func) (hf : Tryz.pinned.checked.prog.funcNamed Rows.vectorLagrangeRow.func = some f) (hfn : Tryz.pinned.checked.prog.funcs[f]? = some fn) :
    true = Tryz.pinned.checked.prog.looks [] ∧ ∀ (j : Nat) t, fn.params[j]? = some t → Tryz.pinned.checked.prog.wantsStandIn t = false := by
  obtain rfl : f = 11 := Option.some.inj ((show Tryz.prog.funcNamed Rows.vectorLagrangeRow.func = some 11 by kernel_rfl).symm.trans hf) |>.symm
  obtain rfl : fn = Tryz.f11 := (Option.some.inj (Tryz.func11.symm.trans hfn)).symm
  refine ⟨by kernel_rfl, fun j t ht => ?_⟩
  rw [Tryz.params11] at ht
  have hm := Array.mem_of_getElem? ht
  simp only [List.mem_toArray, List.mem_cons, List.not_mem_nil, or_false] at hm
  rcases hm with rfl | rfl
  · exact (show Tryz.prog.wantsStandIn 24 = false by kernel_rfl)
  · exact (show Tryz.prog.wantsStandIn 24 = false by kernel_rfl)
end Go.Proofs.YtbfojhneajedmaaGreatDoor.vectorLagrange
namespace Go.Proofs.YtbfojhneajedmaaGreatDoor
theorem vectorLagrange.k_wft : Rows.vectorLagrangeRow.wfByText (OpenSpec.ofChange Rows.vectorLagrangeSpec) = true := by kernel_rfl
theorem vectorLagrange.k_main : Tryz.pinned.checked.prog.mainIs = some (Rows.vectorLagrangeCard.stood.harness.1, Rows.vectorLagrangeCard.stood.harness.2.toList) := by kernel_rfl
theorem vectorLagrange.k_goes : false = Rows.vectorLagrangeRow.goesBy Tryz.pinned.checked.prog := by kernel_rfl
/-- The card. -/
theorem vectorLagrange_card : Rows.VectorLagrangeCardSaid :=
  Claim7.holds_tied_plain_at .later [] _ _ _ _ vectorLagrange.said (fun _ h => by cases h) vectorLagrange.k_wft (fun _ h => by cases h) vectorLagrange_row_tie rfl ⟨rfl, rfl⟩ vectorLagrange.k_main rfl vectorLagrange.plain vectorLagrange.k_goes
end Go.Proofs.YtbfojhneajedmaaGreatDoor
