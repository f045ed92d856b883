/-
  The law VectorCross: its row and its tied card. Conditions: those of the given row alone.
-/
import Derived.Test.YtbfojhneajedmaaGreatDoorCards
import Derived.Test.YtbfojhneajedmaaGreatDoorTie
import Derived.ChangeMaps5
import Derived.Test.YtbfojhneajedmaaGreatDoorZ7
import Derived.Test.YtbfojhneajedmaaGreatDoorZ20
import Derived.Test.YtbfojhneajedmaaGreatDoorZ25
import Derived.Test.YtbfojhneajedmaaGreatDoorZ29
namespace Go.Proofs.YtbfojhneajedmaaGreatDoor.vectorCross
open Go.ChangeShapes Go.WideShapes Go.ChangeAt Go.RowKit Go.KP

set_option maxRecDepth 100000 in
theorem contract (H : Type) (enc : TypeId × Value → H) (W : World) (base : Nat) (args : Array Value) (ds gs : List (DataW H)) (before : List MemPlace)
    (hval : ∀ (j : Nat) t v, Tryz.f15.params[j]? = some t → args[j]? = some v → Value.okWide Tryz.prog W .any base t v)
    (hW : DataW.Whole enc Tryz.prog Tryz.f15.params.toList Rows.vectorCrossSpec.vars false W args.toList ds gs before) (hL : laidMetH Tryz.prog Rows.vectorCrossRow.laid W) (hsh : W.ShapedOpen Tryz.prog) :
    Calls Tryz.prog 15 args W fun e W' => ∃ v, e = .returned v ∧ Rows.vectorCrossSpec.post enc Tryz.prog Tryz.f15 false true false false W args v W' := by
  have hW' := hW
  obtain ⟨p, q, hA0, hV, rfl, hfz, hnd⟩ := hW
  have hA : DataW.TrodAll enc Tryz.prog W 0 (fun _ => true) true Tryz.f15.params.toList args.toList ds p := hA0
  rw [Tryz.params15] at hA hval
  obtain ⟨v0, vs0, d0, ds0, p0, q0, hargs, rfl, rfl, h0, r0⟩ := trodAll_cons hA
  obtain ⟨v1, vs1, d1, ds1, p1, q1, rfl, rfl, rfl, h1, r1⟩ := trodAll_cons r0
  obtain ⟨v2, vs2, d2, ds2, p2, q2, rfl, rfl, rfl, h2, r2⟩ := trodAll_cons r1
  obtain ⟨rfl, rfl, rfl⟩ := trodAll_nil r2
  obtain rfl : args = #[v0, v1, v2] := by cases args; simp_all
  obtain ⟨rfl, rfl⟩ := trodVars_none hV
  obtain ⟨a0, rfl⟩ := open_spot (hval 0 24 v0 rfl rfl)
  obtain ⟨a1, rfl⟩ := open_spot (hval 1 24 v1 rfl rfl)
  obtain ⟨s2, rfl, rfl, rfl, hs2⟩ := Go.ChangeMaps.open_string Tryz.underlying22 (hval 2 22 v2 rfl rfl) h2
  clear hA0
  simp only [List.append_nil] at hW'
  have walk : Calls Tryz.prog 15 #[.agg #[.string a0.x, .string a0.y, .string a0.z], .agg #[.string a1.x, .string a1.y, .string a1.z], .string s2] W (Ret W (.bool true)) := (lawCross_any a0 a1 s2 _ W (Nat.le_refl _) (pr_of_laid hL hsh))
  refine walk.mono fun e W' ⟨he, hb⟩ => ?_
  subst he
  exact ⟨_, rfl, law_post laidOut (by kernel_rfl) rfl (by kernel_rfl) Tryz.underlying4 hW' rfl hb⟩

theorem reads (os : Os) {H : Type} (enc : TypeId × Value → H) : ∃ places, DataW.whole enc Tryz.prog ((numStart os).forCall (fun _ _ => 0) ⟨#[], #[.agg #[.string ⟨#[]⟩, .string ⟨#[]⟩, .string ⟨#[]⟩], .agg #[.string ⟨#[]⟩, .string ⟨#[]⟩, .string ⟨#[]⟩], .string ⟨#[]⟩], []⟩).memory Tryz.f15.params.toList Rows.vectorCrossSpec.vars false (#[.agg #[.string ⟨#[]⟩, .string ⟨#[]⟩, .string ⟨#[]⟩], .agg #[.string ⟨#[]⟩, .string ⟨#[]⟩, .string ⟨#[]⟩], .string ⟨#[]⟩] : Array Value).toList 8 = some ([.agg [.lit (.string []), .lit (.string []), .lit (.string [])], .agg [.lit (.string []), .lit (.string []), .lit (.string [])], .lit (.string [])], [], places) :=
  ⟨[], by kernel_rfl⟩

set_option maxRecDepth 100000 in
theorem lifted (os : Os) (started : os.Started) (H : Type) (enc : TypeId × Value → H) (F : Stop.Interp) :
    ReturnsInHanded {} Tryz.checked os 15 .any ((OpenSpec.ofChange Rows.vectorCrossSpec).preRow enc Tryz.prog Tryz.f15 Rows.vectorCrossRow.domain false Rows.vectorCrossRow.laid) (((OpenSpec.ofChange Rows.vectorCrossSpec).at F).post enc Tryz.prog Tryz.f15 false true false false) := by
  obtain ⟨places, hx⟩ := reads os enc
  refine returnsInHanded_of_row (C := Tryz.checked) (s := OpenSpec.ofChange Rows.vectorCrossSpec) own started (by kernel_rfl) Tryz.func15
    (witness_row_at (enc := enc) (C := Tryz.checked) false (numStart os) #[.agg #[.string ⟨#[]⟩, .string ⟨#[]⟩, .string ⟨#[]⟩], .agg #[.string ⟨#[]⟩, .string ⟨#[]⟩, .string ⟨#[]⟩], .string ⟨#[]⟩] rfl (by kernel_rfl) (by kernel_rfl) (by kernel_rfl)
      (OpenSpec.preRow_of_cond 8 hx (by kernel_rfl) (fun k hk => by cases hk) (by kernel_rfl) (numStart_met os _))) ?_
  intro W base args ds gs before hval hW _ _ _ hL hsh _
  exact contract H enc W base args ds gs before hval hW hL hsh

theorem k_wf : Rows.vectorCrossRow.wf (OpenSpec.ofChange (OpenSpec.ofChange Rows.vectorCrossSpec).bare) = true := by kernel_rfl
theorem k_par : Tryz.f15.params.all (Tryz.pinned.checked.prog.readableRec ·) = true := by kernel_rfl
theorem k_tie : namedTie Tryz.pinned.checked.prog Rows.vectorCrossRow.named (OpenSpec.ofChange Rows.vectorCrossSpec).bare.vars = true := by kernel_rfl
theorem k_st : (Rows.vectorCrossRow.stops == []) = true := by kernel_rfl
theorem k_kn : (Rows.vectorCrossRow.knobs == []) = true := by kernel_rfl
theorem k_inPlace : (Rows.vectorCrossRow.inPlace == Tryz.pinned.checked.prog.inPlace 15) = true := by kernel_rfl
theorem k_unf : (Rows.vectorCrossRow.unfollowed == Tryz.pinned.checked.prog.unfollowed 15) = true := by kernel_rfl
theorem k_rcs : (Rows.vectorCrossRow.recurses == Tryz.pinned.checked.prog.recurses 15) = true := by kernel_rfl
theorem k_nam : (Rows.vectorCrossRow.named == Tryz.pinned.checked.prog.varsNamed 15) = true := by kernel_rfl
theorem k_maps : (Rows.vectorCrossRow.maps == (Tryz.f15.params.toList ++ (OpenSpec.ofChange Rows.vectorCrossSpec).bare.plain.varTypes Tryz.pinned.checked.prog).any (Tryz.pinned.checked.prog.mapsRec ·)) = true := by kernel_rfl
theorem k_ifs : (Rows.vectorCrossRow.ifaces == (Tryz.f15.params.toList ++ (OpenSpec.ofChange Rows.vectorCrossSpec).bare.plain.varTypes Tryz.pinned.checked.prog).any (Tryz.pinned.checked.prog.ifacesRec ·)) = true := by kernel_rfl
theorem k_mo : (Rows.vectorCrossRow.mapsOut == Tryz.pinned.checked.prog.mapsAmong Tryz.f15.resultTypes.toList) = true := by kernel_rfl
theorem k_lo : (Rows.vectorCrossRow.loops == (Tryz.f15.params.toList ++ (OpenSpec.ofChange Rows.vectorCrossSpec).bare.plain.varTypes Tryz.pinned.checked.prog).any (Tryz.pinned.checked.prog.loopsFrom ·)) = true := by kernel_rfl
theorem k_wk : (Rows.vectorCrossRow.wideKeys == (Tryz.f15.params.toList ++ (OpenSpec.ofChange Rows.vectorCrossSpec).bare.plain.varTypes Tryz.pinned.checked.prog ++ Tryz.f15.resultTypes.toList).any (Tryz.pinned.checked.prog.wideKeysFrom ·)) = true := by kernel_rfl
theorem k_va : (OpenSpec.ofChange Rows.vectorCrossSpec).bare.vars.all (Tryz.pinned.checked.prog.varReadable ·) = true := by kernel_rfl
theorem k_rt : Tryz.f15.resultTypes.all (fun t => Tryz.pinned.checked.prog.readableRec t && decide (t < Tryz.pinned.checked.prog.types.size)) = true := by kernel_rfl
theorem k_io : (Rows.vectorCrossRow.ifacesOut == Tryz.f15.resultTypes.toList.any (Tryz.pinned.checked.prog.ifacesRec ·)) = true := by kernel_rfl
theorem k_lp : (Rows.vectorCrossRow.loopsOut == Tryz.f15.resultTypes.toList.any (Tryz.pinned.checked.prog.loopsFrom ·)) = true := by kernel_rfl
theorem k_sh : Rows.vectorCrossRow.shortTexts.isNone = true := by kernel_rfl
theorem k_ki : (Rows.vectorCrossRow.kinds == (if Rows.vectorCrossRow.domain.isEmpty then [] else Tryz.f15.params.toList.map fun t => match Tryz.pinned.checked.prog.underlying t with | some (.int k) => some k | _ => none)) = true := by kernel_rfl
theorem k_pi : (Rows.vectorCrossRow.pinned == Rows.vectorCrossRow.pinnedBy) = true := by kernel_rfl
theorem k_ve : (Rows.vectorCrossRow.veiled == (Tryz.f15.params.toList ++ (OpenSpec.ofChange Rows.vectorCrossSpec).bare.plain.varTypes Tryz.pinned.checked.prog ++ Tryz.f15.resultTypes.toList).any (Tryz.pinned.checked.prog.veiledRec ·)) = true := by kernel_rfl
theorem k_vf : Rows.vectorCrossRow.veiledFits Tryz.pinned.checked.prog Tryz.f15.params.toList (Tryz.f15.params.toList ++ (OpenSpec.ofChange Rows.vectorCrossSpec).bare.plain.varTypes Tryz.pinned.checked.prog ++ Tryz.f15.resultTypes.toList) = true := by kernel_rfl
set_option maxRecDepth 100000 in
theorem closed : joinedFacts Tryz.pinned.checked.prog 15 Tryz.f15 (OpenSpec.ofChange Rows.vectorCrossSpec).bare Rows.vectorCrossRow = true := by
  unfold joinedFacts
  exact (and_t (and_t (and_t (and_t (and_t (and_t (and_t (and_t (and_t (and_t (and_t (and_t (and_t (and_t (and_t (and_t (and_t (and_t (and_t (and_t (and_t (and_t (and_t (and_t (and_t (and_t (and_t (and_t (and_t (and_t (and_t k_wf prog_laidOut) prog_mapsRowed) k_par) k_tie) k_st) prog_stops) k_kn) prog_stopKnobs) k_inPlace) k_unf) k_rcs) k_nam) k_maps) k_ifs) k_mo) k_lo) k_wk) k_va) k_rt) k_io) k_lp) prog_plainKeys) k_sh) prog_stopsHeard) prog_mayEnter) prog_lifted) prog_make) k_ki) k_pi) k_ve) k_vf)

theorem said : Rows.VectorCrossSaid :=
  OpenClaim.holds_of_cond 15 Tryz.f15 rfl rfl rfl rfl rfl rfl rfl ⟨rfl, rfl, rfl, rfl, rfl⟩ rfl rfl rfl rfl rfl (by kernel_rfl) Tryz.func15 closed
    (of_decide_eq_true (by kernel_rfl)) (by unfold Func.isWrapper; first | (rw [if_pos (by decide +kernel)]; kernel_rfl) | (rw [if_neg (by decide +kernel)]; exact ⟨rfl, rfl⟩))
    (fun os started H enc _ F => by rw [OpenClaim.pre_eq_preRow]; exact lifted os started H enc F)

theorem plain (f : FuncId) (fn : Func) (hf : Tryz.pinned.checked.prog.funcNamed Rows.vectorCrossRow.func = some f) (hfn : Tryz.pinned.checked.prog.funcs[f]? = some fn) :
    true = Tryz.pinned.checked.prog.looks [] ∧ ∀ (j : Nat) t, fn.params[j]? = some t → Tryz.pinned.checked.prog.wantsStandIn t = false := by
  obtain rfl : f = 15 := Option.some.inj ((show Tryz.prog.funcNamed Rows.vectorCrossRow.func = some 15 by kernel_rfl).symm.trans hf) |>.symm
  obtain rfl : fn = Tryz.f15 := (Option.some.inj (Tryz.func15.symm.trans hfn)).symm
  refine ⟨by kernel_rfl, fun j t ht => ?_⟩
  rw [Tryz.params15] at ht
  have hm := Array.mem_of_getElem? ht
  simp only [List.mem_toArray, List.mem_cons, List.not_mem_nil, or_false] at hm
  rcases hm with rfl | rfl | rfl
  · exact (show Tryz.prog.wantsStandIn 24 = false by kernel_rfl)
  · exact (show Tryz.prog.wantsStandIn 24 = false by kernel_rfl)
  · exact (show Tryz.prog.wantsStandIn 22 = false by kernel_rfl)
end Go.Proofs.YtbfojhneajedmaaGreatDoor.vectorCross
namespace Go.Proofs.YtbfojhneajedmaaGreatDoor
theorem vectorCross.k_wft : Rows.vectorCrossRow.wfByText (OpenSpec.ofChange Rows.vectorCrossSpec) = true := by kernel_rfl
theorem vectorCross.k_main : Tryz.pinned.checked.prog.mainIs = some (Rows.vectorCrossCard.stood.harness.1, Rows.vectorCrossCard.stood.harness.2.toList) := by kernel_rfl
theorem vectorCross.k_goes : false = Rows.vectorCrossRow.goesBy Tryz.pinned.checked.prog := by kernel_rfl
/-- The card. -/
theorem vectorCross_card : Rows.VectorCrossCardSaid :=
  Claim7.holds_tied_plain_at .later [] _ _ _ _ vectorCross.said (fun _ h => by cases h) vectorCross.k_wft (fun _ h => by cases h) vectorCross_row_tie rfl ⟨rfl, rfl⟩ vectorCross.k_main rfl vectorCross.plain vectorCross.k_goes
end Go.Proofs.YtbfojhneajedmaaGreatDoor
