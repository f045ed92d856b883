/-
  The law HiprafterSizes: its row and its tied card. Conditions: those of the given row alone.
-/
import Derived.Test.YtklgpilgalfckaaGreatDoorCards
import Derived.Test.YtklgpilgalfckaaGreatDoorTie
import Derived.ChangeMaps5
import Derived.Test.YtklgpilgalfckaaGreatDoorMN7
import Derived.Test.YtklgpilgalfckaaGreatDoorMN6
import Derived.Test.YtklgpilgalfckaaGreatDoorMN15
namespace Go.Proofs.YtklgpilgalfckaaGreatDoor.hiprafterSizes
open Go.ChangeShapes Go.WideShapes Go.ChangeAt Go.RowKit Go.KP

set_option maxRecDepth 100000 in
theorem contract (H : Type) (enc : TypeId × Value → H) (W : World) (base : Nat) (args : Array Value) (ds gs : List (DataW H)) (before : List MemPlace)
    (hval : ∀ (j : Nat) t v, Tryz.f4.params[j]? = some t → args[j]? = some v → Value.okWide Tryz.prog W .any base t v)
    (hW : DataW.Whole enc Tryz.prog Tryz.f4.params.toList Rows.hiprafterSizesSpec.vars false W args.toList ds gs before) (hL : laidMetH Tryz.prog Rows.hiprafterSizesRow.laid W) (hsh : W.ShapedOpen Tryz.prog) :
    Calls Tryz.prog 4 args W fun e W' => ∃ v, e = .returned v ∧ Rows.hiprafterSizesSpec.post enc Tryz.prog Tryz.f4 false true false false W args v W' := by
  have hW' := hW
  obtain ⟨p, q, hA0, hV, rfl, hfz, hnd⟩ := hW
  have hA : DataW.TrodAll enc Tryz.prog W 0 (fun _ => true) true Tryz.f4.params.toList args.toList ds p := hA0
  rw [Tryz.params4] at hA hval
  obtain ⟨v0, vs0, d0, ds0, p0, q0, hargs, rfl, rfl, h0, r0⟩ := trodAll_cons hA
  obtain ⟨v1, vs1, d1, ds1, p1, q1, rfl, rfl, rfl, h1, r1⟩ := trodAll_cons r0
  obtain ⟨v2, vs2, d2, ds2, p2, q2, rfl, rfl, rfl, h2, r2⟩ := trodAll_cons r1
  obtain ⟨v3, vs3, d3, ds3, p3, q3, rfl, rfl, rfl, h3, r3⟩ := trodAll_cons r2
  obtain ⟨v4, vs4, d4, ds4, p4, q4, rfl, rfl, rfl, h4, r4⟩ := trodAll_cons r3
  obtain ⟨rfl, rfl, rfl⟩ := trodAll_nil r4
  obtain rfl : args = #[v0, v1, v2, v3, v4] := by cases args; simp_all
  obtain ⟨rfl, rfl⟩ := trodVars_none hV
  obtain ⟨X0, A0, c0, rfl, hx0, hs0, hl0⟩ := smalls_open (hval 0 48 v0 rfl rfl) h0
  obtain ⟨K1, A1, c1, rfl, hx1, hb1, hl1⟩ := bytes_open (hval 1 49 v1 rfl rfl) h1
  obtain ⟨b2, rfl, rfl, rfl⟩ := open_bool Tryz.underlying4 (hval 2 4 v2 rfl rfl) h2
  obtain ⟨b3, rfl, rfl, rfl⟩ := open_bool Tryz.underlying4 (hval 3 4 v3 rfl rfl) h3
  obtain ⟨b4, rfl, rfl, rfl⟩ := open_bool Tryz.underlying4 (hval 4 4 v4 rfl rfl) h4
  clear hA0
  simp only [List.append_nil] at hW'
  have walk : Calls Tryz.prog 4 #[.slice A0 X0.length c0, .slice A1 K1.length c1, .bool b2, .bool b3, .bool b4] W (Ret W (.bool true)) := (lawSizes_any X0 K1 b2 b3 b4 A0 c0 A1 c1 _ W (Nat.le_refl _) (pq_of_laid hL hsh) (by unfold maxLen at hx0; omega) (by unfold maxLen at hx1; omega) hs0 hl0 hl1 hb1)
  refine walk.mono fun e W' ⟨he, hb⟩ => ?_
  subst he
  exact ⟨_, rfl, law_post laidOut (by kernel_rfl) rfl (by kernel_rfl) Tryz.underlying4 hW' rfl hb⟩

theorem reads (os : Os) {H : Type} (enc : TypeId × Value → H) : ∃ places, DataW.whole enc Tryz.prog ((numStart os).forCall (fun _ _ => 0) ⟨#[], #[.slice none 0 0, .slice none 0 0, .bool false, .bool false, .bool false], []⟩).memory Tryz.f4.params.toList Rows.hiprafterSizesSpec.vars false (#[.slice none 0 0, .slice none 0 0, .bool false, .bool false, .bool false] : Array Value).toList 8 = some ([.nil, .nil, .lit (.bool false), .lit (.bool false), .lit (.bool false)], [], places) :=
  ⟨[], by kernel_rfl⟩

set_option maxRecDepth 100000 in
theorem lifted (os : Os) (started : os.Started) (H : Type) (enc : TypeId × Value → H) (F : Stop.Interp) :
    ReturnsInHanded {} Tryz.checked os 4 .any ((OpenSpec.ofChange Rows.hiprafterSizesSpec).preRow enc Tryz.prog Tryz.f4 Rows.hiprafterSizesRow.domain false Rows.hiprafterSizesRow.laid) (((OpenSpec.ofChange Rows.hiprafterSizesSpec).at F).post enc Tryz.prog Tryz.f4 false true false false) := by
  obtain ⟨places, hx⟩ := reads os enc
  refine returnsInHanded_of_row (C := Tryz.checked) (s := OpenSpec.ofChange Rows.hiprafterSizesSpec) own started (by kernel_rfl) Tryz.func4
    (witness_row_at (enc := enc) (C := Tryz.checked) false (numStart os) #[.slice none 0 0, .slice none 0 0, .bool false, .bool false, .bool false] rfl (by kernel_rfl) (by kernel_rfl) (by kernel_rfl)
      (OpenSpec.preRow_of_cond 8 hx (by kernel_rfl) (fun k hk => by cases hk) (by kernel_rfl) (numStart_met os _))) ?_
  intro W base args ds gs before hval hW _ _ _ hL hsh _
  exact contract H enc W base args ds gs before hval hW hL hsh

theorem k_wf : Rows.hiprafterSizesRow.wf (OpenSpec.ofChange (OpenSpec.ofChange Rows.hiprafterSizesSpec).bare) = true := by kernel_rfl
theorem k_par : Tryz.f4.params.all (Tryz.pinned.checked.prog.readableRec ·) = true := by kernel_rfl
theorem k_tie : namedTie Tryz.pinned.checked.prog Rows.hiprafterSizesRow.named (OpenSpec.ofChange Rows.hiprafterSizesSpec).bare.vars = true := by kernel_rfl
theorem k_st : (Rows.hiprafterSizesRow.stops == []) = true := by kernel_rfl
theorem k_kn : (Rows.hiprafterSizesRow.knobs == []) = true := by kernel_rfl
theorem k_inPlace : (Rows.hiprafterSizesRow.inPlace == Tryz.pinned.checked.prog.inPlace 4) = true := by kernel_rfl
theorem k_unf : (Rows.hiprafterSizesRow.unfollowed == Tryz.pinned.checked.prog.unfollowed 4) = true := by kernel_rfl
theorem k_rcs : (Rows.hiprafterSizesRow.recurses == Tryz.pinned.checked.prog.recurses 4) = true := by kernel_rfl
theorem k_nam : (Rows.hiprafterSizesRow.named == Tryz.pinned.checked.prog.varsNamed 4) = true := by kernel_rfl
theorem k_maps : (Rows.hiprafterSizesRow.maps == (Tryz.f4.params.toList ++ (OpenSpec.ofChange Rows.hiprafterSizesSpec).bare.plain.varTypes Tryz.pinned.checked.prog).any (Tryz.pinned.checked.prog.mapsRec ·)) = true := by kernel_rfl
theorem k_ifs : (Rows.hiprafterSizesRow.ifaces == (Tryz.f4.params.toList ++ (OpenSpec.ofChange Rows.hiprafterSizesSpec).bare.plain.varTypes Tryz.pinned.checked.prog).any (Tryz.pinned.checked.prog.ifacesRec ·)) = true := by kernel_rfl
theorem k_mo : (Rows.hiprafterSizesRow.mapsOut == Tryz.pinned.checked.prog.mapsAmong Tryz.f4.resultTypes.toList) = true := by kernel_rfl
theorem k_lo : (Rows.hiprafterSizesRow.loops == (Tryz.f4.params.toList ++ (OpenSpec.ofChange Rows.hiprafterSizesSpec).bare.plain.varTypes Tryz.pinned.checked.prog).any (Tryz.pinned.checked.prog.loopsFrom ·)) = true := by kernel_rfl
theorem k_wk : (Rows.hiprafterSizesRow.wideKeys == (Tryz.f4.params.toList ++ (OpenSpec.ofChange Rows.hiprafterSizesSpec).bare.plain.varTypes Tryz.pinned.checked.prog ++ Tryz.f4.resultTypes.toList).any (Tryz.pinned.checked.prog.wideKeysFrom ·)) = true := by kernel_rfl
theorem k_va : (OpenSpec.ofChange Rows.hiprafterSizesSpec).bare.vars.all (Tryz.pinned.checked.prog.varReadable ·) = true := by kernel_rfl
theorem k_rt : Tryz.f4.resultTypes.all (fun t => Tryz.pinned.checked.prog.readableRec t && decide (t < Tryz.pinned.checked.prog.types.size)) = true := by kernel_rfl
theorem k_io : (Rows.hiprafterSizesRow.ifacesOut == Tryz.f4.resultTypes.toList.any (Tryz.pinned.checked.prog.ifacesRec ·)) = true := by kernel_rfl
theorem k_lp : (Rows.hiprafterSizesRow.loopsOut == Tryz.f4.resultTypes.toList.any (Tryz.pinned.checked.prog.loopsFrom ·)) = true := by kernel_rfl
theorem k_sh : Rows.hiprafterSizesRow.shortTexts.isNone = true := by kernel_rfl
theorem k_ki : (Rows.hiprafterSizesRow.kinds == (if Rows.hiprafterSizesRow.domain.isEmpty then [] else Tryz.f4.params.toList.map fun t => match Tryz.pinned.checked.prog.underlying t with | some (.int k) => some k | _ => none)) = true := by kernel_rfl
theorem k_pi : (Rows.hiprafterSizesRow.pinned == Rows.hiprafterSizesRow.pinnedBy) = true := by kernel_rfl
theorem k_ve : (Rows.hiprafterSizesRow.veiled == (Tryz.f4.params.toList ++ (OpenSpec.ofChange Rows.hiprafterSizesSpec).bare.plain.varTypes Tryz.pinned.checked.prog ++ Tryz.f4.resultTypes.toList).any (Tryz.pinned.checked.prog.veiledRec ·)) = true := by kernel_rfl
theorem k_vf : Rows.hiprafterSizesRow.veiledFits Tryz.pinned.checked.prog Tryz.f4.params.toList (Tryz.f4.params.toList ++ (OpenSpec.ofChange Rows.hiprafterSizesSpec).bare.plain.varTypes Tryz.pinned.checked.prog ++ Tryz.f4.resultTypes.toList) = true := by kernel_rfl
set_option maxRecDepth 100000 in
theorem closed : joinedFacts Tryz.pinned.checked.prog 4 Tryz.f4 (OpenSpec.ofChange Rows.hiprafterSizesSpec).bare Rows.hiprafterSizesRow = true := by
  unfold joinedFacts
  exact (and_t (and_t (and_t (and_t (and_t (and_t (and_t (and_t (and_t (and_t (and_t (and_t (and_t (and_t (and_t (and_t (and_t (and_t (and_t (and_t (and_t (and_t (and_t (and_t (and_t (and_t (and_t (and_t (and_t (and_t (and_t k_wf prog_laidOut) prog_mapsRowed) k_par) k_tie) k_st) prog_stops) k_kn) prog_stopKnobs) k_inPlace) k_unf) k_rcs) k_nam) k_maps) k_ifs) k_mo) k_lo) k_wk) k_va) k_rt) k_io) k_lp) prog_plainKeys) k_sh) prog_stopsHeard) prog_mayEnter) prog_lifted) prog_make) k_ki) k_pi) k_ve) k_vf)

theorem said : Rows.HiprafterSizesSaid :=
  OpenClaim.holds_of_cond 4 Tryz.f4 rfl rfl rfl rfl rfl rfl rfl ⟨rfl, rfl, rfl, rfl, rfl⟩ rfl rfl rfl rfl rfl (by kernel_rfl) Tryz.func4 closed
    (of_decide_eq_true (by kernel_rfl)) (by unfold Func.isWrapper; first | (rw [if_pos (by decide +kernel)]; kernel_rfl) | (rw [if_neg (by decide +kernel)]; exact ⟨rfl, rfl⟩))
    (fun os started H enc _ F => by rw [OpenClaim.pre_eq_preRow]; exact lifted os started H enc F)

theorem plain (f : FuncId) (fn : Func) (hf : Tryz.pinned.checked.prog.funcNamed Rows.hiprafterSizesRow.func = some f) (hfn : Tryz.pinned.checked.prog.funcs[f]? = some fn) :
    true = Tryz.pinned.checked.prog.looks [] ∧ ∀ (j : Nat) t, fn.params[j]? = some t → Tryz.pinned.checked.prog.wantsStandIn t = false := by
  obtain rfl : f = 4 := Option.some.inj ((show Tryz.prog.funcNamed Rows.hiprafterSizesRow.func = some 4 by kernel_rfl).symm.trans hf) |>.symm
  obtain rfl : fn = Tryz.f4 := (Option.some.inj (Tryz.func4.symm.trans hfn)).symm
  refine ⟨by kernel_rfl, fun j t ht => ?_⟩
  rw [Tryz.params4] at ht
  have hm := Array.mem_of_getElem? ht
  simp only [List.mem_toArray, List.mem_cons, List.not_mem_nil, or_false] at hm
  rcases hm with rfl | rfl | rfl | rfl | rfl
  · exact (show Tryz.prog.wantsStandIn 48 = false by kernel_rfl)
  · exact (show Tryz.prog.wantsStandIn 49 = false by kernel_rfl)
  · exact (show Tryz.prog.wantsStandIn 4 = false by kernel_rfl)
  · exact (show Tryz.prog.wantsStandIn 4 = false by kernel_rfl)
  · exact (show Tryz.prog.wantsStandIn 4 = false by kernel_rfl)
end Go.Proofs.YtklgpilgalfckaaGreatDoor.hiprafterSizes
namespace Go.Proofs.YtklgpilgalfckaaGreatDoor
theorem hiprafterSizes.k_wft : Rows.hiprafterSizesRow.wfByText (OpenSpec.ofChange Rows.hiprafterSizesSpec) = true := by kernel_rfl
theorem hiprafterSizes.k_main : Tryz.pinned.checked.prog.mainIs = some (Rows.hiprafterSizesCard.stood.harness.1, Rows.hiprafterSizesCard.stood.harness.2.toList) := by kernel_rfl
theorem hiprafterSizes.k_goes : false = Rows.hiprafterSizesRow.goesBy Tryz.pinned.checked.prog := by kernel_rfl
/-- The card. -/
theorem hiprafterSizes_card : Rows.HiprafterSizesCardSaid :=
  Claim7.holds_tied_plain_at .later [] _ _ _ _ hiprafterSizes.said (fun _ h => by cases h) hiprafterSizes.k_wft (fun _ h => by cases h) hiprafterSizes_row_tie rfl ⟨rfl, rfl⟩ hiprafterSizes.k_main rfl hiprafterSizes.plain hiprafterSizes.k_goes
end Go.Proofs.YtklgpilgalfckaaGreatDoor
