/-
  The law HiprafterLines: its row and its tied card. Conditions: those of the given row alone.
-/
import Derived.Test.YtklgpilgalfckaaGreatDoorCards
import Derived.Test.YtklgpilgalfckaaGreatDoorTie
import Derived.ChangeMaps5
import Derived.Test.YtklgpilgalfckaaGreatDoorMJ7
import Derived.Test.YtklgpilgalfckaaGreatDoorMJ6
import Derived.Test.YtklgpilgalfckaaGreatDoorMJ18
namespace Go.Proofs.YtklgpilgalfckaaGreatDoor.hiprafterLines
open Go.ChangeShapes Go.WideShapes Go.ChangeAt Go.RowKit Go.KP

set_option maxRecDepth 100000 in
theorem contract (H : Type) (enc : TypeId × Value → H) (W : World) (base : Nat) (args : Array Value) (ds gs : List (DataW H)) (before : List MemPlace)
    (hval : ∀ (j : Nat) t v, Tryz.f3.params[j]? = some t → args[j]? = some v → Value.okWide Tryz.prog W .any base t v)
    (hW : DataW.Whole enc Tryz.prog Tryz.f3.params.toList Rows.hiprafterLinesSpec.vars false W args.toList ds gs before) (hL : laidMetH Tryz.prog Rows.hiprafterLinesRow.laid W) (hsh : W.ShapedOpen Tryz.prog) :
    Calls Tryz.prog 3 args W fun e W' => ∃ v, e = .returned v ∧ Rows.hiprafterLinesSpec.post enc Tryz.prog Tryz.f3 false true false false W args v W' := by
  have hW' := hW
  obtain ⟨p, q, hA0, hV, rfl, hfz, hnd⟩ := hW
  have hA : DataW.TrodAll enc Tryz.prog W 0 (fun _ => true) true Tryz.f3.params.toList args.toList ds p := hA0
  rw [Tryz.params3] at hA hval
  obtain ⟨v0, vs0, d0, ds0, p0, q0, hargs, rfl, rfl, h0, r0⟩ := trodAll_cons hA
  obtain ⟨v1, vs1, d1, ds1, p1, q1, rfl, rfl, rfl, h1, r1⟩ := trodAll_cons r0
  obtain ⟨v2, vs2, d2, ds2, p2, q2, rfl, rfl, rfl, h2, r2⟩ := trodAll_cons r1
  obtain ⟨v3, vs3, d3, ds3, p3, q3, rfl, rfl, rfl, h3, r3⟩ := trodAll_cons r2
  obtain ⟨rfl, rfl, rfl⟩ := trodAll_nil r3
  obtain rfl : args = #[v0, v1, v2, v3] := by cases args; simp_all
  obtain ⟨rfl, rfl⟩ := trodVars_none hV
  obtain ⟨L0, A0, c0, rfl, hx0, hl0⟩ := lines_open (hval 0 22 v0 rfl rfl) h0
  obtain ⟨S1, A1, c1, rfl, hc1, hx1, hl1⟩ := sizes_open (hval 1 23 v1 rfl rfl) h1
  obtain ⟨k2, rfl, rfl, rfl, hk2⟩ := open_int Tryz.underlying3 (hval 2 3 v2 rfl rfl) h2
  have b2 := bounds_i64 hk2
  obtain ⟨k3, rfl, rfl, rfl, hk3⟩ := open_int Tryz.underlying3 (hval 3 3 v3 rfl rfl) h3
  have b3 := bounds_i64 hk3
  clear hA0
  simp only [List.append_nil] at hW'
  have walk : Calls Tryz.prog 3 #[.slice A0 L0.length c0, .slice A1 S1.length c1, .int .i64 k2, .int .i64 k3] W (Ret W (.bool true)) := (lawLines_any A0 _ c0 L0 A1 _ c1 S1 k2 k3 _ W (Nat.le_refl _) (pq_of_laid hL hsh) rfl rfl (by unfold maxLen at hx0; omega) (by unfold maxLen at hx1; omega) hc1 hl0 hl1)
  refine walk.mono fun e W' ⟨he, hb⟩ => ?_
  subst he
  exact ⟨_, rfl, law_post laidOut (by kernel_rfl) rfl (by kernel_rfl) Tryz.underlying4 hW' rfl hb⟩

theorem reads (os : Os) {H : Type} (enc : TypeId × Value → H) : ∃ places, DataW.whole enc Tryz.prog ((numStart os).forCall (fun _ _ => 0) ⟨#[], #[.slice none 0 0, .slice none 0 0, .int .i64 0, .int .i64 0], []⟩).memory Tryz.f3.params.toList Rows.hiprafterLinesSpec.vars false (#[.slice none 0 0, .slice none 0 0, .int .i64 0, .int .i64 0] : Array Value).toList 8 = some ([.nil, .nil, .lit (.int .i64 0), .lit (.int .i64 0)], [], places) :=
  ⟨[], by kernel_rfl⟩

set_option maxRecDepth 100000 in
theorem lifted (os : Os) (started : os.Started) (H : Type) (enc : TypeId × Value → H) (F : Stop.Interp) :
    ReturnsInHanded {} Tryz.checked os 3 .any ((OpenSpec.ofChange Rows.hiprafterLinesSpec).preRow enc Tryz.prog Tryz.f3 Rows.hiprafterLinesRow.domain false Rows.hiprafterLinesRow.laid) (((OpenSpec.ofChange Rows.hiprafterLinesSpec).at F).post enc Tryz.prog Tryz.f3 false true false false) := by
  obtain ⟨places, hx⟩ := reads os enc
  refine returnsInHanded_of_row (C := Tryz.checked) (s := OpenSpec.ofChange Rows.hiprafterLinesSpec) own started (by kernel_rfl) Tryz.func3
    (witness_row_at (enc := enc) (C := Tryz.checked) false (numStart os) #[.slice none 0 0, .slice none 0 0, .int .i64 0, .int .i64 0] rfl (by kernel_rfl) (by kernel_rfl) (by kernel_rfl)
      (OpenSpec.preRow_of_cond 8 hx (by kernel_rfl) (fun k hk => by cases hk) (by kernel_rfl) (numStart_met os _))) ?_
  intro W base args ds gs before hval hW _ _ _ hL hsh _
  exact contract H enc W base args ds gs before hval hW hL hsh

theorem k_wf : Rows.hiprafterLinesRow.wf (OpenSpec.ofChange (OpenSpec.ofChange Rows.hiprafterLinesSpec).bare) = true := by kernel_rfl
theorem k_par : Tryz.f3.params.all (Tryz.pinned.checked.prog.readableRec ·) = true := by kernel_rfl
theorem k_tie : namedTie Tryz.pinned.checked.prog Rows.hiprafterLinesRow.named (OpenSpec.ofChange Rows.hiprafterLinesSpec).bare.vars = true := by kernel_rfl
theorem k_st : (Rows.hiprafterLinesRow.stops == []) = true := by kernel_rfl
theorem k_kn : (Rows.hiprafterLinesRow.knobs == []) = true := by kernel_rfl
theorem k_inPlace : (Rows.hiprafterLinesRow.inPlace == Tryz.pinned.checked.prog.inPlace 3) = true := by kernel_rfl
theorem k_unf : (Rows.hiprafterLinesRow.unfollowed == Tryz.pinned.checked.prog.unfollowed 3) = true := by kernel_rfl
theorem k_rcs : (Rows.hiprafterLinesRow.recurses == Tryz.pinned.checked.prog.recurses 3) = true := by kernel_rfl
theorem k_nam : (Rows.hiprafterLinesRow.named == Tryz.pinned.checked.prog.varsNamed 3) = true := by kernel_rfl
theorem k_maps : (Rows.hiprafterLinesRow.maps == (Tryz.f3.params.toList ++ (OpenSpec.ofChange Rows.hiprafterLinesSpec).bare.plain.varTypes Tryz.pinned.checked.prog).any (Tryz.pinned.checked.prog.mapsRec ·)) = true := by kernel_rfl
theorem k_ifs : (Rows.hiprafterLinesRow.ifaces == (Tryz.f3.params.toList ++ (OpenSpec.ofChange Rows.hiprafterLinesSpec).bare.plain.varTypes Tryz.pinned.checked.prog).any (Tryz.pinned.checked.prog.ifacesRec ·)) = true := by kernel_rfl
theorem k_mo : (Rows.hiprafterLinesRow.mapsOut == Tryz.pinned.checked.prog.mapsAmong Tryz.f3.resultTypes.toList) = true := by kernel_rfl
theorem k_lo : (Rows.hiprafterLinesRow.loops == (Tryz.f3.params.toList ++ (OpenSpec.ofChange Rows.hiprafterLinesSpec).bare.plain.varTypes Tryz.pinned.checked.prog).any (Tryz.pinned.checked.prog.loopsFrom ·)) = true := by kernel_rfl
theorem k_wk : (Rows.hiprafterLinesRow.wideKeys == (Tryz.f3.params.toList ++ (OpenSpec.ofChange Rows.hiprafterLinesSpec).bare.plain.varTypes Tryz.pinned.checked.prog ++ Tryz.f3.resultTypes.toList).any (Tryz.pinned.checked.prog.wideKeysFrom ·)) = true := by kernel_rfl
theorem k_va : (OpenSpec.ofChange Rows.hiprafterLinesSpec).bare.vars.all (Tryz.pinned.checked.prog.varReadable ·) = true := by kernel_rfl
theorem k_rt : Tryz.f3.resultTypes.all (fun t => Tryz.pinned.checked.prog.readableRec t && decide (t < Tryz.pinned.checked.prog.types.size)) = true := by kernel_rfl
theorem k_io : (Rows.hiprafterLinesRow.ifacesOut == Tryz.f3.resultTypes.toList.any (Tryz.pinned.checked.prog.ifacesRec ·)) = true := by kernel_rfl
theorem k_lp : (Rows.hiprafterLinesRow.loopsOut == Tryz.f3.resultTypes.toList.any (Tryz.pinned.checked.prog.loopsFrom ·)) = true := by kernel_rfl
theorem k_sh : Rows.hiprafterLinesRow.shortTexts.isNone = true := by kernel_rfl
theorem k_ki : (Rows.hiprafterLinesRow.kinds == (if Rows.hiprafterLinesRow.domain.isEmpty then [] else Tryz.f3.params.toList.map fun t => match Tryz.pinned.checked.prog.underlying t with | some (.int k) => some k | _ => none)) = true := by kernel_rfl
theorem k_pi : (Rows.hiprafterLinesRow.pinned == Rows.hiprafterLinesRow.pinnedBy) = true := by kernel_rfl
theorem k_ve : (Rows.hiprafterLinesRow.veiled == (Tryz.f3.params.toList ++ (OpenSpec.ofChange Rows.hiprafterLinesSpec).bare.plain.varTypes Tryz.pinned.checked.prog ++ Tryz.f3.resultTypes.toList).any (Tryz.pinned.checked.prog.veiledRec ·)) = true := by kernel_rfl
theorem k_vf : Rows.hiprafterLinesRow.veiledFits Tryz.pinned.checked.prog Tryz.f3.params.toList (Tryz.f3.params.toList ++ (OpenSpec.ofChange Rows.hiprafterLinesSpec).bare.plain.varTypes Tryz.pinned.checked.prog ++ Tryz.f3.resultTypes.toList) = true := by kernel_rfl
set_option maxRecDepth 100000 in
theorem closed : joinedFacts Tryz.pinned.checked.prog 3 Tryz.f3 (OpenSpec.ofChange Rows.hiprafterLinesSpec).bare Rows.hiprafterLinesRow = true := by
  unfold joinedFacts
  exact (and_t (and_t (and_t (and_t (and_t (and_t (and_t (and_t (and_t (and_t (and_t (and_t (and_t (and_t (and_t (and_t (and_t (and_t (and_t (and_t (and_t (and_t (and_t (and_t (and_t (and_t (and_t (and_t (and_t (and_t (and_t k_wf prog_laidOut) prog_mapsRowed) k_par) k_tie) k_st) prog_stops) k_kn) prog_stopKnobs) k_inPlace) k_unf) k_rcs) k_nam) k_maps) k_ifs) k_mo) k_lo) k_wk) k_va) k_rt) k_io) k_lp) prog_plainKeys) k_sh) prog_stopsHeard) prog_mayEnter) prog_lifted) prog_make) k_ki) k_pi) k_ve) k_vf)

theorem said : Rows.HiprafterLinesSaid :=
  OpenClaim.holds_of_cond 3 Tryz.f3 rfl rfl rfl rfl rfl rfl rfl ⟨rfl, rfl, rfl, rfl, rfl⟩ rfl rfl rfl rfl rfl (by kernel_rfl) Tryz.func3 closed
    (of_decide_eq_true (by kernel_rfl)) (by unfold Func.isWrapper; first | (rw [if_pos (by decide +kernel)]; kernel_rfl) | (rw [if_neg (by decide +kernel)]; exact ⟨rfl, rfl⟩))
    (fun os started H enc _ F => by rw [OpenClaim.pre_eq_preRow]; exact lifted os started H enc F)

theorem plain (f : FuncId) (fn : Func) (hf : Tryz.pinned.checked.prog.funcNamed Rows.hiprafterLinesRow.func = some f) (hfn : Tryz.pinned.checked.prog.funcs[f]? = some fn) :
    true = Tryz.pinned.checked.prog.looks [] ∧ ∀ (j : Nat) t, fn.params[j]? = some t → Tryz.pinned.checked.prog.wantsStandIn t = false := by
  obtain rfl : f = 3 := Option.some.inj ((show Tryz.prog.funcNamed Rows.hiprafterLinesRow.func = some 3 by kernel_rfl).symm.trans hf) |>.symm
  obtain rfl : fn = Tryz.f3 := (Option.some.inj (Tryz.func3.symm.trans hfn)).symm
  refine ⟨by kernel_rfl, fun j t ht => ?_⟩
  rw [Tryz.params3] at ht
  have hm := Array.mem_of_getElem? ht
  simp only [List.mem_toArray, List.mem_cons, List.not_mem_nil, or_false] at hm
  rcases hm with rfl | rfl | rfl | rfl
  · exact (show Tryz.prog.wantsStandIn 22 = false by kernel_rfl)
  · exact (show Tryz.prog.wantsStandIn 23 = false by kernel_rfl)
  · exact (show Tryz.prog.wantsStandIn 3 = false by kernel_rfl)
  · exact (show Tryz.prog.wantsStandIn 3 = false by kernel_rfl)
end Go.Proofs.YtklgpilgalfckaaGreatDoor.hiprafterLines
namespace Go.Proofs.YtklgpilgalfckaaGreatDoor
theorem hiprafterLines.k_wft : Rows.hiprafterLinesRow.wfByText (OpenSpec.ofChange Rows.hiprafterLinesSpec) = true := by kernel_rfl
theorem hiprafterLines.k_main : Tryz.pinned.checked.prog.mainIs = some (Rows.hiprafterLinesCard.stood.harness.1, Rows.hiprafterLinesCard.stood.harness.2.toList) := by kernel_rfl
theorem hiprafterLines.k_goes : false = Rows.hiprafterLinesRow.goesBy Tryz.pinned.checked.prog := by kernel_rfl
/-- The card. -/
theorem hiprafterLines_card : Rows.HiprafterLinesCardSaid :=
  Claim7.holds_tied_plain_at .later [] _ _ _ _ hiprafterLines.said (fun _ h => by cases h) hiprafterLines.k_wft (fun _ h => by cases h) hiprafterLines_row_tie rfl ⟨rfl, rfl⟩ hiprafterLines.k_main rfl hiprafterLines.plain hiprafterLines.k_goes
end Go.Proofs.YtklgpilgalfckaaGreatDoor
