/-
  The law RootRounds: its row and its tied card. Conditions: those of the given row alone.
-/
import Derived.Test.YtpmnhipffkhcpaaGreatDoorCards
import Derived.Test.YtpmnhipffkhcpaaGreatDoorTie
import Derived.ChangeMaps5
import Derived.Test.YtpmnhipffkhcpaaGreatDoorP12
import Derived.Test.YtpmnhipffkhcpaaGreatDoorP10
import Derived.Test.YtpmnhipffkhcpaaGreatDoorP21
namespace Go.Proofs.YtpmnhipffkhcpaaGreatDoor.rootRounds
open Go.ChangeShapes Go.WideShapes Go.ChangeAt Go.RowKit Go.KP

set_option maxRecDepth 100000 in
theorem contract (H : Type) (enc : TypeId × Value → H) (W : World) (base : Nat) (args : Array Value) (ds gs : List (DataW H)) (before : List MemPlace)
    (hval : ∀ (j : Nat) t v, Tryz.f11.params[j]? = some t → args[j]? = some v → Value.okWide Tryz.prog W .any base t v)
    (hW : DataW.Whole enc Tryz.prog Tryz.f11.params.toList Rows.rootRoundsSpec.vars false W args.toList ds gs before) (hL : laidMetH Tryz.prog Rows.rootRoundsRow.laid W) (hsh : W.ShapedOpen Tryz.prog) :
    Calls Tryz.prog 11 args W fun e W' => ∃ v, e = .returned v ∧ Rows.rootRoundsSpec.post enc Tryz.prog Tryz.f11 false true false false W args v W' := by
  have hW' := hW
  obtain ⟨p, q, hA0, hV, rfl, hfz, hnd⟩ := hW
  have hA : DataW.TrodAll enc Tryz.prog W 0 (fun _ => true) true Tryz.f11.params.toList args.toList ds p := hA0
  rw [Tryz.params11] at hA hval
  obtain ⟨v0, vs0, d0, ds0, p0, q0, hargs, rfl, rfl, h0, r0⟩ := trodAll_cons hA
  obtain ⟨v1, vs1, d1, ds1, p1, q1, rfl, rfl, rfl, h1, r1⟩ := trodAll_cons r0
  obtain ⟨v2, vs2, d2, ds2, p2, q2, rfl, rfl, rfl, h2, r2⟩ := trodAll_cons r1
  obtain ⟨v3, vs3, d3, ds3, p3, q3, rfl, rfl, rfl, h3, r3⟩ := trodAll_cons r2
  obtain ⟨v4, vs4, d4, ds4, p4, q4, rfl, rfl, rfl, h4, r4⟩ := trodAll_cons r3
  obtain ⟨rfl, rfl, rfl⟩ := trodAll_nil r4
  obtain rfl : args = #[v0, v1, v2, v3, v4] := by cases args; simp_all
  obtain ⟨rfl, rfl⟩ := trodVars_none hV
  obtain ⟨s0, rfl, rfl, rfl, hs0⟩ := Go.ChangeMaps.open_string Tryz.underlying22 (hval 0 22 v0 rfl rfl) h0
  obtain ⟨s1, rfl, rfl, rfl, hs1⟩ := Go.ChangeMaps.open_string Tryz.underlying22 (hval 1 22 v1 rfl rfl) h1
  obtain ⟨s2, rfl, rfl, rfl, hs2⟩ := Go.ChangeMaps.open_string Tryz.underlying22 (hval 2 22 v2 rfl rfl) h2
  obtain ⟨s3, rfl, rfl, rfl, hs3⟩ := Go.ChangeMaps.open_string Tryz.underlying22 (hval 3 22 v3 rfl rfl) h3
  obtain ⟨k4, rfl, rfl, rfl, hk4⟩ := open_int Tryz.underlying3 (hval 4 3 v4 rfl rfl) h4
  have b4 := bounds_i64 hk4
  clear hA0
  simp only [List.append_nil] at hW'
  have walk : Calls Tryz.prog 11 #[.string s0, .string s1, .string s2, .string s3, .int .i64 k4] W (Ret W (.bool true)) := (lawRounds_any s0 s1 s2 s3 k4 (Nat.le_trans hs0 (by decide)) (Nat.le_trans hs1 (by decide)) (Nat.le_trans hs2 (by decide)) (Nat.le_trans hs3 (by decide)) _ W (Nat.le_refl _) (pr_of_laid hL hsh))
  refine walk.mono fun e W' ⟨he, hb⟩ => ?_
  subst he
  exact ⟨_, rfl, law_post laidOut (by kernel_rfl) rfl (by kernel_rfl) Tryz.underlying4 hW' rfl hb⟩

theorem reads (os : Os) {H : Type} (enc : TypeId × Value → H) : ∃ places, DataW.whole enc Tryz.prog ((numStart os).forCall (fun _ _ => 0) ⟨#[], #[.string ⟨#[]⟩, .string ⟨#[]⟩, .string ⟨#[]⟩, .string ⟨#[]⟩, .int .i64 0], []⟩).memory Tryz.f11.params.toList Rows.rootRoundsSpec.vars false (#[.string ⟨#[]⟩, .string ⟨#[]⟩, .string ⟨#[]⟩, .string ⟨#[]⟩, .int .i64 0] : Array Value).toList 8 = some ([.lit (.string []), .lit (.string []), .lit (.string []), .lit (.string []), .lit (.int .i64 0)], [], places) :=
  ⟨[], by kernel_rfl⟩

set_option maxRecDepth 100000 in
theorem lifted (os : Os) (started : os.Started) (H : Type) (enc : TypeId × Value → H) (F : Stop.Interp) :
    ReturnsInHanded {} Tryz.checked os 11 .any ((OpenSpec.ofChange Rows.rootRoundsSpec).preRow enc Tryz.prog Tryz.f11 Rows.rootRoundsRow.domain false Rows.rootRoundsRow.laid) (((OpenSpec.ofChange Rows.rootRoundsSpec).at F).post enc Tryz.prog Tryz.f11 false true false false) := by
  obtain ⟨places, hx⟩ := reads os enc
  refine returnsInHanded_of_row (C := Tryz.checked) (s := OpenSpec.ofChange Rows.rootRoundsSpec) own started (by kernel_rfl) Tryz.func11
    (witness_row_at (enc := enc) (C := Tryz.checked) false (numStart os) #[.string ⟨#[]⟩, .string ⟨#[]⟩, .string ⟨#[]⟩, .string ⟨#[]⟩, .int .i64 0] rfl (by kernel_rfl) (by kernel_rfl) (by kernel_rfl)
      (OpenSpec.preRow_of_cond 8 hx (by kernel_rfl) (fun k hk => by cases hk) (by kernel_rfl) (numStart_met os _))) ?_
  intro W base args ds gs before hval hW _ _ _ hL hsh _
  exact contract H enc W base args ds gs before hval hW hL hsh

theorem k_wf : Rows.rootRoundsRow.wf (OpenSpec.ofChange (OpenSpec.ofChange Rows.rootRoundsSpec).bare) = true := by kernel_rfl
theorem k_par : Tryz.f11.params.all (Tryz.pinned.checked.prog.readableRec ·) = true := by kernel_rfl
theorem k_tie : namedTie Tryz.pinned.checked.prog Rows.rootRoundsRow.named (OpenSpec.ofChange Rows.rootRoundsSpec).bare.vars = true := by kernel_rfl
theorem k_st : (Rows.rootRoundsRow.stops == []) = true := by kernel_rfl
theorem k_kn : (Rows.rootRoundsRow.knobs == []) = true := by kernel_rfl
theorem k_inPlace : (Rows.rootRoundsRow.inPlace == Tryz.pinned.checked.prog.inPlace 11) = true := by kernel_rfl
theorem k_unf : (Rows.rootRoundsRow.unfollowed == Tryz.pinned.checked.prog.unfollowed 11) = true := by kernel_rfl
theorem k_rcs : (Rows.rootRoundsRow.recurses == Tryz.pinned.checked.prog.recurses 11) = true := by kernel_rfl
theorem k_nam : (Rows.rootRoundsRow.named == Tryz.pinned.checked.prog.varsNamed 11) = true := by kernel_rfl
theorem k_maps : (Rows.rootRoundsRow.maps == (Tryz.f11.params.toList ++ (OpenSpec.ofChange Rows.rootRoundsSpec).bare.plain.varTypes Tryz.pinned.checked.prog).any (Tryz.pinned.checked.prog.mapsRec ·)) = true := by kernel_rfl
theorem k_ifs : (Rows.rootRoundsRow.ifaces == (Tryz.f11.params.toList ++ (OpenSpec.ofChange Rows.rootRoundsSpec).bare.plain.varTypes Tryz.pinned.checked.prog).any (Tryz.pinned.checked.prog.ifacesRec ·)) = true := by kernel_rfl
theorem k_mo : (Rows.rootRoundsRow.mapsOut == Tryz.pinned.checked.prog.mapsAmong Tryz.f11.resultTypes.toList) = true := by kernel_rfl
theorem k_lo : (Rows.rootRoundsRow.loops == (Tryz.f11.params.toList ++ (OpenSpec.ofChange Rows.rootRoundsSpec).bare.plain.varTypes Tryz.pinned.checked.prog).any (Tryz.pinned.checked.prog.loopsFrom ·)) = true := by kernel_rfl
theorem k_wk : (Rows.rootRoundsRow.wideKeys == (Tryz.f11.params.toList ++ (OpenSpec.ofChange Rows.rootRoundsSpec).bare.plain.varTypes Tryz.pinned.checked.prog ++ Tryz.f11.resultTypes.toList).any (Tryz.pinned.checked.prog.wideKeysFrom ·)) = true := by kernel_rfl
theorem k_va : (OpenSpec.ofChange Rows.rootRoundsSpec).bare.vars.all (Tryz.pinned.checked.prog.varReadable ·) = true := by kernel_rfl
theorem k_rt : Tryz.f11.resultTypes.all (fun t => Tryz.pinned.checked.prog.readableRec t && decide (t < Tryz.pinned.checked.prog.types.size)) = true := by kernel_rfl
theorem k_io : (Rows.rootRoundsRow.ifacesOut == Tryz.f11.resultTypes.toList.any (Tryz.pinned.checked.prog.ifacesRec ·)) = true := by kernel_rfl
theorem k_lp : (Rows.rootRoundsRow.loopsOut == Tryz.f11.resultTypes.toList.any (Tryz.pinned.checked.prog.loopsFrom ·)) = true := by kernel_rfl
theorem k_sh : Rows.rootRoundsRow.shortTexts.isNone = true := by kernel_rfl
theorem k_ki : (Rows.rootRoundsRow.kinds == (if Rows.rootRoundsRow.domain.isEmpty then [] else Tryz.f11.params.toList.map fun t => match Tryz.pinned.checked.prog.underlying t with | some (.int k) => some k | _ => none)) = true := by kernel_rfl
theorem k_pi : (Rows.rootRoundsRow.pinned == Rows.rootRoundsRow.pinnedBy) = true := by kernel_rfl
theorem k_ve : (Rows.rootRoundsRow.veiled == (Tryz.f11.params.toList ++ (OpenSpec.ofChange Rows.rootRoundsSpec).bare.plain.varTypes Tryz.pinned.checked.prog ++ Tryz.f11.resultTypes.toList).any (Tryz.pinned.checked.prog.veiledRec ·)) = true := by kernel_rfl
theorem k_vf : Rows.rootRoundsRow.veiledFits Tryz.pinned.checked.prog Tryz.f11.params.toList (Tryz.f11.params.toList ++ (OpenSpec.ofChange Rows.rootRoundsSpec).bare.plain.varTypes Tryz.pinned.checked.prog ++ Tryz.f11.resultTypes.toList) = true := by kernel_rfl
set_option maxRecDepth 100000 in
theorem closed : joinedFacts Tryz.pinned.checked.prog 11 Tryz.f11 (OpenSpec.ofChange Rows.rootRoundsSpec).bare Rows.rootRoundsRow = true := by
  unfold joinedFacts
  exact (and_t (and_t (and_t (and_t (and_t (and_t (and_t (and_t (and_t (and_t (and_t (and_t (and_t (and_t (and_t (and_t (and_t (and_t (and_t (and_t (and_t (and_t (and_t (and_t (and_t (and_t (and_t (and_t (and_t (and_t (and_t k_wf prog_laidOut) prog_mapsRowed) k_par) k_tie) k_st) prog_stops) k_kn) prog_stopKnobs) k_inPlace) k_unf) k_rcs) k_nam) k_maps) k_ifs) k_mo) k_lo) k_wk) k_va) k_rt) k_io) k_lp) prog_plainKeys) k_sh) prog_stopsHeard) prog_mayEnter) prog_lifted) prog_make) k_ki) k_pi) k_ve) k_vf)

theorem said : Rows.RootRoundsSaid :=
  OpenClaim.holds_of_cond 11 Tryz.f11 rfl rfl rfl rfl rfl rfl rfl ⟨rfl, rfl, rfl, rfl, rfl⟩ rfl rfl rfl rfl rfl (by kernel_rfl) Tryz.func11 closed
    (of_decide_eq_true (by kernel_rfl)) (by unfold Func.isWrapper; first | (rw [if_pos (by decide +kernel)]; kernel_rfl) | (rw [if_neg (by decide +kernel)]; exact ⟨rfl, rfl⟩))
    (fun os started H enc _ F => by rw [OpenClaim.pre_eq_preRow]; exact lifted os started H enc F)

theorem plain (f : FuncId) (fn : Func) (hf : Tryz.pinned.checked.prog.funcNamed Rows.rootRoundsRow.func = some f) (hfn : Tryz.pinned.checked.prog.funcs[f]? = some fn) :
    true = Tryz.pinned.checked.prog.looks [] ∧ ∀ (j : Nat) t, fn.params[j]? = some t → Tryz.pinned.checked.prog.wantsStandIn t = false := by
  obtain rfl : f = 11 := Option.some.inj ((show Tryz.prog.funcNamed Rows.rootRoundsRow.func = some 11 by kernel_rfl).symm.trans hf) |>.symm
  obtain rfl : fn = Tryz.f11 := (Option.some.inj (Tryz.func11.symm.trans hfn)).symm
  refine ⟨by kernel_rfl, fun j t ht => ?_⟩
  rw [Tryz.params11] at ht
  have hm := Array.mem_of_getElem? ht
  simp only [List.mem_toArray, List.mem_cons, List.not_mem_nil, or_false] at hm
  rcases hm with rfl | rfl | rfl | rfl | rfl
  · exact (show Tryz.prog.wantsStandIn 22 = false by kernel_rfl)
  · exact (show Tryz.prog.wantsStandIn 22 = false by kernel_rfl)
  · exact (show Tryz.prog.wantsStandIn 22 = false by kernel_rfl)
  · exact (show Tryz.prog.wantsStandIn 22 = false by kernel_rfl)
  · exact (show Tryz.prog.wantsStandIn 3 = false by kernel_rfl)
end Go.Proofs.YtpmnhipffkhcpaaGreatDoor.rootRounds
namespace Go.Proofs.YtpmnhipffkhcpaaGreatDoor
theorem rootRounds.k_wft : Rows.rootRoundsRow.wfByText (OpenSpec.ofChange Rows.rootRoundsSpec) = true := by kernel_rfl
theorem rootRounds.k_main : Tryz.pinned.checked.prog.mainIs = some (Rows.rootRoundsCard.stood.harness.1, Rows.rootRoundsCard.stood.harness.2.toList) := by kernel_rfl
theorem rootRounds.k_goes : false = Rows.rootRoundsRow.goesBy Tryz.pinned.checked.prog := by kernel_rfl
/-- The card. -/
theorem rootRounds_card : Rows.RootRoundsCardSaid :=
  Claim7.holds_tied_plain_at .later [] _ _ _ _ rootRounds.said (fun _ h => by cases h) rootRounds.k_wft (fun _ h => by cases h) rootRounds_row_tie rfl ⟨rfl, rfl⟩ rootRounds.k_main rfl rootRounds.plain rootRounds.k_goes
end Go.Proofs.YtpmnhipffkhcpaaGreatDoor
