/-
  The law TopJumps: its row and its tied card. Conditions: those of the given row alone.
-/
import Derived.Test.YtpmnhipffkhcpaaGreatDoorCards
import Derived.Test.YtpmnhipffkhcpaaGreatDoorTie
import Derived.ChangeMaps5
import Derived.Test.YtpmnhipffkhcpaaGreatDoorMB1
import Derived.Test.YtpmnhipffkhcpaaGreatDoorMB2
import Derived.Test.YtpmnhipffkhcpaaGreatDoorMB3
import Derived.Test.YtpmnhipffkhcpaaGreatDoorMB4
import Derived.Test.YtpmnhipffkhcpaaGreatDoorMB5
import Derived.Test.YtpmnhipffkhcpaaGreatDoorMB6
import Derived.Test.YtpmnhipffkhcpaaGreatDoorMB7
import Derived.Test.YtpmnhipffkhcpaaGreatDoorMB8
import Derived.Test.YtpmnhipffkhcpaaGreatDoorMB9
import Derived.Test.YtpmnhipffkhcpaaGreatDoorMB10
import Derived.Test.YtpmnhipffkhcpaaGreatDoorMB11
import Derived.Test.YtpmnhipffkhcpaaGreatDoorMB12
import Derived.Test.YtpmnhipffkhcpaaGreatDoorMB13
import Derived.Test.YtpmnhipffkhcpaaGreatDoorMB14
import Derived.Test.YtpmnhipffkhcpaaGreatDoorMB15
import Derived.Test.YtpmnhipffkhcpaaGreatDoorMB16
import Derived.Test.YtpmnhipffkhcpaaGreatDoorMB17
import Derived.Test.YtpmnhipffkhcpaaGreatDoorMB18
import Derived.Test.YtpmnhipffkhcpaaGreatDoorMD1
namespace Go.Proofs.YtpmnhipffkhcpaaGreatDoor.topJumps
open Go.ChangeShapes Go.WideShapes Go.ChangeAt Go.RowKit Go.KP

set_option maxRecDepth 100000 in
theorem contract (H : Type) (enc : TypeId × Value → H) (W : World) (base : Nat) (args : Array Value) (ds gs : List (DataW H)) (before : List MemPlace)
    (hval : ∀ (j : Nat) t v, Tryz.f7.params[j]? = some t → args[j]? = some v → Value.okWide Tryz.prog W .any base t v)
    (hW : DataW.Whole enc Tryz.prog Tryz.f7.params.toList Rows.topJumpsSpec.vars false W args.toList ds gs before) (hL : laidMetH Tryz.prog Rows.topJumpsRow.laid W) (hsh : W.ShapedOpen Tryz.prog) :
    Calls Tryz.prog 7 args W fun e W' => ∃ v, e = .returned v ∧ Rows.topJumpsSpec.post enc Tryz.prog Tryz.f7 false true false false W args v W' := by
  have hW' := hW
  obtain ⟨p, q, hA0, hV, rfl, hfz, hnd⟩ := hW
  have hA : DataW.TrodAll enc Tryz.prog W 0 (fun _ => true) true Tryz.f7.params.toList args.toList ds p := hA0
  rw [Tryz.params7] at hA hval
  obtain ⟨v0, vs0, d0, ds0, p0, q0, hargs, rfl, rfl, h0, r0⟩ := trodAll_cons hA
  obtain ⟨v1, vs1, d1, ds1, p1, q1, rfl, rfl, rfl, h1, r1⟩ := trodAll_cons r0
  obtain ⟨v2, vs2, d2, ds2, p2, q2, rfl, rfl, rfl, h2, r2⟩ := trodAll_cons r1
  obtain ⟨rfl, rfl, rfl⟩ := trodAll_nil r2
  obtain rfl : args = #[v0, v1, v2] := by cases args; simp_all
  obtain ⟨rfl, rfl⟩ := trodVars_none hV
  obtain ⟨L0, l0, r0b, F0, S0, fa0, fc0, sa0, sc0, rfl, hF0, hS0⟩ := beam_open (hval 0 26 v0 rfl rfl) h0
  obtain ⟨k1, rfl, rfl, rfl, hk1⟩ := open_int Tryz.underlying61 (hval 1 61 v1 rfl rfl) h1
  have b1 := bounds_i8' hk1
  obtain ⟨k2, rfl, rfl, rfl, hk2⟩ := open_int Tryz.underlying61 (hval 2 61 v2 rfl rfl) h2
  have b2 := bounds_i8' hk2
  clear hA0
  simp only [List.append_nil] at hW'
  have walk : Calls Tryz.prog 7 #[beamV L0 l0 r0b fa0 F0.length fc0 sa0 S0.length sc0, .int .i8 k1, .int .i8 k2] W (Ret W (.bool true)) := (topJumps_any L0 l0 r0b F0 S0 fa0 fc0 sa0 sc0 k1 k2 b1 b2 _ W (Nat.le_refl _) (pq_of_laid hL hsh) hF0 hS0)
  refine walk.mono fun e W' ⟨he, hb⟩ => ?_
  subst he
  exact ⟨_, rfl, law_post laidOut (by kernel_rfl) rfl (by kernel_rfl) Tryz.underlying4 hW' rfl hb⟩

theorem reads (os : Os) {H : Type} (enc : TypeId × Value → H) : ∃ places, DataW.whole enc Tryz.prog ((numStart os).forCall (fun _ _ => 0) ⟨#[], #[.agg #[.string ⟨#[]⟩, .string ⟨#[]⟩, .string ⟨#[]⟩, .slice none 0 0, .slice none 0 0], .int .i8 0, .int .i8 0], []⟩).memory Tryz.f7.params.toList Rows.topJumpsSpec.vars false (#[.agg #[.string ⟨#[]⟩, .string ⟨#[]⟩, .string ⟨#[]⟩, .slice none 0 0, .slice none 0 0], .int .i8 0, .int .i8 0] : Array Value).toList 8 = some ([.agg [.lit (.string []), .lit (.string []), .lit (.string []), .nil, .nil], .lit (.int .i8 0), .lit (.int .i8 0)], [], places) :=
  ⟨[], by kernel_rfl⟩

set_option maxRecDepth 100000 in
theorem lifted (os : Os) (started : os.Started) (H : Type) (enc : TypeId × Value → H) (F : Stop.Interp) :
    ReturnsInHanded {} Tryz.checked os 7 .any ((OpenSpec.ofChange Rows.topJumpsSpec).preRow enc Tryz.prog Tryz.f7 Rows.topJumpsRow.domain false Rows.topJumpsRow.laid) (((OpenSpec.ofChange Rows.topJumpsSpec).at F).post enc Tryz.prog Tryz.f7 false true false false) := by
  obtain ⟨places, hx⟩ := reads os enc
  refine returnsInHanded_of_row (C := Tryz.checked) (s := OpenSpec.ofChange Rows.topJumpsSpec) own started (by kernel_rfl) Tryz.func7
    (witness_row_at (enc := enc) (C := Tryz.checked) false (numStart os) #[.agg #[.string ⟨#[]⟩, .string ⟨#[]⟩, .string ⟨#[]⟩, .slice none 0 0, .slice none 0 0], .int .i8 0, .int .i8 0] rfl (by kernel_rfl) (by kernel_rfl) (by kernel_rfl)
      (OpenSpec.preRow_of_cond 8 hx (by kernel_rfl) (fun k hk => by cases hk) (by kernel_rfl) (numStart_met os _))) ?_
  intro W base args ds gs before hval hW _ _ _ hL hsh _
  exact contract H enc W base args ds gs before hval hW hL hsh

theorem k_wf : Rows.topJumpsRow.wf (OpenSpec.ofChange (OpenSpec.ofChange Rows.topJumpsSpec).bare) = true := by kernel_rfl
theorem k_par : Tryz.f7.params.all (Tryz.pinned.checked.prog.readableRec ·) = true := by kernel_rfl
theorem k_tie : namedTie Tryz.pinned.checked.prog Rows.topJumpsRow.named (OpenSpec.ofChange Rows.topJumpsSpec).bare.vars = true := by kernel_rfl
theorem k_st : (Rows.topJumpsRow.stops == []) = true := by kernel_rfl
theorem k_kn : (Rows.topJumpsRow.knobs == []) = true := by kernel_rfl
theorem k_inPlace : (Rows.topJumpsRow.inPlace == Tryz.pinned.checked.prog.inPlace 7) = true := by kernel_rfl
theorem k_unf : (Rows.topJumpsRow.unfollowed == Tryz.pinned.checked.prog.unfollowed 7) = true := by kernel_rfl
theorem k_rcs : (Rows.topJumpsRow.recurses == Tryz.pinned.checked.prog.recurses 7) = true := by kernel_rfl
theorem k_nam : (Rows.topJumpsRow.named == Tryz.pinned.checked.prog.varsNamed 7) = true := by kernel_rfl
theorem k_maps : (Rows.topJumpsRow.maps == (Tryz.f7.params.toList ++ (OpenSpec.ofChange Rows.topJumpsSpec).bare.plain.varTypes Tryz.pinned.checked.prog).any (Tryz.pinned.checked.prog.mapsRec ·)) = true := by kernel_rfl
theorem k_ifs : (Rows.topJumpsRow.ifaces == (Tryz.f7.params.toList ++ (OpenSpec.ofChange Rows.topJumpsSpec).bare.plain.varTypes Tryz.pinned.checked.prog).any (Tryz.pinned.checked.prog.ifacesRec ·)) = true := by kernel_rfl
theorem k_mo : (Rows.topJumpsRow.mapsOut == Tryz.pinned.checked.prog.mapsAmong Tryz.f7.resultTypes.toList) = true := by kernel_rfl
theorem k_lo : (Rows.topJumpsRow.loops == (Tryz.f7.params.toList ++ (OpenSpec.ofChange Rows.topJumpsSpec).bare.plain.varTypes Tryz.pinned.checked.prog).any (Tryz.pinned.checked.prog.loopsFrom ·)) = true := by kernel_rfl
theorem k_wk : (Rows.topJumpsRow.wideKeys == (Tryz.f7.params.toList ++ (OpenSpec.ofChange Rows.topJumpsSpec).bare.plain.varTypes Tryz.pinned.checked.prog ++ Tryz.f7.resultTypes.toList).any (Tryz.pinned.checked.prog.wideKeysFrom ·)) = true := by kernel_rfl
theorem k_va : (OpenSpec.ofChange Rows.topJumpsSpec).bare.vars.all (Tryz.pinned.checked.prog.varReadable ·) = true := by kernel_rfl
theorem k_rt : Tryz.f7.resultTypes.all (fun t => Tryz.pinned.checked.prog.readableRec t && decide (t < Tryz.pinned.checked.prog.types.size)) = true := by kernel_rfl
theorem k_io : (Rows.topJumpsRow.ifacesOut == Tryz.f7.resultTypes.toList.any (Tryz.pinned.checked.prog.ifacesRec ·)) = true := by kernel_rfl
theorem k_lp : (Rows.topJumpsRow.loopsOut == Tryz.f7.resultTypes.toList.any (Tryz.pinned.checked.prog.loopsFrom ·)) = true := by kernel_rfl
theorem k_sh : Rows.topJumpsRow.shortTexts.isNone = true := by kernel_rfl
theorem k_ki : (Rows.topJumpsRow.kinds == (if Rows.topJumpsRow.domain.isEmpty then [] else Tryz.f7.params.toList.map fun t => match Tryz.pinned.checked.prog.underlying t with | some (.int k) => some k | _ => none)) = true := by kernel_rfl
theorem k_pi : (Rows.topJumpsRow.pinned == Rows.topJumpsRow.pinnedBy) = true := by kernel_rfl
theorem k_ve : (Rows.topJumpsRow.veiled == (Tryz.f7.params.toList ++ (OpenSpec.ofChange Rows.topJumpsSpec).bare.plain.varTypes Tryz.pinned.checked.prog ++ Tryz.f7.resultTypes.toList).any (Tryz.pinned.checked.prog.veiledRec ·)) = true := by kernel_rfl
theorem k_vf : Rows.topJumpsRow.veiledFits Tryz.pinned.checked.prog Tryz.f7.params.toList (Tryz.f7.params.toList ++ (OpenSpec.ofChange Rows.topJumpsSpec).bare.plain.varTypes Tryz.pinned.checked.prog ++ Tryz.f7.resultTypes.toList) = true := by kernel_rfl
set_option maxRecDepth 100000 in
theorem closed : joinedFacts Tryz.pinned.checked.prog 7 Tryz.f7 (OpenSpec.ofChange Rows.topJumpsSpec).bare Rows.topJumpsRow = true := by
  unfold joinedFacts
  exact (and_t (and_t (and_t (and_t (and_t (and_t (and_t (and_t (and_t (and_t (and_t (and_t (and_t (and_t (and_t (and_t (and_t (and_t (and_t (and_t (and_t (and_t (and_t (and_t (and_t (and_t (and_t (and_t (and_t (and_t (and_t k_wf prog_laidOut) prog_mapsRowed) k_par) k_tie) k_st) prog_stops) k_kn) prog_stopKnobs) k_inPlace) k_unf) k_rcs) k_nam) k_maps) k_ifs) k_mo) k_lo) k_wk) k_va) k_rt) k_io) k_lp) prog_plainKeys) k_sh) prog_stopsHeard) prog_mayEnter) prog_lifted) prog_make) k_ki) k_pi) k_ve) k_vf)

theorem said : Rows.TopJumpsSaid :=
  OpenClaim.holds_of_cond 7 Tryz.f7 rfl rfl rfl rfl rfl rfl rfl ⟨rfl, rfl, rfl, rfl, rfl⟩ rfl rfl rfl rfl rfl (by kernel_rfl) Tryz.func7 closed
    (of_decide_eq_true (by kernel_rfl)) (by unfold Func.isWrapper; first | (rw [if_pos (by decide +kernel)]; kernel_rfl) | (rw [if_neg (by decide +kernel)]; exact ⟨rfl, rfl⟩))
    (fun os started H enc _ F => by rw [OpenClaim.pre_eq_preRow]; exact lifted os started H enc F)

theorem plain (f : FuncId) (fn : Func) (hf : Tryz.pinned.checked.prog.funcNamed Rows.topJumpsRow.func = some f) (hfn : Tryz.pinned.checked.prog.funcs[f]? = some fn) :
    true = Tryz.pinned.checked.prog.looks [] ∧ ∀ (j : Nat) t, fn.params[j]? = some t → Tryz.pinned.checked.prog.wantsStandIn t = false := by
  obtain rfl : f = 7 := Option.some.inj ((show Tryz.prog.funcNamed Rows.topJumpsRow.func = some 7 by kernel_rfl).symm.trans hf) |>.symm
  obtain rfl : fn = Tryz.f7 := (Option.some.inj (Tryz.func7.symm.trans hfn)).symm
  refine ⟨by kernel_rfl, fun j t ht => ?_⟩
  rw [Tryz.params7] at ht
  have hm := Array.mem_of_getElem? ht
  simp only [List.mem_toArray, List.mem_cons, List.not_mem_nil, or_false] at hm
  rcases hm with rfl | rfl | rfl
  · exact (show Tryz.prog.wantsStandIn 26 = false by kernel_rfl)
  · exact (show Tryz.prog.wantsStandIn 61 = false by kernel_rfl)
  · exact (show Tryz.prog.wantsStandIn 61 = false by kernel_rfl)
end Go.Proofs.YtpmnhipffkhcpaaGreatDoor.topJumps
namespace Go.Proofs.YtpmnhipffkhcpaaGreatDoor
theorem topJumps.k_wft : Rows.topJumpsRow.wfByText (OpenSpec.ofChange Rows.topJumpsSpec) = true := by kernel_rfl
theorem topJumps.k_main : Tryz.pinned.checked.prog.mainIs = some (Rows.topJumpsCard.stood.harness.1, Rows.topJumpsCard.stood.harness.2.toList) := by kernel_rfl
theorem topJumps.k_goes : false = Rows.topJumpsRow.goesBy Tryz.pinned.checked.prog := by kernel_rfl
/-- The card. -/
theorem topJumps_card : Rows.TopJumpsCardSaid :=
  Claim7.holds_tied_plain_at .later [] _ _ _ _ topJumps.said (fun _ h => by cases h) topJumps.k_wft (fun _ h => by cases h) topJumps_row_tie rfl ⟨rfl, rfl⟩ topJumps.k_main rfl topJumps.plain topJumps.k_goes
end Go.Proofs.YtpmnhipffkhcpaaGreatDoor
