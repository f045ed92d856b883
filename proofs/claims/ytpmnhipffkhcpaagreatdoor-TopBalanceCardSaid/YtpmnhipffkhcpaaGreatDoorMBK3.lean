/-
  The law TopBalance: its row and its tied card. Conditions: those of the given row alone.
-/
import Derived.Test.YtpmnhipffkhcpaaGreatDoorCards
import Derived.Test.YtpmnhipffkhcpaaGreatDoorTie
import Derived.ChangeMaps5
import Derived.Test.YtpmnhipffkhcpaaGreatDoorMB7
import Derived.Test.YtpmnhipffkhcpaaGreatDoorMB6
import Derived.Test.YtpmnhipffkhcpaaGreatDoorMB18
namespace Go.Proofs.YtpmnhipffkhcpaaGreatDoor.topBalance
open Go.ChangeShapes Go.WideShapes Go.ChangeAt Go.RowKit Go.KP

set_option maxRecDepth 100000 in
theorem contract (H : Type) (enc : TypeId × Value → H) (W : World) (base : Nat) (args : Array Value) (ds gs : List (DataW H)) (before : List MemPlace)
    (hval : ∀ (j : Nat) t v, Tryz.f3.params[j]? = some t → args[j]? = some v → Value.okWide Tryz.prog W .any base t v)
    (hW : DataW.Whole enc Tryz.prog Tryz.f3.params.toList Rows.topBalanceSpec.vars false W args.toList ds gs before) (hL : laidMetH Tryz.prog Rows.topBalanceRow.laid W) (hsh : W.ShapedOpen Tryz.prog) :
    Calls Tryz.prog 3 args W fun e W' => ∃ v, e = .returned v ∧ Rows.topBalanceSpec.post enc Tryz.prog Tryz.f3 false true false false W args v W' := by
  have hW' := hW
  obtain ⟨p, q, hA0, hV, rfl, hfz, hnd⟩ := hW
  have hA : DataW.TrodAll enc Tryz.prog W 0 (fun _ => true) true Tryz.f3.params.toList args.toList ds p := hA0
  rw [Tryz.params3] at hA hval
  obtain ⟨v0, vs0, d0, ds0, p0, q0, hargs, rfl, rfl, h0, r0⟩ := trodAll_cons hA
  obtain ⟨v1, vs1, d1, ds1, p1, q1, rfl, rfl, rfl, h1, r1⟩ := trodAll_cons r0
  obtain ⟨rfl, rfl, rfl⟩ := trodAll_nil r1
  obtain rfl : args = #[v0, v1] := by cases args; simp_all
  obtain ⟨rfl, rfl⟩ := trodVars_none hV
  obtain ⟨L0, l0, r0b, F0, S0, fa0, fc0, sa0, sc0, rfl, hF0, hS0⟩ := beam_open (hval 0 26 v0 rfl rfl) h0
  obtain ⟨k1, rfl, rfl, rfl, hk1⟩ := open_int Tryz.underlying5 (hval 1 5 v1 rfl rfl) h1
  have b1 := bounds_u8 hk1
  clear hA0
  simp only [List.append_nil] at hW'
  have walk : Calls Tryz.prog 3 #[beamV L0 l0 r0b fa0 F0.length fc0 sa0 S0.length sc0, .int .u8 k1] W (Ret W (.bool true)) := (by
    obtain ⟨m1, rfl⟩ : ∃ m : Nat, k1 = (m : Int) := ⟨k1.toNat, by omega⟩
    exact topBalance_any L0 l0 r0b F0 S0 fa0 fc0 sa0 sc0 m1 (by omega) _ W (Nat.le_refl _) (pq_of_laid hL hsh) hF0 hS0)
  refine walk.mono fun e W' ⟨he, hb⟩ => ?_
  subst he
  exact ⟨_, rfl, law_post laidOut (by kernel_rfl) rfl (by kernel_rfl) Tryz.underlying4 hW' rfl hb⟩

theorem reads (os : Os) {H : Type} (enc : TypeId × Value → H) : ∃ places, DataW.whole enc Tryz.prog ((numStart os).forCall (fun _ _ => 0) ⟨#[], #[.agg #[.string ⟨#[]⟩, .string ⟨#[]⟩, .string ⟨#[]⟩, .slice none 0 0, .slice none 0 0], .int .u8 0], []⟩).memory Tryz.f3.params.toList Rows.topBalanceSpec.vars false (#[.agg #[.string ⟨#[]⟩, .string ⟨#[]⟩, .string ⟨#[]⟩, .slice none 0 0, .slice none 0 0], .int .u8 0] : Array Value).toList 8 = some ([.agg [.lit (.string []), .lit (.string []), .lit (.string []), .nil, .nil], .lit (.int .u8 0)], [], places) :=
  ⟨[], by kernel_rfl⟩

set_option maxRecDepth 100000 in
theorem lifted (os : Os) (started : os.Started) (H : Type) (enc : TypeId × Value → H) (F : Stop.Interp) :
    ReturnsInHanded {} Tryz.checked os 3 .any ((OpenSpec.ofChange Rows.topBalanceSpec).preRow enc Tryz.prog Tryz.f3 Rows.topBalanceRow.domain false Rows.topBalanceRow.laid) (((OpenSpec.ofChange Rows.topBalanceSpec).at F).post enc Tryz.prog Tryz.f3 false true false false) := by
  obtain ⟨places, hx⟩ := reads os enc
  refine returnsInHanded_of_row (C := Tryz.checked) (s := OpenSpec.ofChange Rows.topBalanceSpec) own started (by kernel_rfl) Tryz.func3
    (witness_row_at (enc := enc) (C := Tryz.checked) false (numStart os) #[.agg #[.string ⟨#[]⟩, .string ⟨#[]⟩, .string ⟨#[]⟩, .slice none 0 0, .slice none 0 0], .int .u8 0] rfl (by kernel_rfl) (by kernel_rfl) (by kernel_rfl)
      (OpenSpec.preRow_of_cond 8 hx (by kernel_rfl) (fun k hk => by cases hk) (by kernel_rfl) (numStart_met os _))) ?_
  intro W base args ds gs before hval hW _ _ _ hL hsh _
  exact contract H enc W base args ds gs before hval hW hL hsh

theorem k_wf : Rows.topBalanceRow.wf (OpenSpec.ofChange (OpenSpec.ofChange Rows.topBalanceSpec).bare) = true := by kernel_rfl
theorem k_par : Tryz.f3.params.all (Tryz.pinned.checked.prog.readableRec ·) = true := by kernel_rfl
theorem k_tie : namedTie Tryz.pinned.checked.prog Rows.topBalanceRow.named (OpenSpec.ofChange Rows.topBalanceSpec).bare.vars = true := by kernel_rfl
theorem k_st : (Rows.topBalanceRow.stops == []) = true := by kernel_rfl
theorem k_kn : (Rows.topBalanceRow.knobs == []) = true := by kernel_rfl
theorem k_inPlace : (Rows.topBalanceRow.inPlace == Tryz.pinned.checked.prog.inPlace 3) = true := by kernel_rfl
theorem k_unf : (Rows.topBalanceRow.unfollowed == Tryz.pinned.checked.prog.unfollowed 3) = true := by kernel_rfl
theorem k_rcs : (Rows.topBalanceRow.recurses == Tryz.pinned.checked.prog.recurses 3) = true := by kernel_rfl
theorem k_nam : (Rows.topBalanceRow.named == Tryz.pinned.checked.prog.varsNamed 3) = true := by kernel_rfl
theorem k_maps : (Rows.topBalanceRow.maps == (Tryz.f3.params.toList ++ (OpenSpec.ofChange Rows.topBalanceSpec).bare.plain.varTypes Tryz.pinned.checked.prog).any (Tryz.pinned.checked.prog.mapsRec ·)) = true := by kernel_rfl
theorem k_ifs : (Rows.topBalanceRow.ifaces == (Tryz.f3.params.toList ++ (OpenSpec.ofChange Rows.topBalanceSpec).bare.plain.varTypes Tryz.pinned.checked.prog).any (Tryz.pinned.checked.prog.ifacesRec ·)) = true := by kernel_rfl
theorem k_mo : (Rows.topBalanceRow.mapsOut == Tryz.pinned.checked.prog.mapsAmong Tryz.f3.resultTypes.toList) = true := by kernel_rfl
theorem k_lo : (Rows.topBalanceRow.loops == (Tryz.f3.params.toList ++ (OpenSpec.ofChange Rows.topBalanceSpec).bare.plain.varTypes Tryz.pinned.checked.prog).any (Tryz.pinned.checked.prog.loopsFrom ·)) = true := by kernel_rfl
theorem k_wk : (Rows.topBalanceRow.wideKeys == (Tryz.f3.params.toList ++ (OpenSpec.ofChange Rows.topBalanceSpec).bare.plain.varTypes Tryz.pinned.checked.prog ++ Tryz.f3.resultTypes.toList).any (Tryz.pinned.checked.prog.wideKeysFrom ·)) = true := by kernel_rfl
theorem k_va : (OpenSpec.ofChange Rows.topBalanceSpec).bare.vars.all (Tryz.pinned.checked.prog.varReadable ·) = true := by kernel_rfl
theorem k_rt : Tryz.f3.resultTypes.all (fun t => Tryz.pinned.checked.prog.readableRec t && decide (t < Tryz.pinned.checked.prog.types.size)) = true := by kernel_rfl
theorem k_io : (Rows.topBalanceRow.ifacesOut == Tryz.f3.resultTypes.toList.any (Tryz.pinned.checked.prog.ifacesRec ·)) = true := by kernel_rfl
theorem k_lp : (Rows.topBalanceRow.loopsOut == Tryz.f3.resultTypes.toList.any (Tryz.pinned.checked.prog.loopsFrom ·)) = true := by kernel_rfl
theorem k_sh : Rows.topBalanceRow.shortTexts.isNone = true := by kernel_rfl
theorem k_ki : (Rows.topBalanceRow.kinds == (if Rows.topBalanceRow.domain.isEmpty then [] else Tryz.f3.params.toList.map fun t => match Tryz.pinned.checked.prog.underlying t with | some (.int k) => some k | _ => none)) = true := by kernel_rfl
theorem k_pi : (Rows.topBalanceRow.pinned == Rows.topBalanceRow.pinnedBy) = true := by kernel_rfl
theorem k_ve : (Rows.topBalanceRow.veiled == (Tryz.f3.params.toList ++ (OpenSpec.ofChange Rows.topBalanceSpec).bare.plain.varTypes Tryz.pinned.checked.prog ++ Tryz.f3.resultTypes.toList).any (Tryz.pinned.checked.prog.veiledRec ·)) = true := by kernel_rfl
theorem k_vf : Rows.topBalanceRow.veiledFits Tryz.pinned.checked.prog Tryz.f3.params.toList (Tryz.f3.params.toList ++ (OpenSpec.ofChange Rows.topBalanceSpec).bare.plain.varTypes Tryz.pinned.checked.prog ++ Tryz.f3.resultTypes.toList) = true := by kernel_rfl
set_option maxRecDepth 100000 in
theorem closed : joinedFacts Tryz.pinned.checked.prog 3 Tryz.f3 (OpenSpec.ofChange Rows.topBalanceSpec).bare Rows.topBalanceRow = true := by
  unfold joinedFacts
  exact (and_t (and_t (and_t (and_t (and_t (and_t (and_t (and_t (and_t (and_t (and_t (and_t (and_t (and_t (and_t (and_t (and_t (and_t (and_t (and_t (and_t (and_t (and_t (and_t (and_t (and_t (and_t (and_t (and_t (and_t (and_t k_wf prog_laidOut) prog_mapsRowed) k_par) k_tie) k_st) prog_stops) k_kn) prog_stopKnobs) k_inPlace) k_unf) k_rcs) k_nam) k_maps) k_ifs) k_mo) k_lo) k_wk) k_va) k_rt) k_io) k_lp) prog_plainKeys) k_sh) prog_stopsHeard) prog_mayEnter) prog_lifted) prog_make) k_ki) k_pi) k_ve) k_vf)

theorem said : Rows.TopBalanceSaid :=
  OpenClaim.holds_of_cond 3 Tryz.f3 rfl rfl rfl rfl rfl rfl rfl ⟨rfl, rfl, rfl, rfl, rfl⟩ rfl rfl rfl rfl rfl (by kernel_rfl) Tryz.func3 closed
    (of_decide_eq_true (by kernel_rfl)) (by unfold Func.isWrapper; first | (rw [if_pos (by decide +kernel)]; kernel_rfl) | (rw [if_neg (by decide +kernel)]; exact ⟨rfl, rfl⟩))
    (fun os started H enc _ F => by rw [OpenClaim.pre_eq_preRow]; exact lifted os started H enc F)

theorem plain (f : FuncId) (fn : Func) (hf : Tryz.pinned.checked.prog.funcNamed Rows.topBalanceRow.func = some f) (hfn : Tryz.pinned.checked.prog.funcs[f]? = some fn) :
    true = Tryz.pinned.checked.prog.looks [] ∧ ∀ (j : Nat) t, fn.params[j]? = some t → Tryz.pinned.checked.prog.wantsStandIn t = false := by
  obtain rfl : f = 3 := Option.some.inj ((show Tryz.prog.funcNamed Rows.topBalanceRow.func = some 3 by kernel_rfl).symm.trans hf) |>.symm
  obtain rfl : fn = Tryz.f3 := (Option.some.inj (Tryz.func3.symm.trans hfn)).symm
  refine ⟨by kernel_rfl, fun j t ht => ?_⟩
  rw [Tryz.params3] at ht
  have hm := Array.mem_of_getElem? ht
  simp only [List.mem_toArray, List.mem_cons, List.not_mem_nil, or_false] at hm
  rcases hm with rfl | rfl
  · exact (show Tryz.prog.wantsStandIn 26 = false by kernel_rfl)
  · exact (show Tryz.prog.wantsStandIn 5 = false by kernel_rfl)
end Go.Proofs.YtpmnhipffkhcpaaGreatDoor.topBalance
namespace Go.Proofs.YtpmnhipffkhcpaaGreatDoor
theorem topBalance.k_wft : Rows.topBalanceRow.wfByText (OpenSpec.ofChange Rows.topBalanceSpec) = true := by kernel_rfl
theorem topBalance.k_main : Tryz.pinned.checked.prog.mainIs = some (Rows.topBalanceCard.stood.harness.1, Rows.topBalanceCard.stood.harness.2.toList) := by kernel_rfl
theorem topBalance.k_goes : false = Rows.topBalanceRow.goesBy Tryz.pinned.checked.prog := by kernel_rfl
/-- The card. -/
theorem topBalance_card : Rows.TopBalanceCardSaid :=
  Claim7.holds_tied_plain_at .later [] _ _ _ _ topBalance.said (fun _ h => by cases h) topBalance.k_wft (fun _ h => by cases h) topBalance_row_tie rfl ⟨rfl, rfl⟩ topBalance.k_main rfl topBalance.plain topBalance.k_goes
end Go.Proofs.YtpmnhipffkhcpaaGreatDoor
