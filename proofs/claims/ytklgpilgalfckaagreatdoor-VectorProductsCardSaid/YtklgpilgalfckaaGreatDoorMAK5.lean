/-
 The law VectorProducts: its row and its tied card. Conditions: those of the given row alone.
-/
import Derived.Test.YtklgpilgalfckaaGreatDoorCards
import Derived.Test.YtklgpilgalfckaaGreatDoorTie
import Derived.ChangeMaps5
import Derived.Test.YtklgpilgalfckaaGreatDoorMA12
import Derived.Test.YtklgpilgalfckaaGreatDoorMA10
import Derived.Test.YtklgpilgalfckaaGreatDoorMA23
namespace Go.Proofs.YtklgpilgalfckaaGreatDoor.vectorProducts
open Go.ChangeShapes Go.WideShapes Go.ChangeAt Go.RowKit Go.KP

set_option maxRecDepth 100000 in
theorem contract (H : Type) (enc : TypeId × Value → H) (W : World) (base : Nat) (args : Array Value) (ds gs : List (DataW H)) (before : List MemPlace)
 (hval : ∀ (j : Nat) t v, Tryz.f5.params[j]? = some t → args[j]? = some v → Value.okWide Tryz.prog W .any base t v)
 (hW : DataW.Whole enc Tryz.prog Tryz.f5.params.toList Rows.vectorProductsSpec.vars false W args.toList ds gs before) (hL : laidMetH Tryz.prog Rows.vectorProductsRow.laid W) (hsh : W.ShapedOpen Tryz.prog) :
 Calls Tryz.prog 5 args W fun e W' => ∃ v, e = .returned v ∧ Rows.vectorProductsSpec.post enc Tryz.prog Tryz.f5 false true false false W args v W' := by
 have hW' := hW
 obtain ⟨p, q, hA0, hV, rfl, hfz, hnd⟩ := hW
 have hA : DataW.TrodAll enc Tryz.prog W 0 (fun _ => true) true Tryz.f5.params.toList args.toList ds p := hA0
 rw [Tryz.params5] at hA hval
 obtain ⟨v0, vs0, d0, ds0, p0, q0, hargs, rfl, rfl, h0, r0⟩ := trodAll_cons hA
 obtain ⟨v1, vs1, d1, ds1, p1, q1, rfl, rfl, rfl, h1, r1⟩ := trodAll_cons r0
 obtain ⟨rfl, rfl, rfl⟩ := trodAll_nil r1
 obtain rfl : args = #[v0, v1] := by cases args; simp_all
 obtain ⟨rfl, rfl⟩ := trodVars_none hV
 obtain ⟨a0, rfl⟩ := yb2 (hval 0 28 v0 rfl rfl)
 obtain ⟨a1, rfl⟩ := yb2 (hval 1 28 v1 rfl rfl)
 clear hA0
 simp only [List.append_nil] at hW'
 have walk : Calls Tryz.prog 5 #[.agg #[.string a0.x, .string a0.y, .string a0.z], .agg #[.string a1.x, .string a1.y, .string a1.z]] W (Ret W (.bool true)) := (xD a0 a1 _ W (Nat.le_refl _) (yeT hL hsh))
 refine walk.mono fun e W' ⟨he, hb⟩ => ?_
 subst he
 exact ⟨_, rfl, yg8 laidOut (by kernel_rfl) rfl (by kernel_rfl) Tryz.underlying4 hW' rfl hb⟩

theorem reads (os : Os) {H : Type} (enc : TypeId × Value → H) : ∃ places, DataW.whole enc Tryz.prog ((numStart os).forCall (fun _ _ => 0) ⟨#[], #[.agg #[.string ⟨#[]⟩, .string ⟨#[]⟩, .string ⟨#[]⟩], .agg #[.string ⟨#[]⟩, .string ⟨#[]⟩, .string ⟨#[]⟩]], []⟩).memory Tryz.f5.params.toList Rows.vectorProductsSpec.vars false (#[.agg #[.string ⟨#[]⟩, .string ⟨#[]⟩, .string ⟨#[]⟩], .agg #[.string ⟨#[]⟩, .string ⟨#[]⟩, .string ⟨#[]⟩]] : Array Value).toList 8 = some ([.agg [.lit (.string []), .lit (.string []), .lit (.string [])], .agg [.lit (.string []), .lit (.string []), .lit (.string [])]], [], places) :=
 ⟨[], by kernel_rfl⟩

set_option maxRecDepth 100000 in
theorem lifted (os : Os) (started : os.Started) (H : Type) (enc : TypeId × Value → H) (F : Stop.Interp) :
 ReturnsInHanded {} Tryz.checked os 5 .any ((OpenSpec.ofChange Rows.vectorProductsSpec).preRow enc Tryz.prog Tryz.f5 Rows.vectorProductsRow.domain false Rows.vectorProductsRow.laid) (((OpenSpec.ofChange Rows.vectorProductsSpec).at F).post enc Tryz.prog Tryz.f5 false true false false) := by
 obtain ⟨places, hx⟩ := reads os enc
 refine returnsInHanded_of_row (C := Tryz.checked) (s := OpenSpec.ofChange Rows.vectorProductsSpec) own started (by kernel_rfl) Tryz.func5
  (witness_row_at (enc := enc) (C := Tryz.checked) false (numStart os) #[.agg #[.string ⟨#[]⟩, .string ⟨#[]⟩, .string ⟨#[]⟩], .agg #[.string ⟨#[]⟩, .string ⟨#[]⟩, .string ⟨#[]⟩]] rfl (by kernel_rfl) (by kernel_rfl) (by kernel_rfl)
    (OpenSpec.preRow_of_cond 8 hx (by kernel_rfl) (fun k hk => by cases hk) (by kernel_rfl) (ycw os _))) ?_
 intro W base args ds gs before hval hW _ _ _ hL hsh _
 exact contract H enc W base args ds gs before hval hW hL hsh

theorem k_wf : Rows.vectorProductsRow.wf (OpenSpec.ofChange (OpenSpec.ofChange Rows.vectorProductsSpec).bare) = true := by kernel_rfl
theorem k_par : Tryz.f5.params.all (Tryz.pinned.checked.prog.readableRec ·) = true := by kernel_rfl
theorem k_tie : namedTie Tryz.pinned.checked.prog Rows.vectorProductsRow.named (OpenSpec.ofChange Rows.vectorProductsSpec).bare.vars = true := by kernel_rfl
theorem k_st : (Rows.vectorProductsRow.stops == []) = true := by kernel_rfl
theorem k_kn : (Rows.vectorProductsRow.knobs == []) = true := by kernel_rfl
theorem k_inPlace : (Rows.vectorProductsRow.inPlace == Tryz.pinned.checked.prog.inPlace 5) = true := by kernel_rfl
theorem k_unf : (Rows.vectorProductsRow.unfollowed == Tryz.pinned.checked.prog.unfollowed 5) = true := by kernel_rfl
theorem k_rcs : (Rows.vectorProductsRow.recurses == Tryz.pinned.checked.prog.recurses 5) = true := by kernel_rfl
theorem k_nam : (Rows.vectorProductsRow.named == Tryz.pinned.checked.prog.varsNamed 5) = true := by kernel_rfl
theorem k_maps : (Rows.vectorProductsRow.maps == (Tryz.f5.params.toList ++ (OpenSpec.ofChange Rows.vectorProductsSpec).bare.plain.varTypes Tryz.pinned.checked.prog).any (Tryz.pinned.checked.prog.mapsRec ·)) = true := by kernel_rfl
theorem k_ifs : (Rows.vectorProductsRow.ifaces == (Tryz.f5.params.toList ++ (OpenSpec.ofChange Rows.vectorProductsSpec).bare.plain.varTypes Tryz.pinned.checked.prog).any (Tryz.pinned.checked.prog.ifacesRec ·)) = true := by kernel_rfl
theorem k_mo : (Rows.vectorProductsRow.mapsOut == Tryz.pinned.checked.prog.mapsAmong Tryz.f5.resultTypes.toList) = true := by kernel_rfl
theorem k_lo : (Rows.vectorProductsRow.loops == (Tryz.f5.params.toList ++ (OpenSpec.ofChange Rows.vectorProductsSpec).bare.plain.varTypes Tryz.pinned.checked.prog).any (Tryz.pinned.checked.prog.loopsFrom ·)) = true := by kernel_rfl
theorem k_wk : (Rows.vectorProductsRow.wideKeys == (Tryz.f5.params.toList ++ (OpenSpec.ofChange Rows.vectorProductsSpec).bare.plain.varTypes Tryz.pinned.checked.prog ++ Tryz.f5.resultTypes.toList).any (Tryz.pinned.checked.prog.wideKeysFrom ·)) = true := by kernel_rfl
theorem k_va : (OpenSpec.ofChange Rows.vectorProductsSpec).bare.vars.all (Tryz.pinned.checked.prog.varReadable ·) = true := by kernel_rfl
theorem k_rt : Tryz.f5.resultTypes.all (fun t => Tryz.pinned.checked.prog.readableRec t && decide (t < Tryz.pinned.checked.prog.types.size)) = true := by kernel_rfl
theorem k_io : (Rows.vectorProductsRow.ifacesOut == Tryz.f5.resultTypes.toList.any (Tryz.pinned.checked.prog.ifacesRec ·)) = true := by kernel_rfl
theorem k_lp : (Rows.vectorProductsRow.loopsOut == Tryz.f5.resultTypes.toList.any (Tryz.pinned.checked.prog.loopsFrom ·)) = true := by kernel_rfl
theorem k_sh : Rows.vectorProductsRow.shortTexts.isNone = true := by kernel_rfl
theorem k_ki : (Rows.vectorProductsRow.kinds == (if Rows.vectorProductsRow.domain.isEmpty then [] else Tryz.f5.params.toList.map fun t => match Tryz.pinned.checked.prog.underlying t with | some (.int k) => some k | _ => none)) = true := by kernel_rfl
theorem k_pi : (Rows.vectorProductsRow.pinned == Rows.vectorProductsRow.pinnedBy) = true := by kernel_rfl
theorem k_ve : (Rows.vectorProductsRow.veiled == (Tryz.f5.params.toList ++ (OpenSpec.ofChange Rows.vectorProductsSpec).bare.plain.varTypes Tryz.pinned.checked.prog ++ Tryz.f5.resultTypes.toList).any (Tryz.pinned.checked.prog.veiledRec ·)) = true := by kernel_rfl
theorem k_vf : Rows.vectorProductsRow.veiledFits Tryz.pinned.checked.prog Tryz.f5.params.toList (Tryz.f5.params.toList ++ (OpenSpec.ofChange Rows.vectorProductsSpec).bare.plain.varTypes Tryz.pinned.checked.prog ++ Tryz.f5.resultTypes.toList) = true := by kernel_rfl
set_option maxRecDepth 100000 in
theorem closed : joinedFacts Tryz.pinned.checked.prog 5 Tryz.f5 (OpenSpec.ofChange Rows.vectorProductsSpec).bare Rows.vectorProductsRow = true := by
 unfold joinedFacts
 exact (zI (zI (zI (zI (zI (zI (zI (zI (zI (zI (zI (zI (zI (zI (zI (zI (zI (zI (zI (zI (zI (zI (zI (zI (zI (zI (zI (zI (zI (zI (zI k_wf yb7) yax) k_par) k_tie) k_st) ye7) k_kn) yav) k_inPlace) k_unf) k_rcs) k_nam) k_maps) k_ifs) k_mo) k_lo) k_wk) k_va) k_rt) k_io) k_lp) yaz) k_sh) wN) ybF) ydC) yfg) k_ki) k_pi) k_ve) k_vf)

theorem said : Rows.VectorProductsSaid :=
 OpenClaim.holds_of_cond 5 Tryz.f5 rfl rfl rfl rfl rfl rfl rfl ⟨rfl, rfl, rfl, rfl, rfl⟩ rfl rfl rfl rfl rfl (by kernel_rfl) Tryz.func5 closed
  (of_decide_eq_true (by kernel_rfl)) (by unfold Func.isWrapper; first | (rw [if_pos (by decide +kernel)]; kernel_rfl) | (rw [if_neg (by decide +kernel)]; exact ⟨rfl, rfl⟩))
  (fun os started H enc _ F => by rw [OpenClaim.pre_eq_preRow]; exact lifted os started H enc F)

theorem plain (f : FuncId) (fn : Func) (hf : Tryz.pinned.checked.prog.funcNamed Rows.vectorProductsRow.func = some f) (hfn : Tryz.pinned.checked.prog.funcs[f]? = some fn) :
 true = Tryz.pinned.checked.prog.looks [] ∧ ∀ (j : Nat) t, fn.params[j]? = some t → Tryz.pinned.checked.prog.wantsStandIn t = false := by
 obtain rfl : f = 5 := Option.some.inj ((show Tryz.prog.funcNamed Rows.vectorProductsRow.func = some 5 by kernel_rfl).symm.trans hf) |>.symm
 obtain rfl : fn = Tryz.f5 := (Option.some.inj (Tryz.func5.symm.trans hfn)).symm
 refine ⟨by kernel_rfl, fun j t ht => ?_⟩
 rw [Tryz.params5] at ht
 have hm := Array.mem_of_getElem? ht
 simp only [List.mem_toArray, List.mem_cons, List.not_mem_nil, or_false] at hm
 rcases hm with rfl | rfl
 ·exact (show Tryz.prog.wantsStandIn 28 = false by kernel_rfl)
 ·exact (show Tryz.prog.wantsStandIn 28 = false by kernel_rfl)
end Go.Proofs.YtklgpilgalfckaaGreatDoor.vectorProducts
namespace Go.Proofs.YtklgpilgalfckaaGreatDoor
theorem vectorProducts.k_wft : Rows.vectorProductsRow.wfByText (OpenSpec.ofChange Rows.vectorProductsSpec) = true := by kernel_rfl
theorem vectorProducts.k_main : Tryz.pinned.checked.prog.mainIs = some (Rows.vectorProductsCard.stood.harness.1, Rows.vectorProductsCard.stood.harness.2.toList) := by kernel_rfl
theorem vectorProducts.k_goes : false = Rows.vectorProductsRow.goesBy Tryz.pinned.checked.prog := by kernel_rfl
/-- The card. -/
theorem vectorProducts_card : Rows.VectorProductsCardSaid :=
 Claim7.holds_tied_plain_at .later [] _ _ _ _ vectorProducts.said (fun _ h => by cases h) vectorProducts.k_wft (fun _ h => by cases h) vectorProducts_row_tie rfl ⟨rfl, rfl⟩ vectorProducts.k_main rfl vectorProducts.plain vectorProducts.k_goes
end Go.Proofs.YtklgpilgalfckaaGreatDoor
