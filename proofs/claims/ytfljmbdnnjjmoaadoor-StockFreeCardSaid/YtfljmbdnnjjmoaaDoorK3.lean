/-
  The law StockFree: its row and its tied card. Conditions: those of the given row alone.
-/
import Derived.Test.YtfljmbdnnjjmoaaDoorCards
import Derived.Test.YtfljmbdnnjjmoaaDoorTie
import Derived.Test.YtfljmbdnnjjmoaaDoorLC
import Derived.Test.YtfljmbdnnjjmoaaDoorLD
import Derived.Test.YtfljmbdnnjjmoaaDoorL3
namespace Go.Proofs.YtfljmbdnnjjmoaaDoor.stockFree
open Go.ChangeShapes Go.WideShapes Go.ChangeAt Go.RowKit Go.KP

set_option maxRecDepth 100000 in
theorem contract (H : Type) (enc : TypeId × Value → H) (W : World) (base : Nat) (args : Array Value) (ds gs : List (DataW H)) (before : List MemPlace)
    (hval : ∀ (j : Nat) t v, Tryd.f3.params[j]? = some t → args[j]? = some v → Value.okWide Tryd.prog W .any base t v)
    (hW : DataW.Whole enc Tryd.prog Tryd.f3.params.toList Rows.stockFreeSpec.vars false W args.toList ds gs before) (hL : laidMetH Tryd.prog Rows.stockFreeRow.laid W) :
    Calls Tryd.prog 3 args W fun e W' => ∃ v, e = .returned v ∧ Rows.stockFreeSpec.post enc Tryd.prog Tryd.f3 false true false false W args v W' := by
  have hW' := hW
  obtain ⟨p, q, hA0, hV, rfl, hfz, hnd⟩ := hW
  have hA : DataW.TrodAll enc Tryd.prog W 0 (fun _ => true) true Tryd.f3.params.toList args.toList ds p := hA0
  rw [Tryd.params3] at hA hval
  obtain ⟨v0, vs0, d0, ds0, p0, q0, hargs, rfl, rfl, h0, r0⟩ := trodAll_cons hA
  obtain ⟨rfl, rfl, rfl⟩ := trodAll_nil r0
  obtain rfl : args = #[v0] := by cases args; simp_all
  obtain ⟨rfl, rfl⟩ := trodVars_none hV
  obtain ⟨wd0, dp0, ln0, ct0, cs0, gv0, gs0, rfl, hg0⟩ := bar_open (hval 0 24 v0 rfl rfl) h0
  clear hA0
  simp only [List.append_nil] at hW'
  have walk : Calls Tryd.prog 3 #[barV wd0 dp0 ln0 ct0 cs0 gv0] W (Ret W (.bool true)) := (law3_any _ _ _ _ _ _ _ _ _ hg0 (Nat.le_refl _) (Lib.tabBelow_of_tabIs (pow_of_laid hL)))
  refine walk.mono fun e W' ⟨he, hb⟩ => ?_
  subst he
  exact ⟨_, rfl, law_post laidOut (by kernel_rfl) rfl (by kernel_rfl) Tryd.underlying4 hW' rfl hb⟩

theorem reads (os : Os) {H : Type} (enc : TypeId × Value → H) : ∃ places, DataW.whole enc Tryd.prog ((doorStart os).forCall (fun _ _ => 0) ⟨#[], #[.agg #[.int .i64 0, .int .i64 0, .int .i64 0, .int .i64 0, .int .i64 0, .slice none 0 0]], []⟩).memory Tryd.f3.params.toList Rows.stockFreeSpec.vars false (#[.agg #[.int .i64 0, .int .i64 0, .int .i64 0, .int .i64 0, .int .i64 0, .slice none 0 0]] : Array Value).toList 8 = some ([.agg [.lit (.int .i64 0), .lit (.int .i64 0), .lit (.int .i64 0), .lit (.int .i64 0), .lit (.int .i64 0), .nil]], [], places) :=
  ⟨[], by kernel_rfl⟩

set_option maxRecDepth 100000 in
theorem lifted (os : Os) (started : os.Started) (H : Type) (enc : TypeId × Value → H) (F : Stop.Interp) :
    ReturnsInHanded {} Tryd.checked os 3 .any ((OpenSpec.ofChange Rows.stockFreeSpec).preRow enc Tryd.prog Tryd.f3 Rows.stockFreeRow.domain false Rows.stockFreeRow.laid) (((OpenSpec.ofChange Rows.stockFreeSpec).at F).post enc Tryd.prog Tryd.f3 false true false false) := by
  obtain ⟨places, hx⟩ := reads os enc
  refine returnsInHanded_of_row (C := Tryd.checked) (s := OpenSpec.ofChange Rows.stockFreeSpec) own started (by kernel_rfl) Tryd.func3
    (witness_row_at (enc := enc) (C := Tryd.checked) false (doorStart os) #[.agg #[.int .i64 0, .int .i64 0, .int .i64 0, .int .i64 0, .int .i64 0, .slice none 0 0]] rfl (by kernel_rfl) (by kernel_rfl) (by kernel_rfl)
      (OpenSpec.preRow_of_cond 8 hx (by kernel_rfl) (fun k hk => by cases hk) (by kernel_rfl) (door_met os _))) ?_
  intro W base args ds gs before hval hW _ _ _ hL _ _
  exact contract H enc W base args ds gs before hval hW hL

theorem said : Rows.StockFreeSaid :=
  OpenClaim.holds_of_cond 3 Tryd.f3 rfl rfl rfl rfl rfl rfl rfl ⟨rfl, rfl, rfl, rfl, rfl⟩ rfl rfl rfl rfl rfl (by kernel_rfl) Tryd.func3 (by kernel_rfl)
    (of_decide_eq_true (by kernel_rfl)) (by unfold Func.isWrapper; first | (rw [if_pos (by decide +kernel)]; kernel_rfl) | (rw [if_neg (by decide +kernel)]; exact ⟨rfl, rfl⟩))
    (fun os started H enc _ F => by rw [OpenClaim.pre_eq_preRow]; exact lifted os started H enc F)

theorem plain (f : FuncId) (fn : Func) (hf : Tryd.pinned.checked.prog.funcNamed Rows.stockFreeRow.func = some f) (hfn : Tryd.pinned.checked.prog.funcs[f]? = some fn) :
    true = Tryd.pinned.checked.prog.looks [] ∧ ∀ (j : Nat) t, fn.params[j]? = some t → Tryd.pinned.checked.prog.wantsStandIn t = false := by
  obtain rfl : f = 3 := Option.some.inj ((show Tryd.prog.funcNamed Rows.stockFreeRow.func = some 3 by kernel_rfl).symm.trans hf) |>.symm
  obtain rfl : fn = Tryd.f3 := (Option.some.inj (Tryd.func3.symm.trans hfn)).symm
  refine ⟨by kernel_rfl, fun j t ht => ?_⟩
  rw [Tryd.params3] at ht
  have hm := Array.mem_of_getElem? ht
  simp only [List.mem_toArray, List.mem_cons, List.not_mem_nil, or_false] at hm
  subst hm
  · exact (show Tryd.prog.wantsStandIn 24 = false by kernel_rfl)
end Go.Proofs.YtfljmbdnnjjmoaaDoor.stockFree
namespace Go.Proofs.YtfljmbdnnjjmoaaDoor
/-- The card. -/
theorem stockFree_card : Rows.StockFreeCardSaid :=
  Claim7.holds_tied_plain_at .later [] _ _ _ _ stockFree.said (fun _ h => by cases h) (by kernel_rfl) (fun _ h => by cases h) stockFree_row_tie rfl ⟨rfl, rfl⟩ (by kernel_rfl) rfl stockFree.plain (by kernel_rfl)
end Go.Proofs.YtfljmbdnnjjmoaaDoor
