/-
  What the card of StockTexts asks: a start that lays its seven variables, the readers' facts out of them.
-/
import Derived.Test.YtfljmbdnnjjmoaaDoorLD
import Derived.Test.YtfljmbdnnjjmoaaDoorT1
import Derived.Test.YtfljmbdnnjjmoaaDoorLC
import Derived.Lay
import Derived.MakeChecks
import Derived.Lib.LaidU8
import Derived.Shelf.Vars
namespace Go.Proofs.YtfljmbdnnjjmoaaDoor
open Go.ChangeShapes Go.WideShapes Go.RowKit Go.KP

noncomputable abbrev textStart (os : Os) : World := World.laidAll Tryd.prog os Rows.stockTextsRow.laid
set_option maxRecDepth 100000 in
theorem textStart_met (os : Os) (args : Array Value) : laidMetH Tryd.prog Rows.stockTextsRow.laid ((textStart os).forCall (fun _ _ => 0) ⟨#[], args, []⟩).memory := by
  rw [Go.MakeChecks.laidMetH_plain _ _ _ (by kernel_rfl)]
  exact laidMet_laidAll args (by kernel_rfl) (by kernel_rfl)
theorem iface_of_reads {W : World} {n nm : String} {g : Nat} {t : TypeId} {ms : Array (String × TypeId)} {d : DataW Unit} (hg : Tryd.prog.globalNamed n = some g) (ht : (Tryd.prog.globals[g]?).map (·.type) = some t) (hu : Tryd.prog.underlying t = some (.interface ms))
    (h : Lib.VarReads Tryd.prog W n (.iface nm d)) : ∃ te pe, W.cell? ⟨g, 0, none⟩ = some (.iface te pe) := by
  obtain ⟨g2, t2, cs, fuel, p, h1, h2, h3, h4⟩ := h
  rw [hg] at h1
  injection h1 with h1
  subst h1
  rw [ht] at h2
  injection h2 with h2
  subst h2
  have hc : ∃ te pe, cs.toList = [.iface te pe] := by
    cases fuel with
    | zero => simp [DataW.trod] at h4
    | succ n =>
      unfold DataW.trod at h4
      rw [hu] at h4
      split at h4 <;> simp_all
  obtain ⟨te, pe, hc⟩ := hc
  refine ⟨te, pe, ?_⟩
  unfold World.var? at h3
  rw [hg] at h3
  simp only [Option.bind_some] at h3
  unfold World.cell?
  cases hh : W.heap[g]? with
  | none => rw [hh] at h3; cases h3
  | some o =>
    rw [hh] at h3
    cases o with
    | cells c2 t2 fr =>
      simp only [Option.some.injEq] at h3
      subst h3
      have : c2[0]? = some (.iface te pe) := by rw [← Array.getElem?_toList, hc]; rfl
      simpa using this
    | _ => cases h3
set_option maxRecDepth 100000 in
theorem texts_of_laid {W : World} (hL : laidMetH Tryd.prog Rows.stockTextsRow.laid W) (hsh : W.ShapedOpen Tryd.prog) : PT W.heap.size W := by
  have hL2 := hL
  rw [Go.MakeChecks.laidMetH_plain _ _ _ (by kernel_rfl)] at hL2
  have e3 := iface_of_reads (g := 3) (t := 84) (by kernel_rfl) (by kernel_rfl) rfl (Lib.laidMet.reads hL2 (n := "strconv.ErrRange") (.tail _ (.tail _ (.tail _ (.tail _ (.head _))))))
  have e2 := iface_of_reads (g := 2) (t := 84) (by kernel_rfl) (by kernel_rfl) rfl (Lib.laidMet.reads hL2 (n := "strconv.ErrSyntax") (.tail _ (.tail _ (.tail _ (.tail _ (.tail _ (.head _)))))))
  have hlt : 3 < W.heap.size := by
    obtain ⟨te, pe, h⟩ := e3
    exact cell_lt h
  refine ⟨Lib.tabBelow_of_tabIs (tab_of_laid (t := 123) (e := 111) (n := 20) gPow (by kernel_rfl) (by kernel_rfl) (by kernel_rfl) (by kernel_rfl) (by kernel_rfl) (by kernel_rfl) hL), hlt, ?_, e2, e3⟩
  exact Go.Proofs.cell_of_shapedOpen_int (zero := #[.int .i64 0]) (t := 3) hsh (of_decide_eq_true (by kernel_rfl)) (by kernel_rfl) rfl (by kernel_rfl) (by kernel_rfl) Tryd.underlying3
end Go.Proofs.YtfljmbdnnjjmoaaDoor
