/-
  Texts laid together.
-/
import Derived.Test.YtfcjaljaomknjaaGreatDoorMF7
import Derived.Test.YtfcjaljaomknjaaGreatDoorMF16
set_option maxRecDepth 100000
namespace Go.Proofs.YtfcjaljaomknjaaGreatDoor
open Go.ChangeShapes Go.WideShapes Go.RowKit Go.KP

theorem iface_of_reads {W : World} {n nm : String} {g : Nat} {t : TypeId} {ms : Array (String × TypeId)} {d : DataW Unit} (hg : Tryz.prog.globalNamed n = some g) (ht : (Tryz.prog.globals[g]?).map (·.type) = some t) (hu : Tryz.prog.underlying t = some (.interface ms))
    (h : Lib.VarReads Tryz.prog W n (.iface nm d)) : ∃ te pe, W.cell? ⟨g, 0, none⟩ = some (.iface te pe) := by
  obtain ⟨g2, t2, cs, fuel, p, h1, h2, h3, h4⟩ := h
  rw [hg] at h1
  injection h1 with h1
  subst h1
  rw [ht] at h2
  injection h2 with h2
  subst h2
  have hc : ∃ te pe, cs.toList = [.iface te pe] := by
    cases fuel with
    | zero => simp [DataW.trod] at h4
    | succ n =>
      unfold DataW.trod at h4
      rw [hu] at h4
      split at h4 <;> simp_all
  obtain ⟨te, pe, hc⟩ := hc
  refine ⟨te, pe, ?_⟩
  unfold World.var? at h3
  rw [hg] at h3
  simp only [Option.bind_some] at h3
  unfold World.cell?
  cases hh : W.heap[g]? with
  | none => rw [hh] at h3; cases h3
  | some o =>
    rw [hh] at h3
    cases o with
    | cells c2 t2 fr =>
      simp only [Option.some.injEq] at h3
      subst h3
      have : c2[0]? = some (.iface te pe) := by rw [← Array.getElem?_toList, hc]; rfl
      simpa using this
    | _ => cases h3
theorem pe_of_laid {W : World} (hL : laidMetH Tryz.prog Rows.measureDecimalsRow.laid W) (hsh : W.ShapedOpen Tryz.prog) : PE W.heap.size W := by
  have hL2 := hL
  rw [Go.MakeChecks.laidMetH_plain _ _ _ (by kernel_rfl)] at hL2
  have e3 := iface_of_reads (g := 6) (t := 82) (by kernel_rfl) (by kernel_rfl) rfl (Lib.laidMet.reads hL2 (n := "strconv.ErrRange") (.tail _ (.tail _ (.tail _ (.tail _ (.head _))))))
  have e2 := iface_of_reads (g := 5) (t := 82) (by kernel_rfl) (by kernel_rfl) rfl (Lib.laidMet.reads hL2 (n := "strconv.ErrSyntax") (.tail _ (.tail _ (.tail _ (.tail _ (.tail _ (.head _)))))))
  have lt : ∀ {g : Nat} {te : TypeId} {pe : Value}, W.cell? ⟨g, 0, none⟩ = some (.iface te pe) → g < W.heap.size := by
    intro g te pe h
    unfold World.cell? at h
    cases hh : W.heap[g]? with
    | none => simp [hh] at h
    | some o => exact (Array.getElem?_eq_some_iff.1 hh).1
  obtain ⟨t3, p3, h3⟩ := e3
  obtain ⟨t2, p2, h2⟩ := e2
  exact ⟨pq_of_laid hL hsh, lt h2, lt h3, ⟨t2, p2, h2⟩, ⟨t3, p3, h3⟩⟩
end Go.Proofs.YtfcjaljaomknjaaGreatDoor
