/-
 Texts laid together.
-/
import Derived.Test.YtklgpilgalfckaaGreatDoorMA10
import Derived.Lib.LaidU8
namespace Go.KP
open Go
def textData {H : Type} (ls : List (List UInt8)) : DataW H := .agg (ls.map fun l => .lit (.string l))
theorem vI {H : Type} {enc : TypeId × Value → H} {P : Program} {w : World} {base : Nat} {sp : Nat → Bool} {held : Bool} {fuel : Nat} {t e : TypeId} {n : Nat} {cs : List Value} {ls : List (List UInt8)} {p : List MemPlace}
 (ht : P.underlying t = some (.array n e)) (he : P.underlying e = some .string) (hce : P.cellsOf e = 1)
 (h : DataW.trod enc P w base sp held fuel t cs = some (textData ls, p)) (i : Nat) (hi : i < n) : ∃ s : ByteArray, cs[i]? = some (.string s) ∧ ls[i]? = some s.data.toList := by
 obtain ⟨fuel', d, q, h1, h2⟩ := Lib.array_elem ht h i hi
 rw [hce, Nat.mul_one] at h2
 obtain ⟨s, hc, hx, _⟩ := DataW.trod_string he h2
 refine ⟨s, ?_, ?_⟩
 ·have := congrArg (·[0]?) hc
  simpa [List.getElem?_take, List.getElem?_drop] using this
 ·have hd : d = .lit (.string s.data.toList) := congrArg Prod.fst hx
  rw [hd, List.getElem?_map] at h1
  cases hl : ls[i]? with
  |none => rw [hl] at h1; simp at h1
  |some l =>
   rw [hl] at h1
   simp at h1
   rw [h1]
theorem yhr {P : Program} {W : World} {l : List (String × DataW Unit)} {name : String} {ls : List (List UInt8)} {g : Nat} {t e : TypeId} {n : Nat}
 (hg : P.globalNamed name = some g) (hty : (P.globals[g]?).map (·.type) = some t) (ht : P.underlying t = some (.array n e)) (he : P.underlying e = some .string) (hce : P.cellsOf e = 1)
 (hh : ((l.filter fun x => x.1 == name).filter fun x => x.2.handleName?.isNone) = [(name, textData ls)]) (h : laidMetH P l W) (i : Nat) (hi : i < n) : ∃ s : ByteArray, W.cell? ⟨g, i, none⟩ = some (.string s) ∧ ls[i]? = some s.data.toList := by
 have h1 := (laidMetH_iff.1 (h.filter fun x => x.1 == name)).1
 rw [hh] at h1
 obtain ⟨ps, ⟨g', t', cs, fuel, p, q, hg', ht', hvar, hd, _, _⟩, _⟩ := h1
 obtain rfl := Option.some.inj (hg.symm.trans hg')
 obtain rfl := Option.some.inj (hty.symm.trans ht')
 obtain ⟨s, h2, h3⟩ := vI ht he hce hd i hi
 refine ⟨s, ?_, h3⟩
 rw [World.var?_cell hg hvar i]
 rw [← h2]
 simp
theorem yb4 {H : Type} {enc : TypeId × Value → H} {P : Program} {w : World} {base : Nat} {sp : Nat → Bool} {held : Bool} {fuel : Nat} {t e : TypeId} {n : Nat} {cs : List Value} {ls : List (List UInt8)} {p : List MemPlace}
 (ht : P.underlying t = some (.array n e)) (he : P.underlying e = some .string) (hce : P.cellsOf e = 1) (hct : P.cellsOf t = n)
 (h : DataW.trod enc P w base sp held fuel t cs = some (textData ls, p)) : cs = ls.map fun l => Value.string ⟨l.toArray⟩ := by
 have hkey := fun i hi => vI ht he hce h i hi
 have hlen : cs.length = n ∧ ls.length = n := by
  cases fuel with
  |zero => simp [DataW.trod] at h
  |succ fuel =>
   simp only [DataW.trod, ht, hce, hct, Nat.mul_one] at h
   split at h
   ·rename_i hl
    obtain ⟨xs, hm, hx⟩ := Option.map_eq_some_iff.1 h
    have hxs : xs.map (·.1) = ls.map fun l => (DataW.lit (.string l) : DataW H) := by
     have := congrArg Prod.fst hx
     simpa [textData] using this
    have hxl : xs.length = n := by simpa using Lib.mapM_length hm
    have hzl : ls.length = n := by
     have := congrArg List.length hxs
     simp at this
     omega
    exact ⟨by simpa using hl, hzl⟩
   ·cases h
 apply List.ext_getElem?
 intro i
 by_cases hi : i < n
 ·obtain ⟨s, h1, h2⟩ := hkey i hi
  rw [h1, List.getElem?_map, h2]
  simp
 ·rw [List.getElem?_eq_none (by omega), List.getElem?_eq_none (by simp; omega)]
theorem ybA {P : Program} {W : World} {l : List (String × DataW Unit)} {name : String} {ls : List (List UInt8)} {g : Nat} {t e : TypeId} {n : Nat}
 (hg : P.globalNamed name = some g) (hty : (P.globals[g]?).map (·.type) = some t) (ht : P.underlying t = some (.array n e)) (he : P.underlying e = some .string) (hce : P.cellsOf e = 1) (hct : P.cellsOf t = n)
 (hh : ((l.filter fun x => x.1 == name).filter fun x => x.2.handleName?.isNone) = [(name, textData ls)]) (h : laidMetH P l W) : ∃ t fr, W.heap[g]? = some (.cells (ls.map fun l => Value.string ⟨l.toArray⟩).toArray t fr) := by
 have h1 := (laidMetH_iff.1 (h.filter fun x => x.1 == name)).1
 rw [hh] at h1
 obtain ⟨ps, ⟨g', t', cs, fuel, p, q, hg', ht', hvar, hd, _, _⟩, _⟩ := h1
 obtain rfl := Option.some.inj (hg.symm.trans hg')
 obtain rfl := Option.some.inj (hty.symm.trans ht')
 have hcs := yb4 ht he hce hct hd
 unfold World.var? at hvar
 rw [hg, Option.bind_some] at hvar
 split at hvar
 ·next cs' t' fr' hb =>
  cases hvar
  rw [← hcs]
  exact ⟨t', fr', by simpa using hb⟩
 ·cases hvar
end Go.KP
