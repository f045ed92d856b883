/-
  slices.IndexFunc, ContainsFunc at ints and at gaps, for whatever function value answers by a plain predicate: the walks.
-/
import Derived.Test.YtfljmbdnnjjmoaaDoorS1
import Derived.Shelf.Abstract
namespace Go.Proofs.YtfljmbdnnjjmoaaDoor
open Go.RowKit Go.KP Go.Shelf

/-- The first place from k on of which p holds; -1 if there is none. -/
def idxFrom {α : Type} (p : α → Bool) : Nat → List α → Int
  | _, [] => -1
  | k, x :: r => if p x then (k : Int) else idxFrom p (k + 1) r
def idx {α : Type} (p : α → Bool) (l : List α) : Int := idxFrom p 0 l
theorem idxFrom_any {α : Type} (p : α → Bool) : ∀ (l : List α) (k : Nat), decide (0 ≤ idxFrom p k l) = l.any p := by
  intro l
  induction l with
  | nil => intro k; rfl
  | cons x r ih =>
    intro k
    unfold idxFrom
    cases h : p x
    · simp [ih, h]
    · simp [h]
theorem idx_any {α : Type} (p : α → Bool) (l : List α) : decide (0 ≤ idx p l) = l.any p := idxFrom_any p l 0

/-- A function value that answers by p, in every later world. -/
def Answers {α : Type} (g : Nat) (lb : Array Value) (enc : α → Value) (p : α → Bool) (w : World) : Prop :=
  (∀ args W, (callFunc g args).run Tryd.prog W = .ok (.enter g args) W) ∧
  ∀ x W, Below w.heap.size w W → Calls Tryd.prog g (#[enc x] ++ lb) W (Ret W (.bool (p x)))

set_option maxHeartbeats 1000000 in
theorem indexInt_any (g : Nat) (lb : Array Value) (p : Int → Bool) (A : Option Addr) (n c : Nat) (zs : List Int) (w : World) (hn : zs.length = n) (hmax : n ≤ 1000000)
    (hc : ∀ k, k < n → ∃ b o, A = some ⟨b, o, none⟩ ∧ b < w.heap.size ∧ w.cell? ⟨b, o + k, none⟩ = some (.int .i64 (zs[k]?.getD 0))) (hf : Answers g lb (Value.int .i64) p w) :
    Calls Tryd.prog 57 #[.slice A n c, .func (.func g) #[] lb] w (Ret w (.int .i64 (idx p zs))) := by
  obtain ⟨eg, hp⟩ := hf
  have HC := hide hc; have HP := hide hp; have HN := hide hn
  have HI := hide (show idx p zs = idxFrom p 0 (zs.drop 0) from rfl)
  clear hc hp hn
  go_enter Tryd.func57, Tryd.ntmps57
  go_wp2_with fail
  go_loopw [8] (fun i wr => ∃ k : Nat, k ≤ n ∧ i = .int .i64 k ∧ Below w.heap.size w wr ∧ Hid (idx p zs = idxFrom p k (zs.drop k))) (fun i _ => n - (intOf i).toNat)
  case atStart => exact ⟨0, Nat.zero_le _, rfl, Below.refl _ _, HI⟩
  case round =>
    obtain ⟨k, hk, rfl, hb, hinv⟩ := hrel
    by_cases hlt : k < n
    · obtain ⟨b, o, rfl, hbl, hcell⟩ := HC.out k hlt
      have r1 := (hb.cell (p := ⟨b, o + k, none⟩) hbl).trans hcell
      have hst : idxFrom p k (zs.drop k) = if p (zs[k]?.getD 0) then (k : Int) else idxFrom p (k + 1) (zs.drop (k + 1)) := by
        have hl : k < zs.length := by rw [HN.out]; exact hlt
        rw [List.drop_eq_getElem_cons hl]
        simp [idxFrom, hl]
      have HS := hide hst
      clear hst hcell
      cases hx : p (zs[k]?.getD 0)
      all_goals
        have HX := hide hx
        clear hx
        go_wp2_with fail
        refine (HP.out (zs[k]?.getD 0) wr hb).mono ?_
        rintro e w2 ⟨rfl, hb2⟩
        have HB2 := hide (hb.trans (hb2.mono hb.size))
        clear hb2
        rw [HX.out]
        go_wp2_with fail
      · go_roundw
        case rel => exact ⟨k + 1, by omega, by go_num, HB2.out, by have h := hinv.out; rw [HS.out, HX.out] at h; exact h⟩
        case measure => simp [intOf]; omega
      · go_ret
        refine ⟨?_, HB2.out⟩
        have h := hinv.out
        rw [HS.out, HX.out] at h
        rw [h]
        rfl
    · obtain rfl : k = n := by omega
      go_wp2_with fail
      go_ret
      refine ⟨?_, hb⟩
      have h := hinv.out
      rw [List.drop_of_length_le (by have := HN.out; omega)] at h
      rw [h]
      rfl
set_option maxHeartbeats 1000000 in
theorem indexGap_any (g : Nat) (lb : Array Value) (p : Int × Int → Bool) (A : Option Addr) (n c : Nat) (zs : List (Int × Int)) (w : World) (hn : zs.length = n) (hmax : n ≤ 1000000)
    (hc : ∀ k, k < n → ∃ b o, A = some ⟨b, o, none⟩ ∧ b < w.heap.size ∧ w.cell? ⟨b, o + k * 2, none⟩ = some (.int .i64 (gF zs k)) ∧ w.cell? ⟨b, o + k * 2 + 1, none⟩ = some (.int .i64 (gT zs k))) (hf : Answers g lb (fun x : Int × Int => .agg #[.int .i64 x.1, .int .i64 x.2]) p w) :
    Calls Tryd.prog 48 #[.slice A n c, .func (.func g) #[] lb] w (Ret w (.int .i64 (idx p zs))) := by
  obtain ⟨eg, hp⟩ := hf
  have HC := hide hc; have HP := hide hp; have HN := hide hn
  have HI := hide (show idx p zs = idxFrom p 0 (zs.drop 0) from rfl)
  clear hc hp hn
  go_enter Tryd.func48, Tryd.ntmps48
  go_wp2_with fail
  go_loopw [8] (fun i wr => ∃ k : Nat, k ≤ n ∧ i = .int .i64 k ∧ Below w.heap.size w wr ∧ Hid (idx p zs = idxFrom p k (zs.drop k))) (fun i _ => n - (intOf i).toNat)
  case atStart => exact ⟨0, Nat.zero_le _, rfl, Below.refl _ _, HI⟩
  case round =>
    obtain ⟨k, hk, rfl, hb, hinv⟩ := hrel
    by_cases hlt : k < n
    · obtain ⟨b, o, rfl, hbl, hcell⟩ := HC.out k hlt
      have r1 := (hb.cell (p := ⟨b, o + k * 2, none⟩) hbl).trans hcell.1
      have r2 := (hb.cell (p := ⟨b, o + k * 2 + 1, none⟩) hbl).trans hcell.2
      have hst : idxFrom p k (zs.drop k) = if p (gF zs k, gT zs k) then (k : Int) else idxFrom p (k + 1) (zs.drop (k + 1)) := by
        have hl : k < zs.length := by rw [HN.out]; exact hlt
        rw [List.drop_eq_getElem_cons hl]
        simp [idxFrom, hl, gF, gT]
      have HS := hide hst
      clear hst hcell
      cases hx : p (gF zs k, gT zs k)
      all_goals
        have HX := hide hx
        clear hx
        go_wp2_with fail
        refine (HP.out (gF zs k, gT zs k) wr hb).mono ?_
        rintro e w2 ⟨rfl, hb2⟩
        have HB2 := hide (hb.trans (hb2.mono hb.size))
        clear hb2
        rw [HX.out]
        go_wp2_with fail
      · go_roundw
        case rel => exact ⟨k + 1, by omega, by go_num, HB2.out, by have h := hinv.out; rw [HS.out, HX.out] at h; exact h⟩
        case measure => simp [intOf]; omega
      · go_ret
        refine ⟨?_, HB2.out⟩
        have h := hinv.out
        rw [HS.out, HX.out] at h
        rw [h]
        rfl
    · obtain rfl : k = n := by omega
      go_wp2_with fail
      go_ret
      refine ⟨?_, hb⟩
      have h := hinv.out
      rw [List.drop_of_length_le (by have := HN.out; omega)] at h
      rw [h]
      rfl

set_option maxHeartbeats 400000 in
theorem containsInt_any (g : Nat) (lb : Array Value) (p : Int → Bool) (A : Option Addr) (n c : Nat) (zs : List Int) (w : World) (hn : zs.length = n) (hmax : n ≤ 1000000)
    (hc : ∀ k, k < n → ∃ b o, A = some ⟨b, o, none⟩ ∧ b < w.heap.size ∧ w.cell? ⟨b, o + k, none⟩ = some (.int .i64 (zs[k]?.getD 0))) (hf : Answers g lb (Value.int .i64) p w) :
    Calls Tryd.prog 37 #[.slice A n c, .func (.func g) #[] lb] w (Ret w (.bool (zs.any p))) := by
  have HX := hide (indexInt_any g lb p A n c zs w hn hmax hc hf)
  clear hn hc hf
  have HA := hide (idx_any p zs)
  obtain ⟨q, hq⟩ : ∃ q, q = idx p zs := ⟨_, rfl⟩
  rw [← hq] at HX HA
  clear hq
  go_enter Tryd.func37, Tryd.ntmps37
  go_wp2_with fail
  refine HX.out.mono ?_
  rintro e w1 ⟨rfl, hb1⟩
  go_wp2_with fail
  go_ret
  refine ⟨?_, hb1⟩
  rw [← HA.out]
  rfl

set_option maxHeartbeats 400000 in
theorem containsGap_any (g : Nat) (lb : Array Value) (p : Int × Int → Bool) (A : Option Addr) (n c : Nat) (zs : List (Int × Int)) (w : World) (hn : zs.length = n) (hmax : n ≤ 1000000)
    (hc : ∀ k, k < n → ∃ b o, A = some ⟨b, o, none⟩ ∧ b < w.heap.size ∧ w.cell? ⟨b, o + k * 2, none⟩ = some (.int .i64 (gF zs k)) ∧ w.cell? ⟨b, o + k * 2 + 1, none⟩ = some (.int .i64 (gT zs k))) (hf : Answers g lb (fun x : Int × Int => .agg #[.int .i64 x.1, .int .i64 x.2]) p w) :
    Calls Tryd.prog 14 #[.slice A n c, .func (.func g) #[] lb] w (Ret w (.bool (zs.any p))) := by
  have HX := hide (indexGap_any g lb p A n c zs w hn hmax hc hf)
  clear hn hc hf
  have HA := hide (idx_any p zs)
  obtain ⟨q, hq⟩ : ∃ q, q = idx p zs := ⟨_, rfl⟩
  rw [← hq] at HX HA
  clear hq
  go_enter Tryd.func14, Tryd.ntmps14
  go_wp2_with fail
  refine HX.out.mono ?_
  rintro e w1 ⟨rfl, hb1⟩
  go_wp2_with fail
  go_ret
  refine ⟨?_, hb1⟩
  rw [← HA.out]
  rfl

/-- A slice of ints as the walks want it. -/
theorem SlAt.ints {B : Nat} {w : World} {v : Value} {n : Nat} {zs : List Int} (h : SlAt B w 1 v n (zs.map (Value.int .i64))) : ∃ A c, v = .slice A n c ∧ zs.length = n ∧
    ∀ k, k < n → ∃ b o, A = some ⟨b, o, none⟩ ∧ b < B ∧ w.cell? ⟨b, o + k, none⟩ = some (.int .i64 (zs[k]?.getD 0)) := by
  have hl : zs.length = n := by simpa using h.1
  rcases h.2 with ⟨a0, c0, h1, h2⟩ | ⟨b, o, cap, hv, hb, hc⟩
  · exact ⟨a0, c0, by rw [h1, h2], hl, fun k hk => by omega⟩
  · exact ⟨_, cap, hv, hl, fun k hk => ⟨b, o, rfl, hb, hc k _ (by simp [hl, hk])⟩⟩
theorem SlAt.gaps {B : Nat} {w : World} {v : Value} {n : Nat} {zs : List (Int × Int)} (h : SlAt B w 2 v n (pcells zs)) : ∃ A c, v = .slice A n c ∧ zs.length = n ∧
    ∀ k, k < n → ∃ b o, A = some ⟨b, o, none⟩ ∧ b < B ∧ w.cell? ⟨b, o + k * 2, none⟩ = some (.int .i64 (gF zs k)) ∧ w.cell? ⟨b, o + k * 2 + 1, none⟩ = some (.int .i64 (gT zs k)) := by
  have hl : zs.length = n := by have := h.1; rw [pcells_length] at this; omega
  rcases h.2 with ⟨a0, c0, h1, h2⟩ | ⟨b, o, cap, hv, hb, hc⟩
  · exact ⟨a0, c0, by rw [h1, h2], hl, fun k hk => by omega⟩
  · exact ⟨_, cap, hv, hl, fun k hk => by
      obtain ⟨p1, p2⟩ := pcells_at zs k (by omega)
      exact ⟨b, o, rfl, hb, hc _ _ p1, hc _ _ p2⟩⟩

set_option maxHeartbeats 400000 in
theorem fits1_any (x : Int) (w : World) : Calls Tryd.prog 51 #[.int .i64 x] w (Ret w (.bool (!btw x 1 65536))) := by
  go_enter Tryd.func51, Tryd.ntmps51
  go_wp2_with (first | (go_at_call 52; refine (between_any _ _ _ _).mono ?_; rintro e w' ⟨rfl, rfl⟩) | fail)
  go_ret
  exact ⟨rfl, Below.refl _ _⟩
theorem fits1_answers (w : World) : Answers 51 #[] (Value.int .i64) (fun x => !btw x 1 65536) w := ⟨enters_of Tryd.func51 (by kernel_rfl) rfl, fun x W _ => fits1_any x W⟩
end Go.Proofs.YtfljmbdnnjjmoaaDoor
