/-
  A region that draws its order: its first n operations are quiet in a class of worlds (calls among them), and none behind them may come up before they are done.
-/
import Derived.Deep.QuietTactic
import Derived.BigQuiet
import Derived.Orders
import Derived.KernelRfl
import Derived.Deep.AppendLies
import Derived.OwnWalk
namespace Go.KP
open Go

/-- A world of a class. -/
structure Of (C : World → Prop) where
  w : World
  h : C w
abbrev Cls (C : World → Prop) (w : World) : Prop := ∃ x : Of C, w = x.w
theorem Cls.mk {C : World → Prop} {w : World} (h : C w) : Cls C w := ⟨⟨w, h⟩, rfl⟩
theorem Cls.out {C : World → Prop} {w : World} (h : Cls C w) : C w := by
  obtain ⟨x, rfl⟩ := h
  exact x.h

section
variable {P : Program} {md : Region.Mode} {C : World → Prop}

/-- Operation i waits for operation j. -/
def waits (md : Region.Mode) (ops : Array Oper) (i j : Nat) : Prop := ∃ o, ops[i]? = some o ∧ ∃ e ∈ o.after, Region.binds md e = true ∧ e.on = j
theorem ready_iff {ops : Array Oper} {listed : Array Bool} {i : Nat} : i ∈ Region.ready md ops listed ↔ i < ops.size ∧ listed.getD i true = false ∧ ∀ j, waits md ops i j → listed.getD j false = true := by
  unfold Region.ready
  rw [List.mem_filter, List.mem_range]
  constructor
  · rintro ⟨h1, h2⟩
    simp only [Bool.and_eq_true, Bool.not_eq_true'] at h2
    refine ⟨h1, h2.1, ?_⟩
    rintro j ⟨o, ho, e, he, hb, rfl⟩
    have h3 := h2.2
    rw [ho] at h3
    simp only [Option.map_some, Option.getD_some, Array.all_eq_true_iff_forall_mem] at h3
    have h4 := h3 e he
    rw [hb] at h4
    simpa using h4
  · rintro ⟨h1, h2, h3⟩
    refine ⟨h1, ?_⟩
    simp only [Bool.and_eq_true, Bool.not_eq_true']
    refine ⟨h2, ?_⟩
    rw [Array.getElem?_eq_getElem h1]
    simp only [Option.map_some, Option.getD_some, Array.all_eq_true_iff_forall_mem]
    intro e he
    by_cases hb : Region.binds md e = true
    · rw [h3 e.on ⟨_, Array.getElem?_eq_getElem h1, e, he, hb, rfl⟩]
      simp
    · simp [hb]

def waitsB (md : Region.Mode) (l : List Oper) (i j : Nat) : Bool := match l[i]? with
  | some o => o.after.any fun e => Region.binds md e && e.on == j
  | none => false
theorem waitsB_iff {l : List Oper} {i j : Nat} : waitsB md l i j = true ↔ waits md l.toArray i j := by
  unfold waitsB waits
  rw [List.getElem?_toArray]
  cases l[i]? with
  | none => simp
  | some o =>
    simp only [Option.some.injEq, exists_eq_left']
    rw [Array.any_eq_true]
    simp only [Bool.and_eq_true, beq_iff_eq]
    constructor
    · rintro ⟨i, h, h1, h2⟩
      exact ⟨_, Array.getElem_mem h, h1, h2⟩
    · rintro ⟨e, he, h1, h2⟩
      obtain ⟨i, h, rfl⟩ := Array.mem_iff_getElem.1 he
      exact ⟨i, h, h1, h2⟩

/-- What is looked at. -/
def gateB (md : Region.Mode) (l : List Oper) (k n : Nat) : Bool :=
  ((List.range n).all fun i => match l[i]? with
    | some o => o.guard.isNone && o.after.all fun e => !Region.binds md e || decide (e.on < i)
    | none => false) &&
  ((List.range l.length).all fun r => decide (r < n) || (List.range l.length).any (fun j => decide (n ≤ j) && waitsB md l r j) ||
    (List.range n).all fun j => decide (j < k) || waitsB md l r j || (List.range n).any fun m => decide (j < m) && waitsB md l m j)
theorem gate_before {l : List Oper} {k n : Nat} (h : gateB md l k n = true) (i : Nat) (hi : i < n) : i < l.length ∧ (∀ o, l[i]? = some o → o.guard = none) ∧ ∀ j, waits md l.toArray i j → j < i := by
  unfold gateB at h
  rw [Bool.and_eq_true] at h
  have h1 := (List.all_eq_true.1 h.1) i (List.mem_range.2 hi)
  cases ho : l[i]? with
  | none => rw [ho] at h1; cases h1
  | some o =>
    rw [ho] at h1
    simp only [Bool.and_eq_true, Option.isNone_iff_eq_none, Array.all_eq_true_iff_forall_mem] at h1
    refine ⟨(List.getElem?_eq_some_iff.1 ho).1, fun o2 h2 => by cases h2; exact h1.1, ?_⟩
    rintro j ⟨o2, ho2, e, he, hb, rfl⟩
    rw [List.getElem?_toArray, ho] at ho2
    cases ho2
    have h4 := h1.2 e he
    rw [hb] at h4
    simpa using h4
theorem gate_behind {l : List Oper} {k n : Nat} (h : gateB md l k n = true) (r : Nat) (hr : r < l.length) (hn : n ≤ r) : (∃ j, n ≤ j ∧ waits md l.toArray r j) ∨ ∀ j, j < n → j < k ∨ waits md l.toArray r j ∨ ∃ m, m < n ∧ j < m ∧ waits md l.toArray m j := by
  unfold gateB at h
  rw [Bool.and_eq_true] at h
  have h1 := (List.all_eq_true.1 h.2) r (List.mem_range.2 hr)
  simp only [Bool.or_eq_true, decide_eq_true_eq, List.any_eq_true, List.all_eq_true, List.mem_range, Bool.and_eq_true] at h1
  rcases h1 with (h1 | ⟨j, _, h2, h3⟩) | h1
  · omega
  · exact .inl ⟨j, h2, waitsB_iff.1 h3⟩
  · refine .inr fun j hj => ?_
    rcases h1 j hj with (h2 | h2) | ⟨m, h2, h3, h4⟩
    · exact .inl h2
    · exact .inr (.inl (waitsB_iff.1 h2))
    · exact .inr (.inr ⟨m, h2, h3, waitsB_iff.1 h4⟩)

/-- The same marks, none for what lies behind. -/
def padded (L : Array Bool) (m : Nat) : Array Bool := L ++ Array.replicate m false
theorem padded_f {L : Array Bool} {m j : Nat} : (padded L m).getD j false = L.getD j false := by
  unfold padded
  simp only [Array.getD_eq_getD_getElem?]
  by_cases h : j < L.size
  · rw [Array.getElem?_append_left h]
  · rw [Array.getElem?_append_right (by omega), Array.getElem?_eq_none (xs := L) (by omega)]
    by_cases h2 : j - L.size < m
    · simp [h2]
    · simp [h2]
theorem padded_t {L : Array Bool} {m j : Nat} (h : j < L.size) : (padded L m).getD j true = L.getD j true := by
  unfold padded
  simp only [Array.getD_eq_getD_getElem?]
  rw [Array.getElem?_append_left h]
theorem padded_set {L : Array Bool} {m j : Nat} (h : j < L.size) : (padded L m).setIfInBounds j true = padded (L.setIfInBounds j true) m := by
  unfold padded
  rw [Array.setIfInBounds_append_left h]
theorem getD_tf {L : Array Bool} {j : Nat} (h : j < L.size) : L.getD j true = L.getD j false := by
  simp [h]
def down (md : Region.Mode) (ops : Array Oper) (L : Array Bool) : Prop := ∀ i j, L.getD i false = true → waits md ops i j → L.getD j false = true
theorem waits_take {l : List Oper} {n i j : Nat} (hi : i < n) : waits md (l.take n).toArray i j ↔ waits md l.toArray i j := by
  unfold waits
  simp only [List.getElem?_toArray, List.getElem?_take, hi, if_true]

theorem some_ready {l : List Oper} {k n : Nat} (hg : gateB md l k n = true) {L : Array Bool} (hL : L.size = n) : ∀ j, j < n → L.getD j false = false → ∃ i, i ∈ Region.ready md (l.take n).toArray L := by
  intro j
  induction j using Nat.strongRecOn with
  | _ j ih =>
    intro hj hf
    by_cases hall : ∀ m, waits md (l.take n).toArray j m → L.getD m false = true
    · refine ⟨j, ready_iff.2 ⟨by simp; have := (gate_before hg j hj).1; omega, ?_, hall⟩⟩
      rw [getD_tf (by omega)]
      exact hf
    · obtain ⟨m, hm⟩ := Classical.not_forall.1 hall
      obtain ⟨h1, h2⟩ := Classical.not_imp.1 hm
      have h3 := (gate_before hg j hj).2.2 m ((waits_take hj).1 h1)
      exact ih m h3 (by omega) (by simpa using h2)

theorem count_set {L : Array Bool} {i : Nat} (hi : i < L.size) (hf : L.getD i false = false) : (L.setIfInBounds i true).toList.count false + 1 = L.toList.count false := by
  have hi' : i < L.toList.length := by simpa using hi
  have h1 : L.toList[i]? = some false := by
    rw [List.getElem?_eq_getElem hi']
    simpa [hi] using hf
  rw [Array.toList_setIfInBounds]
  clear hf hi
  generalize L.toList = l at *
  induction l generalizing i with
  | nil => simp at hi'
  | cons b r ih =>
    cases i with
    | zero =>
      simp at h1
      subst h1
      simp
    | succ i =>
      simp only [List.set_cons_succ, List.count_cons]
      have := ih (i := i) (by simpa using hi') (by simpa using h1)
      omega

theorem any_prefix {l : List Oper} {Q : Exit → Act → World → Prop} {k n f : Nat} {Qf : Act → Prop} (hg : gateB md l k n = true) (hn : n ≤ l.length)
    (hQf : ∀ a w, C w → Qf a → wpAny P md l.toArray Q f (padded (Array.replicate n true) (l.length - n)) a w) : ∀ (fuel : Nat) (L : Array Bool) (a : Act), L.size = n → down md l.toArray L → (∀ j, j < k → j < n → L.getD j false = true) → L.toList.count false = fuel →
    wpAnyQ P md (l.take n).toArray C Qf fuel L a → ∀ w, C w → wpAny P md l.toArray Q (fuel + f) (padded L (l.length - n)) a w := by
  intro fuel
  induction fuel with
  | zero =>
    intro L a hL hd hk hc h w hw
    have : L = Array.replicate n true := by
      have hne := List.count_eq_zero.1 hc
      apply Array.ext
      · simp [hL]
      · intro i h1 h2
        rw [Array.getElem_replicate]
        cases hx : L[i] with
        | true => rfl
        | false => exact absurd (by rw [← hx]; simp) hne
    subst this
    rw [Nat.zero_add]
    exact hQf a w hw h.2
  | succ fuel ih =>
    intro L a hL hd hk hc h w hw
    obtain ⟨j0, hj0, hjf⟩ : ∃ j, j < n ∧ L.getD j false = false := by
      have hmem : false ∈ L.toList := List.count_pos_iff.1 (by omega)
      obtain ⟨j, hj, hx⟩ := List.mem_iff_getElem.1 hmem
      refine ⟨j, by simpa [hL] using hj, ?_⟩
      have : j < L.size := by simpa using hj
      simpa [this] using hx
    have hpre : ∀ i, i ∈ Region.ready md l.toArray (padded L (l.length - n)) → i < n ∧ i ∈ Region.ready md (l.take n).toArray L := by
      intro i hi
      obtain ⟨h1, h2, h3⟩ := ready_iff.1 hi
      have hin : i < n := by
        rcases Nat.lt_or_ge i n with h | h
        · exact h
        · exfalso
          have hil : i < l.length := by simpa using h1
          rcases gate_behind hg i hil h with ⟨j, hj, hw⟩ | hall
          · have := h3 j hw
            rw [padded_f, Array.getD_eq_getD_getElem?, Array.getElem?_eq_none (by omega)] at this
            simp at this
          · have key : ∀ d j, n - j = d → j < n → L.getD j false = true := by
              intro d
              induction d using Nat.strongRecOn with
              | _ d ihd =>
                intro j hdj hj
                rcases hall j hj with h4 | h4 | ⟨m, h4, h5, h6⟩
                · exact hk j h4 hj
                · have := h3 j h4
                  rwa [padded_f] at this
                · exact hd m j (ihd (n - m) (by omega) m rfl h4) h6
            have := key _ j0 rfl hj0
            rw [hjf] at this
            cases this
      refine ⟨hin, ready_iff.2 ⟨by simp; omega, ?_, fun j hj => ?_⟩⟩
      · rwa [padded_t (by omega)] at h2
      · have := h3 j ((waits_take hin).1 hj)
        rwa [padded_f] at this
    have hback : ∀ i, i ∈ Region.ready md (l.take n).toArray L → i ∈ Region.ready md l.toArray (padded L (l.length - n)) := by
      intro i hi
      obtain ⟨h1, h2, h3⟩ := ready_iff.1 hi
      have hin : i < n := by simp at h1; omega
      refine ready_iff.2 ⟨by simp; omega, ?_, fun j hj => ?_⟩
      · rwa [padded_t (by omega)]
      · rw [padded_f]
        exact h3 j ((waits_take hin).2 hj)
    rw [Nat.add_right_comm]
    refine ⟨fun h0 => ?_, fun i hi => ?_⟩
    · obtain ⟨i, hi⟩ := some_ready hg hL j0 hj0 hjf
      have := hback i hi
      rw [h0] at this
      cases this
    · obtain ⟨hin, hr⟩ := hpre i hi
      have hq := h.2 i hr
      obtain ⟨r1, r2, r3⟩ := ready_iff.1 hr
      have hiL : i < L.size := by omega
      have hfi : L.getD i false = false := by rw [← getD_tf hiL]; exact r2
      obtain ⟨b1, b2, b3⟩ := gate_before hg i hin
      have hd' : down md l.toArray (L.setIfInBounds i true) := by
        intro x y hx hxy
        have hmono : ∀ y, L.getD y false = true → (L.setIfInBounds i true).getD y false = true := by
          intro y hy
          by_cases hyi : y = i
          · subst hyi; rw [hfi] at hy; cases hy
          · simpa [Array.getD_eq_getD_getElem?, Array.getElem?_setIfInBounds_ne (Ne.symm hyi)] using hy
        by_cases hxi : x = i
        · subst hxi
          exact hmono y (r3 y ((waits_take hin).2 hxy))
        · have hx' : L.getD x false = true := by simpa [Array.getD_eq_getD_getElem?, Array.getElem?_setIfInBounds_ne (Ne.symm hxi)] using hx
          exact hmono y (hd x y hx' hxy)
      have hk' : ∀ j, j < k → j < n → (L.setIfInBounds i true).getD j false = true := by
        intro j h1 h2
        have hj := hk j h1 h2
        by_cases hji : j = i
        · subst hji; rw [hfi] at hj; cases hj
        · simpa [Array.getD_eq_getD_getElem?, Array.getElem?_setIfInBounds_ne (Ne.symm hji)] using hj
      have hnext : ∀ a' w', C w' → wpAnyQ P md (l.take n).toArray C Qf fuel (L.setIfInBounds i true) a' → wpAny P md l.toArray Q (fuel + f) ((padded L (l.length - n)).setIfInBounds i true) a' w' := by
        intro a' w' hw' h'
        rw [padded_set hiL]
        exact ih _ a' (by simpa using hL) hd' hk' (by have := count_set hiL hfi; omega) h' w' hw'
      unfold qOp at hq
      unfold wpOp
      have e1 : (l.take n).toArray[i]? = some l[i] := by simp [hin, b1]
      have e2 : l.toArray[i]? = some l[i] := by simp [b1]
      rw [e1] at hq
      rw [e2]
      have hgd : l[i].guard = none := b2 _ (List.getElem?_eq_getElem b1)
      have hw1 : ∀ ys, Region.wanted l[i] ys = true := fun ys => by simp [Region.wanted, hgd]
      simp only [hw1, if_true] at hq ⊢
      exact .inl (Oper.wp_of_quiet hw hnext hq)

/-- Behind the first n each operation waits for the one before it. -/
def seqB (md : Region.Mode) (l : List Oper) (n : Nat) : Bool := (List.range l.length).all fun r => decide (r < n) || ((decide (r ≤ n) || waitsB md l r (r - 1)) && (List.range l.length).all fun j => !waitsB md l r j || decide (j < r)) && match l[r]? with
  | some o => o.after.all fun e => !Region.binds md e || decide (e.on < r)
  | none => true
theorem seq_waits {l : List Oper} {n : Nat} (h : seqB md l n = true) (r : Nat) (hr : r < l.length) (hn : n ≤ r) : (n < r → waits md l.toArray r (r - 1)) ∧ ∀ j, waits md l.toArray r j → j < r := by
  unfold seqB at h
  have h1 := (List.all_eq_true.1 h) r (List.mem_range.2 hr)
  simp only [Bool.or_eq_true, Bool.and_eq_true, decide_eq_true_eq] at h1
  rcases h1 with h1 | ⟨⟨h1, _⟩, h3⟩
  · omega
  · refine ⟨fun h2 => ?_, ?_⟩
    · rcases h1 with h1 | h1
      · omega
      · exact waitsB_iff.1 h1
    · rintro j ⟨o, ho, e, he, hb, rfl⟩
      rw [List.getElem?_toArray] at ho
      rw [ho] at h3
      simp only [Array.all_eq_true_iff_forall_mem] at h3
      have h4 := h3 e he
      rw [hb] at h4
      simpa using h4

theorem any_seq {l : List Oper} {Q : Exit → Act → World → Prop} {n : Nat} (hs : seqB md l n = true) : ∀ (rest : List Oper) (s : Nat) (a : Act) (w : World), (∀ j, rest[j]? = l[s + j]?) → n ≤ s → rest.length + s = l.length →
    wpList P l.toArray Q rest a w → wpAny P md l.toArray Q rest.length (padded (Array.replicate s true) (l.length - s)) a w := by
  intro rest
  induction rest with
  | nil =>
    intro s a w _ hns hlen h
    refine ⟨List.eq_nil_iff_forall_not_mem.2 fun i hi => ?_, h⟩
    obtain ⟨h1, h2, _⟩ := ready_iff.1 hi
    have h3 : i < l.length := by simpa using h1
    simp at hlen
    rw [padded_t (by simp; omega)] at h2
    simp [show i < s by omega] at h2
  | cons o rest ih =>
    intro s a w hl hns hlen h
    have hsl : s < l.length := by simp at hlen; omega
    have ho : l[s]? = some o := by simpa using (hl 0).symm
    have hrs : s ∈ Region.ready md l.toArray (padded (Array.replicate s true) (l.length - s)) := by
      refine ready_iff.2 ⟨by simpa using hsl, ?_, fun j hj => ?_⟩
      · unfold padded
        rw [Array.getD_eq_getD_getElem?, Array.getElem?_append_right (by simp)]
        simp [show 0 < l.length - s by omega]
      · have := (seq_waits hs s hsl hns).2 j hj
        rw [padded_f]
        simp [this]
    have honly : ∀ i, i ∈ Region.ready md l.toArray (padded (Array.replicate s true) (l.length - s)) → i = s := by
      intro i hi
      obtain ⟨h1, h2, h3⟩ := ready_iff.1 hi
      have h1' : i < l.length := by simpa using h1
      rcases Nat.lt_trichotomy i s with h4 | h4 | h4
      · rw [padded_t (by simpa using h4)] at h2
        simp [h4] at h2
      · exact h4
      · have := h3 (i - 1) ((seq_waits hs i h1' (by omega)).1 (by omega))
        rw [padded_f] at this
        simp [show ¬ i - 1 < s by omega] at this
    refine ⟨fun h0 => (by rw [h0] at hrs; cases hrs), fun i hi => ?_⟩
    obtain rfl := honly i hi
    have hset : (padded (Array.replicate i true) (l.length - i)).setIfInBounds i true = padded (Array.replicate (i + 1) true) (l.length - (i + 1)) := by
      unfold padded
      apply Array.ext
      · simp; omega
      · intro j h1 h2
        simp at h1 h2
        rw [Array.getElem_setIfInBounds (by simp; omega)]
        by_cases hj : i = j
        · simp [hj]
        · rw [if_neg hj]
          rcases Nat.lt_or_ge j i with h3 | h3
          · rw [Array.getElem_append_left (by simpa using h3), Array.getElem_append_left (by simp; omega)]
            simp
          · rw [Array.getElem_append_right (by simpa using h3), Array.getElem_append_right (by simp; omega)]
            simp
    have hnext : ∀ a' w', wpList P l.toArray Q rest a' w' → wpAny P md l.toArray Q rest.length ((padded (Array.replicate i true) (l.length - i)).setIfInBounds i true) a' w' := by
      intro a' w' h'
      rw [hset]
      exact ih (i + 1) a' w' (fun j => by have := hl (j + 1); simpa [Nat.add_assoc, Nat.add_comm 1 j] using this) (by omega) (by simp at hlen; omega) h'
    unfold wpOp
    rw [List.getElem?_toArray, ho]
    unfold wpList at h
    by_cases hw : Region.wanted o (yielded l.toArray a.tmps) = true
    · simp only [hw, if_true] at h ⊢
      exact h.imp (fun h => Oper.wp_mono hnext h) id
    · simp only [hw] at h ⊢
      exact hnext _ _ h

/-- **A region that draws its order: its first n operations quiet in the class C, the rest in order.** -/
theorem region_prefix {id : Nat} {Q : Exit → Act → World → Prop} {a : Act} {w : World} {l : List Oper} (n : Nat) (hm : P.follows .mixedOrders = true) (hn : n ≤ l.length) (hno : Region.noSelect (l.take n).toArray = true)
    (hlex : Region.lexFrom .any (l.take n).toArray n 0 (Array.replicate n false) = true) (hg : gateB .any l 0 n = true) (hs : seqB .any l n = true) (hC : C { w with drawn := w.drawn + 1 })
    (h : wpQuiet P (l.take n).toArray C (fun a' => ∀ w', C w' → wpList P l.toArray Q (l.drop n) a' w') (l.take n) a) : (Code.region id l.toArray true).wp P Q a w := by
  refine wp_region_any hm ?_
  have hlt : (l.take n).length = n := by simp; omega
  have h1 := wpAnyQ_lex (P := P) (C := C) (md := .any) hno (l.take n) 0 (Array.replicate n false) a (by simp) (by rw [hlt]; exact hlex) h
  rw [hlt] at h1
  have h2 := any_prefix (P := P) (C := C) (Q := Q) (f := (l.drop n).length) (Qf := fun a' => ∀ w', C w' → wpList P l.toArray Q (l.drop n) a' w') hg hn (fun a2 w2 hw2 h3 => any_seq hs (l.drop n) n a2 w2 (fun j => by simp) (Nat.le_refl _) (by simp; omega) (h3 w2 hw2))
    n (Array.replicate n false) a (by simp) (fun i j hi => by simp [Array.getD_eq_getD_getElem?, Array.getElem?_replicate] at hi; split at hi <;> simp at hi) (fun j hj => by omega) (by simp) h1 _ hC
  have e : padded (Array.replicate n false) (l.length - n) = Array.replicate l.toArray.size false := by
    unfold padded
    rw [Array.replicate_append_replicate]
    congr 1
    simp
    omega
  rw [e] at h2
  have e2 : n + (l.drop n).length = l.toArray.size := by simp; omega
  rwa [e2] at h2

/-- The same where the first operation of all only yields (it may come up whenever). -/
theorem region_prefix1 {id : Nat} {Q : Exit → Act → World → Prop} {a : Act} {w : World} {l : List Oper} (n : Nat) (o0 : Oper) (v : Value) (hm : P.follows .mixedOrders = true) (hn : n ≤ l.length) (h0n : 0 < n) (hno : Region.noSelect l.toArray = true)
    (ho : l[0]? = some o0) (hy : Yields P l.toArray o0 v a) (hr : (Region.ready .any l.toArray (Array.replicate l.toArray.size false)).contains 0 = true) (hf : Region.free .any l.toArray (Array.replicate l.toArray.size false) 0 = true)
    (hlex : Region.lexFrom .any (l.take n).toArray (n - 1) 1 ((Array.replicate n false).setIfInBounds 0 true) = true) (hg : gateB .any l 1 n = true) (hs : seqB .any l n = true) (hC : C { w with drawn := w.drawn + 1 })
    (h : wpQuiet P (l.take n).toArray C (fun a' => ∀ w', C w' → wpList P l.toArray (fun e a w => e = .normal ∧ Q .normal a w) (l.drop n) a' w') ((l.take n).drop 1) (a.put o0.dst v)) : (Code.region id l.toArray true).wp P Q a w := by
  refine Code.wp_mono (Q := fun e a w => e = .normal ∧ Q .normal a w) (fun e a w ⟨he, hq⟩ => by rw [he]; exact hq) (wp_region_any hm ?_)
  have hlt : ((l.take n).drop 1).length = n - 1 := by simp; omega
  have hno1 : Region.noSelect (l.take n).toArray = true := by
    unfold Region.noSelect at hno ⊢
    rw [Array.all_eq_true_iff_forall_mem] at hno ⊢
    intro x hx
    exact hno x (by simpa using List.mem_of_mem_take (by simpa using hx))
  have h1 := wpAnyQ_lex (P := P) (C := C) (md := .any) hno1 ((l.take n).drop 1) 1 ((Array.replicate n false).setIfInBounds 0 true) (a.put o0.dst v) (fun j => by rw [Nat.add_comm 1 j]; simp) (by rw [hlt]; exact hlex) h
  rw [hlt] at h1
  have hcnt := count_set (L := Array.replicate n false) (i := 0) (by simpa using h0n) (by simp [h0n])
  have hfst : ∀ i, ((Array.replicate n false).setIfInBounds 0 true).getD i false = true → i = 0 := by
    intro i hi
    rcases Nat.eq_zero_or_pos i with h | h
    · exact h
    · rw [Array.getD_eq_getD_getElem?, Array.getElem?_setIfInBounds_ne (by omega)] at hi
      simp [Array.getElem?_replicate] at hi
      split at hi <;> simp at hi
  have h2 := any_prefix (P := P) (C := C) (Q := fun e a w => e = .normal ∧ Q .normal a w) (f := (l.drop n).length) (Qf := fun a' => ∀ w', C w' → wpList P l.toArray (fun e a w => e = .normal ∧ Q .normal a w) (l.drop n) a' w') hg hn (fun a2 w2 hw2 h3 => any_seq hs (l.drop n) n a2 w2 (fun j => by simp) (Nat.le_refl _) (by simp; omega) (h3 w2 hw2))
    (n - 1) ((Array.replicate n false).setIfInBounds 0 true) (a.put o0.dst v) (by simp) (fun i j hi hw => by
      obtain rfl := hfst i hi
      have := (gate_before hg 0 h0n).2.2 j hw
      omega) (fun j hj _ => by
      obtain rfl : j = 0 := by omega
      simp [Array.getD_eq_getD_getElem?, h0n]) (by simp at hcnt ⊢; omega) h1 _ hC
  rw [← padded_set (by simpa using h0n)] at h2
  have e : padded (Array.replicate n false) (l.length - n) = Array.replicate l.toArray.size false := by
    unfold padded
    rw [Array.replicate_append_replicate]
    congr 1
    simp
    omega
  rw [e] at h2
  have e2 : l.toArray.size = (n - 1 + (l.drop n).length) + 1 := by simp; omega
  have e3 : ∀ m, m = l.toArray.size → wpAny P .any l.toArray (fun e a w => e = .normal ∧ Q .normal a w) m (Array.replicate l.toArray.size false) a { w with drawn := w.drawn + 1 } := by
    intro m hm2
    rw [e2] at hm2
    subst hm2
    exact wpAny_first (by simpa using ho) (Region.noSelect_spec hno) (fun c a w hx => by cases hx.1) _ _ _ _ (Region.free_spec (by simpa using ho) hf) (by simpa using hr) hy h2
  exact e3 _ rfl
end

/-- append, in a plain walk: where the new slice lies is told. -/
theorem pl_append {P : Program} {Q : Exit → Act → World → Prop} {a : Act} (w : World) {ops : Array Oper} {rest : List Oper} {o : Oper}
    (hg : o.guard = none) (s x : Operand) (t : TypeId) (hop : o.op = Op.call { callee := Callee.builtin Builtin.append, args := #[s, x], argTypes := #[t, t] })
    (base : Nat) (e : TypeId) (i : TypeInfo) (z : Value) (size bytes : Nat) (h1 : P.underlying t = some (.slice e)) (h2 : P.info? e = some i) (h3 : i.zero = some z) (h4 : i.size = size) (h5 : i.bytes = bytes) (h6 : z.cells.size = size) (h7 : 0 < size)
    (v : Value) (k : Nat) (xs : List Value) (hs : a.eval s = v) (hown : w.ownsRow base e size v k xs) (ad : Addr) (m c : Nat) (news : List Value) (hx : a.eval x = .slice (some ad) m c) (hn : news.length = m * size)
    (hc : ∀ j u, news[j]? = some u → w.cell? (ad.add j) = some u) (h1c : ∀ u ∈ news, u.oneCell' = true) (hm : 0 < m) (b1 : k + m ≤ maxLen) (b2 : (k + m) * bytes ≤ 140737488355328) (b3 : base ≤ w.heap.size)
    (hK : ∀ g cap w', w'.ownsRow base e size (.slice (some ⟨g, 0, none⟩) (k + m) cap) (k + m) (xs ++ news) → w.grownBy w' v.ownBlock → (v.ownBlock = some g ∨ w.heap.size ≤ g) → g < w'.heap.size → wpList P ops Q rest (a.put o.dst (.slice (some ⟨g, 0, none⟩) (k + m) cap)) w') :
    wpList P ops Q (o :: rest) a w := by
  unfold wpList
  have hw : Region.wanted o (yielded ops a.tmps) = true := by simp [Region.wanted, hg]
  rw [if_pos hw]
  exact .inl (wp_append_lies w s x t hop base e i z size bytes h1 h2 h3 h4 h5 h6 h7 v k xs hs hown ad m c news hx hn hc h1c hm b1 b2 b3 w.heap.size rfl
    (fun g cap w' r1 r2 r3 r4 => hK g cap w' r1 r2 (r3.imp id (fun h => by omega)) r4))
end Go.KP
