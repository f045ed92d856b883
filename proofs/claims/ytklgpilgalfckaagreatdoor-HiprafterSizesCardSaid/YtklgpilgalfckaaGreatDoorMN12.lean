/-
  Texts laid together.
-/
import Derived.Test.YtklgpilgalfckaaGreatDoorMN11
import Derived.Test.YtklgpilgalfckaaGreatDoorMN9
import Derived.Test.YtklgpilgalfckaaGreatDoorMN5
import Derived.Test.YtklgpilgalfckaaGreatDoorMN3
import Derived.Laws.BytesArg
import Derived.Laws.AppendOwnNone
import Derived.BigQuiet
set_option maxRecDepth 100000
set_option maxHeartbeats 16000000
namespace Go.Proofs.YtklgpilgalfckaaGreatDoor
open Go.RowKit Go.KP Go.KI Go.Shelf
attribute [local go_sem] Oper.semAt_some

theorem Mem.sub {k f o : Int} {a b : V3} {wd dp : Int} (h : Mem k f o a b wd dp) (B : Nat) (w : World) (hB : B ≤ w.heap.size) (hT : PQ B w) :
    Calls Tryz.prog 66 #[vecV b, vecV a] w (Ret w (.tuple #[vecV (vsub b a), .int .i64 0])) :=
  (vSub_O h.fb h.fa B w hB hT).mono fun _ _ hr => ResV.of (sub2_sz h.hb h.ha (by rw [most_eq]; omega)) hr
theorem Mem.szd {k f o : Int} {a b : V3} {wd dp : Int} (h : Mem k f o a b wd dp) : szV 73 (vsub b a) := szV_sub h.hb h.ha
theorem Mem.fd {k f o : Int} {a b : V3} {wd dp : Int} (h : Mem k f o a b wd dp) : fitsV (vsub b a) := szV_fits h.szd (by rw [most_eq]; omega)
theorem heap4 (w : World) (o1 o2 o3 o4 : Obj) : ((((w.alloc o1).alloc o2).alloc o3).alloc o4).heap[w.heap.size]? = some o1 ∧ ((((w.alloc o1).alloc o2).alloc o3).alloc o4).heap[w.heap.size + 1]? = some o2 ∧ ((((w.alloc o1).alloc o2).alloc o3).alloc o4).heap[w.heap.size + 2]? = some o3 ∧ Below w.heap.size w ((((w.alloc o1).alloc o2).alloc o3).alloc o4) := by
  obtain ⟨a1, a2, a3, a4, a5⟩ := heap3 w o1 o2 o3
  obtain ⟨_, _, b3⟩ := heap1 (((w.alloc o1).alloc o2).alloc o3) o4
  rw [a4] at b3
  exact ⟨below_blk b3 a1 (by omega), below_blk b3 a2 (by omega), below_blk b3 a3 (by omega), a5.trans (b3.mono (by omega))⟩
theorem hofS {g : Nat} (hen : ∀ args w, (callFunc g args).run Tryz.prog w = .ok (.enter g args) w) {k f o : Int} {a b : V3} {wd dp : Int} (h : Mem k f o a b wd dp) {x y z : ByteArray} {B : Nat} (HG : ∀ w, B ≤ w.heap.size → PQ B w → Calls Tryz.prog g #[vecV (vsub b a)] w (Ret w (.tuple #[spotV x y z, .int .i64 0]))) (w : World) (hB : B ≤ w.heap.size) (hT : PQ B w) :
    Calls Tryz.prog 60 #[.agg #[.func (.func g) #[] #[]], memV k f o a b wd dp] w (Ret w (.tuple #[spotV x y z, .int .i64 0])) := by
  have HT := hide hT
  have HC := hide (fun w hB hT => hCheck_ok h B w hB hT)
  have HS := hide (fun w hB hT => h.sub B w hB hT)
  have HG := hide HG
  obtain ⟨d, hd⟩ : ∃ d, d = vsub b a := ⟨_, rfl⟩
  rw [← hd] at HS HG
  have X0 := hide (heap4 w (.cells #[.func (.func g) #[] #[]] 110) (memO k f o a b wd dp) (spotO ⟨#[]⟩ ⟨#[]⟩ ⟨#[]⟩) (spotO ⟨#[]⟩ ⟨#[]⟩ ⟨#[]⟩))
  clear h hT hd
  go_enter Tryz.func60, Tryz.ntmps60
  go_wp2_with fail
  refine (HC.out _ (Nat.le_trans hB X0.out.2.2.2.size) (HT.out.on X0.out.2.2.2 hB)).mono ?_
  rintro e w1 ⟨rfl, hb1⟩
  have G1 := hide (below_blk hb1 X0.out.1 (lt_blk X0.out.1))
  have G2 := hide (below_blk hb1 X0.out.2.1 (lt_blk X0.out.2.1))
  have G4 := hide (below_blk hb1 X0.out.2.2.1 (lt_blk X0.out.2.2.1))
  have HB1 := hide (X0.out.2.2.2.trans (hb1.mono X0.out.2.2.2.size))
  clear hb1
  have k3 := cell_blk G2.out 3
  have k4 := cell_blk G2.out 4
  have k5 := cell_blk G2.out 5
  have k6 := cell_blk G2.out 6
  have k7 := cell_blk G2.out 7
  have k8 := cell_blk G2.out 8
  have l2 := lt_blk G2.out
  go_wp2_with fail
  refine (HS.out _ (Nat.le_trans hB HB1.out.size) (HT.out.on HB1.out hB)).mono ?_
  rintro e w2 ⟨rfl, hb2⟩
  have X2 := hide (heap1 w2 (vecO d))
  have G3 := hide (below_blk (hb2.trans (X2.out.2.2.mono hb2.size)) G1.out (lt_blk G1.out))
  have G4 := hide (below_blk (hb2.trans (X2.out.2.2.mono hb2.size)) G4.out (lt_blk G4.out))
  have HB2 := hide (HB1.out.trans ((hb2.trans (X2.out.2.2.mono hb2.size)).mono HB1.out.size))
  clear hb2 k3 k4 k5 k6 k7 k8 l2 G1 G2
  have k0 := cell_blk G3.out 0
  have l0 := lt_blk G3.out
  go_wp2_with fail
  refine (HG.out _ (Nat.le_trans hB HB2.out.size) (HT.out.on HB2.out hB)).mono ?_
  rintro e w3 ⟨rfl, hb3⟩
  have HB3 := hide (HB2.out.trans (hb3.mono HB2.out.size))
  have G5 := hide (below_blk hb3 G4.out (lt_blk G4.out))
  clear hb3 k0 l0
  have k0 := cell_blk G5.out 0
  have k1 := cell_blk G5.out 1
  have k2 := cell_blk G5.out 2
  have f0 := froz_blk G5.out 0
  have f1 := froz_blk G5.out 1
  have f2 := froz_blk G5.out 2
  have l6 := lt_blk G5.out
  go_wp2_with fail
  exact exit_spotE rfl (set3c (set3b (set3a G5.out _) _) _) rfl rfl rfl ⟨rfl, below_spot HB3.out (show w.heap.size ≤ w.heap.size + 1 + 1 by omega) _ _ _⟩
theorem hofN {g : Nat} (hen : ∀ args w, (callFunc g args).run Tryz.prog w = .ok (.enter g args) w) {k f o : Int} {a b : V3} {wd dp : Int} (h : Mem k f o a b wd dp) {x : ByteArray} {B : Nat} (HG : ∀ w, B ≤ w.heap.size → PQ B w → Calls Tryz.prog g #[vecV (vsub b a)] w (Ret w (.tuple #[.string x, .int .i64 0]))) (w : World) (hB : B ≤ w.heap.size) (hT : PQ B w) :
    Calls Tryz.prog 64 #[.agg #[.func (.func g) #[] #[]], memV k f o a b wd dp] w (Ret w (.tuple #[.string x, .int .i64 0])) := by
  have HT := hide hT
  have HC := hide (fun w hB hT => hCheck_ok h B w hB hT)
  have HS := hide (fun w hB hT => h.sub B w hB hT)
  have HG := hide HG
  obtain ⟨d, hd⟩ : ∃ d, d = vsub b a := ⟨_, rfl⟩
  rw [← hd] at HS HG
  have X0 := hide (heap2 w (.cells #[.func (.func g) #[] #[]] 113) (memO k f o a b wd dp))
  clear h hT hd
  go_enter Tryz.func64, Tryz.ntmps64
  go_wp2_with fail
  refine (HC.out _ (Nat.le_trans hB X0.out.2.2.2.size) (HT.out.on X0.out.2.2.2 hB)).mono ?_
  rintro e w1 ⟨rfl, hb1⟩
  have G1 := hide (below_blk hb1 X0.out.1 (lt_blk X0.out.1))
  have G2 := hide (below_blk hb1 X0.out.2.1 (lt_blk X0.out.2.1))
  have HB1 := hide (X0.out.2.2.2.trans (hb1.mono X0.out.2.2.2.size))
  clear hb1
  have k3 := cell_blk G2.out 3
  have k4 := cell_blk G2.out 4
  have k5 := cell_blk G2.out 5
  have k6 := cell_blk G2.out 6
  have k7 := cell_blk G2.out 7
  have k8 := cell_blk G2.out 8
  have l2 := lt_blk G2.out
  go_wp2_with fail
  refine (HS.out _ (Nat.le_trans hB HB1.out.size) (HT.out.on HB1.out hB)).mono ?_
  rintro e w2 ⟨rfl, hb2⟩
  have X2 := hide (heap1 w2 (vecO d))
  have G3 := hide (below_blk (hb2.trans (X2.out.2.2.mono hb2.size)) G1.out (lt_blk G1.out))
  have HB2 := hide (HB1.out.trans ((hb2.trans (X2.out.2.2.mono hb2.size)).mono HB1.out.size))
  clear hb2 k3 k4 k5 k6 k7 k8 l2 G1 G2
  have k0 := cell_blk G3.out 0
  have l0 := lt_blk G3.out
  go_wp2_with fail
  refine (HG.out _ (Nat.le_trans hB HB2.out.size) (HT.out.on HB2.out hB)).mono ?_
  rintro e w3 ⟨rfl, hb3⟩
  have HB3 := hide (HB2.out.trans (hb3.mono HB2.out.size))
  clear hb3 k0 l0
  go_wp2_with fail
  refine bodyPost_ret (results_tmp2 rfl _ _ _) rfl ?_
  exact ⟨rfl, HB3.out⟩
theorem hdir1_any (d : V3) (w : World) :
    Calls Tryz.prog 59 #[vecV d] w (Ret w (.tuple #[vecV d, .int .i64 0])) := by
  go_enter Tryz.func59, Tryz.ntmps59
  go_wp2_with fail
  obtain ⟨_, h2, _, h4⟩ := heap2 w (vecO d) (vecO d)
  exact exit_spotE rfl h2 rfl rfl rfl ⟨rfl, h4⟩
theorem hrise1_any (d : V3) (w : World) :
    Calls Tryz.prog 63 #[vecV d] w (Ret w (.tuple #[.string (T d.z), .int .i64 0])) := by
  go_enter Tryz.func63, Tryz.ntmps63
  go_wp2_with fail
  refine bodyPost_ret (results_tmp2 rfl _ _ _) rfl ?_
  exact ⟨rfl, (heap1 w (vecO d)).2.2⟩
def vside (d : V3) : V3 := ⟨0 - d.y, d.x, 0⟩
theorem hside1_any {d : V3} (hd : szV 73 d) (B : Nat) (w : World) (hB : B ≤ w.heap.size) (hT : PQ B w) :
    Calls Tryz.prog 61 #[vecV d] w (Ret w (.tuple #[vecV (vside d), .int .i64 0])) := by
  have HT := hide hT
  have s0 : sz 1 (0 : Rat) := ⟨by decide, by decide⟩
  have HS := hide (fun w hB hT => (qsub_O (x := 0) (y := d.y) (sz_fits s0 (by rw [most_eq]; omega)) (sz_fits hd.2.1 (by rw [most_eq]; omega)) B w hB hT).mono fun _ _ hr => ResO.of (subO_sz s0 hd.2.1 (by rw [most_eq]; omega)) hr)
  rw [T0] at HS
  have X0 := hide (heap2 w (vecO d) (spotO ⟨#[]⟩ ⟨#[]⟩ ⟨#[]⟩))
  have hV : vecV (vside d) = .agg #[.string (T (0 - d.y)), .string (T d.x), .string ⟨#[48]⟩] := by
    show Value.agg #[.string (T (0 - d.y)), .string (T d.x), .string (T 0)] = _
    rw [T0]
  rw [hV]
  obtain ⟨Y, hY⟩ : ∃ Y, Y = T (0 - d.y) := ⟨_, rfl⟩
  rw [← hY] at HS ⊢
  clear hV hY hd hT s0
  go_enter Tryz.func61, Tryz.ntmps61
  go_wp2_with fail
  refine (HS.out _ (Nat.le_trans hB X0.out.2.2.2.size) (HT.out.on X0.out.2.2.2 hB)).mono ?_
  rintro e w1 ⟨rfl, hb1⟩
  have G1 := hide (below_blk hb1 X0.out.1 (lt_blk X0.out.1))
  have G5 := hide (below_blk hb1 X0.out.2.1 (lt_blk X0.out.2.1))
  have HB1 := hide (X0.out.2.2.2.trans (hb1.mono X0.out.2.2.2.size))
  clear hb1
  have m0 := cell_blk G1.out 0
  have l1 := lt_blk G1.out
  have k0 := cell_blk G5.out 0
  have k1 := cell_blk G5.out 1
  have k2 := cell_blk G5.out 2
  have f0 := froz_blk G5.out 0
  have f1 := froz_blk G5.out 1
  have f2 := froz_blk G5.out 2
  have l6 := lt_blk G5.out
  go_wp2_with fail
  exact exit_spotE rfl (set3c (set3b (set3a G5.out _) _) _) rfl rfl rfl ⟨rfl, below_spot HB1.out (show w.heap.size ≤ w.heap.size + 1 by omega) _ _ _⟩
theorem hDirection_to {k f o : Int} {a b : V3} {wd dp : Int} (h : Mem k f o a b wd dp) (B : Nat) (w : World) (hB : B ≤ w.heap.size) (hT : PQ B w) :
    Calls Tryz.prog 28 #[memV k f o a b wd dp] w (Ret w (.tuple #[vecV (vsub b a), .int .i64 0])) := by
  have HT := hide hT
  have HQ := hide (fun w hB hT => hofS (enters_of Tryz.func59 (by kernel_rfl) rfl) h (B := B) (fun w hB hT => hdir1_any _ w) w hB hT)
  have X0 := hide (heap2 w (memO k f o a b wd dp) (spotO ⟨#[]⟩ ⟨#[]⟩ ⟨#[]⟩))
  obtain ⟨r, hr⟩ : ∃ r, r = vsub b a := ⟨_, rfl⟩
  have HQ : Hid (∀ w, B ≤ w.heap.size → PQ B w → Calls Tryz.prog 60 #[.agg #[.func (.func 59) #[] #[]], memV k f o a b wd dp] w (Ret w (.tuple #[vecV r, .int .i64 0]))) := hide (by rw [hr]; exact HQ.out)
  rw [← hr]
  clear h hT hr
  go_enter Tryz.func28, Tryz.ntmps28
  go_wp2_with fail
  refine (HQ.out _ (Nat.le_trans hB X0.out.2.2.2.size) (HT.out.on X0.out.2.2.2 hB)).mono ?_
  rintro e w1 ⟨rfl, hb1⟩
  have G5 := hide (below_blk hb1 X0.out.2.1 (lt_blk X0.out.2.1))
  have HB1 := hide (X0.out.2.2.2.trans (hb1.mono X0.out.2.2.2.size))
  clear hb1
  have k0 := cell_blk G5.out 0
  have k1 := cell_blk G5.out 1
  have k2 := cell_blk G5.out 2
  have f0 := froz_blk G5.out 0
  have f1 := froz_blk G5.out 1
  have f2 := froz_blk G5.out 2
  have l6 := lt_blk G5.out
  go_wp2_with fail
  exact exit_spotE rfl (set3c (set3b (set3a G5.out _) _) _) rfl rfl rfl ⟨rfl, below_spot HB1.out (show w.heap.size ≤ w.heap.size + 1 by omega) _ _ _⟩
theorem hSide_to {k f o : Int} {a b : V3} {wd dp : Int} (h : Mem k f o a b wd dp) (B : Nat) (w : World) (hB : B ≤ w.heap.size) (hT : PQ B w) :
    Calls Tryz.prog 29 #[memV k f o a b wd dp] w (Ret w (.tuple #[vecV (vside (vsub b a)), .int .i64 0])) := by
  have HT := hide hT
  have HQ := hide (fun w hB hT => hofS (enters_of Tryz.func61 (by kernel_rfl) rfl) h (B := B) (fun w hB hT => hside1_any h.szd B w hB hT) w hB hT)
  have X0 := hide (heap2 w (memO k f o a b wd dp) (spotO ⟨#[]⟩ ⟨#[]⟩ ⟨#[]⟩))
  obtain ⟨r, hr⟩ : ∃ r, r = vside (vsub b a) := ⟨_, rfl⟩
  have HQ : Hid (∀ w, B ≤ w.heap.size → PQ B w → Calls Tryz.prog 60 #[.agg #[.func (.func 61) #[] #[]], memV k f o a b wd dp] w (Ret w (.tuple #[vecV r, .int .i64 0]))) := hide (by rw [hr]; exact HQ.out)
  rw [← hr]
  clear h hT hr
  go_enter Tryz.func29, Tryz.ntmps29
  go_wp2_with fail
  refine (HQ.out _ (Nat.le_trans hB X0.out.2.2.2.size) (HT.out.on X0.out.2.2.2 hB)).mono ?_
  rintro e w1 ⟨rfl, hb1⟩
  have G5 := hide (below_blk hb1 X0.out.2.1 (lt_blk X0.out.2.1))
  have HB1 := hide (X0.out.2.2.2.trans (hb1.mono X0.out.2.2.2.size))
  clear hb1
  have k0 := cell_blk G5.out 0
  have k1 := cell_blk G5.out 1
  have k2 := cell_blk G5.out 2
  have f0 := froz_blk G5.out 0
  have f1 := froz_blk G5.out 1
  have f2 := froz_blk G5.out 2
  have l6 := lt_blk G5.out
  go_wp2_with fail
  exact exit_spotE rfl (set3c (set3b (set3a G5.out _) _) _) rfl rfl rfl ⟨rfl, below_spot HB1.out (show w.heap.size ≤ w.heap.size + 1 by omega) _ _ _⟩
theorem hRise_to {k f o : Int} {a b : V3} {wd dp : Int} (h : Mem k f o a b wd dp) (B : Nat) (w : World) (hB : B ≤ w.heap.size) (hT : PQ B w) :
    Calls Tryz.prog 30 #[memV k f o a b wd dp] w (Ret w (.tuple #[.string (T (vsub b a).z), .int .i64 0])) := by
  have HT := hide hT
  have HQ := hide (fun w hB hT => hofN (enters_of Tryz.func63 (by kernel_rfl) rfl) h (B := B) (fun w _ _ => hrise1_any _ w) w hB hT)
  have X0 := hide (heap1 w (memO k f o a b wd dp))
  obtain ⟨r, hr⟩ : ∃ r, r = T (vsub b a).z := ⟨_, rfl⟩
  rw [← hr] at HQ ⊢
  clear h hT hr
  go_enter Tryz.func30, Tryz.ntmps30
  go_wp2_with fail
  refine (HQ.out _ (Nat.le_trans hB X0.out.2.2.size) (HT.out.on X0.out.2.2 hB)).mono ?_
  rintro e w1 ⟨rfl, hb1⟩
  have HB1 := hide (X0.out.2.2.trans (hb1.mono X0.out.2.2.size))
  clear hb1
  go_wp2_with fail
  refine bodyPost_ret (results_tmp2 rfl _ _ _) rfl ?_
  exact ⟨rfl, HB1.out⟩
end Go.Proofs.YtklgpilgalfckaaGreatDoor
namespace Go.KI
open Go
theorem dv_cons (c : UInt8) (r : List UInt8) : dv (c :: r) = (c.toNat - 48) * 10 ^ r.length + dv r := by
  have h := dv_append [c] r
  have h2 : dv [c] = c.toNat - 48 := by simp [dv]
  rw [h2] at h
  exact h
theorem drop_set_here {L : List UInt8} {p : Nat} (c : UInt8) (hp : p < L.length) : (L.set p c).drop p = c :: L.drop (p + 1) := by
  rw [List.drop_eq_getElem_cons (by rw [List.length_set]; exact hp)]
  simp [List.drop_set_of_lt]
structure DigsAt (V done : Nat) (L : List UInt8) : Prop where
  le : done ≤ L.length
  dg : ∀ c ∈ L.drop (L.length - done), isDg c = true
  val : dv (L.drop (L.length - done)) = V % 10 ^ done
theorem DigsAt.start (V : Nat) (L : List UInt8) : DigsAt V 0 L := by
  refine ⟨Nat.zero_le _, ?_, ?_⟩
  · simp
  · simp [dv_nil, Nat.mod_one]
theorem DigsAt.step {V done p d : Nat} {L : List UInt8} (h : DigsAt V done L) (hp : p + done + 1 = L.length) (hd : V / 10 ^ done % 10 = d) : DigsAt V (done + 1) (L.set p (UInt8.ofNat (48 + d))) := by
  have hd10 : d < 10 := by rw [← hd]; exact Nat.mod_lt _ (by omega)
  have e1 : L.length - done = p + 1 := by omega
  have e2 : L.length - (done + 1) = p := by omega
  have h1 := h.dg
  have h2 := h.val
  rw [e1] at h1 h2
  refine ⟨by rw [List.length_set]; omega, ?_, ?_⟩
  · rw [List.length_set, e2, drop_set_here _ (by omega)]
    intro c hc
    rcases List.mem_cons.1 hc with h3 | h3
    · rw [h3, isDg_iff, dg_nat _ hd10]
      omega
    · exact h1 c h3
  · rw [List.length_set, e2, drop_set_here _ (by omega), dv_cons, dg_nat _ hd10, h2, List.length_drop, Nat.pow_succ, Nat.mod_mul, hd, show L.length - (p + 1) = done by omega, show 48 + d - 48 = d by omega, Nat.mul_comm d]
    omega
end Go.KI
namespace Go.Proofs.YtklgpilgalfckaaGreatDoor
open Go.RowKit Go.KP Go.KI Go.Shelf
attribute [local go_sem] Oper.semAt_some

end Go.Proofs.YtklgpilgalfckaaGreatDoor
namespace Go.KI
open Go
theorem DigsAt.fin {V done p : Nat} {L : List UInt8} (h : DigsAt V (done + 1) L) (hp : p + done + 1 = L.length) {A : Nat} (hA : A = V / 10 ^ done) (h10 : A / 10 = 0) (h0 : done ≠ 0 → A ≠ 0) (hc : L[p]? = some (UInt8.ofNat (48 + A % 10))) : L.drop p = Lib.decDigits V := by
  have e2 : L.length - (done + 1) = p := by omega
  have h1 := h.dg
  have h2 := h.val
  rw [e2] at h1 h2
  have hV : V < 10 ^ (done + 1) := by
    rw [hA, Nat.div_div_eq_div_mul, ← Nat.pow_succ] at h10
    exact Nat.lt_of_div_eq_zero (Nat.pow_pos (by omega)) h10
  rw [Nat.mod_eq_of_lt hV] at h2
  have hh : (L.drop p).head? = some (UInt8.ofNat (48 + A % 10)) := by rw [List.head?_drop]; exact hc
  have h3 := dec_of (l := L.drop p) (fun e => by rw [e] at hh; simp at hh) h1 (fun hl he => by
    rw [hh] at he
    injection he with he
    have h4 := congrArg UInt8.toNat he
    rw [dg_nat _ (Nat.mod_lt _ (by omega))] at h4
    rw [List.length_drop] at hl
    have h5 := h0 (by omega)
    have h6 : (48 : UInt8).toNat = 48 := rfl
    omega)
  rw [h2] at h3
  exact h3
end Go.KI
namespace Go.Proofs.YtklgpilgalfckaaGreatDoor
open Go.RowKit Go.KP Go.KI Go.Shelf
attribute [local go_sem] Oper.semAt_some

open Go.RowKit Go.KP Go.KI Go.Shelf
attribute [local go_sem] Oper.semAt_some

structure RShortAt (x : List Nat) (d k : Nat) (Q : List Nat) (R : Nat) : Prop where
  len : Q.length = x.length
  lt : Lt 1000000 Q
  rest : R < d
  val : lv 1000000 (x.drop (x.length - k)) = lv 1000000 (Q.drop (x.length - k)) * d + R
theorem RShortAt.start (x : List Nat) {d : Nat} (hd : 1 ≤ d) : RShortAt x d 0 (zeros x.length) 0 :=
  ⟨zeros_len _, zeros_lt _ _ (by omega), hd, by rw [Nat.sub_zero, List.drop_length, List.drop_of_length_le (by rw [zeros_len]; exact Nat.le_refl _)]; simp [lv]⟩
theorem RShortAt.step {x : List Nat} {d k R : Nat} {Q : List Nat} (h : RShortAt x d k Q R) (hx : Lt 1000000 x) (hd2 : d < 1000000) (hk : k < x.length) {i : Nat} (hi : i = x.length - 1 - k) :
    lat x i + R * 1000000 < d * 1000000 ∧ (lat x i + R * 1000000) / d < 1000000 ∧ RShortAt x d (k + 1) (Q.set i ((lat x i + R * 1000000) / d)) ((lat x i + R * 1000000) % d) := by
  have hr := h.rest
  have hxi := lat_lt (by omega) hx i
  have h1 : (R + 1) * 1000000 ≤ d * 1000000 := Nat.mul_le_mul_right _ hr
  have h2 : lat x i + R * 1000000 < d * 1000000 := by omega
  have hdp : 0 < d := by omega
  have h3 : (lat x i + R * 1000000) / d < 1000000 := by
    rw [Nat.div_lt_iff_lt_mul hdp]
    omega
  refine ⟨h2, h3, by rw [List.length_set]; exact h.len, lt_set h.lt h3, Nat.mod_lt _ hdp, ?_⟩
  have e1 : x.length - (k + 1) = i := by omega
  have e2 : x.length - k = i + 1 := by omega
  have hv := h.val
  rw [e2] at hv
  rw [e1]
  have hl : i < x.length := by omega
  have hlq : i < Q.length := by rw [h.len]; exact hl
  have f1 : lv 1000000 (x.drop i) = lat x i + 1000000 * lv 1000000 (x.drop (i + 1)) := by
    rw [List.drop_eq_getElem_cons hl, lat_at hl]
    rfl
  have f2 : (Q.set i ((lat x i + R * 1000000) / d)).drop i = ((lat x i + R * 1000000) / d) :: Q.drop (i + 1) := by
    rw [List.drop_eq_getElem_cons (by rw [List.length_set]; exact hlq), List.getElem_set_self, List.drop_set_of_lt (by omega)]
  rw [f1, f2, hv]
  show lat x i + 1000000 * (lv 1000000 (Q.drop (i + 1)) * d + R) = ((lat x i + R * 1000000) / d + 1000000 * lv 1000000 (Q.drop (i + 1))) * d + (lat x i + R * 1000000) % d
  have h4 := Nat.div_add_mod (lat x i + R * 1000000) d
  rw [Nat.add_mul, Nat.mul_comm (_ / d) d]
  have e5 : 1000000 * lv 1000000 (Q.drop (i + 1)) * d = 1000000 * (lv 1000000 (Q.drop (i + 1)) * d) := by rw [Nat.mul_assoc]
  rw [e5]
  omega
theorem RShortAt.done {x : List Nat} {d R : Nat} {Q : List Nat} (h : RShortAt x d x.length Q R) : lv 1000000 Q = lv 1000000 x / d ∧ R = lv 1000000 x % d := by
  have hv := h.val
  rw [Nat.sub_self, List.drop_zero, List.drop_zero] at hv
  have hr := h.rest
  rw [hv]
  constructor
  · rw [Nat.add_comm, Nat.add_mul_div_right _ _ (by omega), Nat.div_eq_of_lt hr, Nat.zero_add]
  · rw [Nat.add_comm, Nat.add_mul_mod_self_right, Nat.mod_eq_of_lt hr]
open Go.RowKit Go.KP Go.KI Go.Shelf

structure RDivAt (x : List Nat) (d k : Nat) (Q : List Nat) (R : Nat) : Prop where
  len : Q.length = x.length
  lt : Lt 1000000 Q
  rest : R < d
  val : lv 1000000 (x.drop (x.length - k)) = lv 1000000 (Q.drop (x.length - k)) * d + R
theorem RDivAt.start (x : List Nat) {d : Nat} (hd : 1 ≤ d) : RDivAt x d 0 (zeros x.length) 0 :=
  ⟨zeros_len _, zeros_lt _ _ (by omega), hd, by rw [Nat.sub_zero, List.drop_length, List.drop_of_length_le (by rw [zeros_len]; exact Nat.le_refl _)]; simp [lv]⟩
theorem RDivAt.step {x : List Nat} {d k R g r : Nat} {Q : List Nat} (h : RDivAt x d k Q R) (hk : k < x.length) {i : Nat} (hi : i = x.length - 1 - k) (hg : g < 1000000) (hr : r < d) (hv : lat x i + 1000000 * R = g * d + r) :
    RDivAt x d (k + 1) (Q.set i g) r := by
  refine ⟨by rw [List.length_set]; exact h.len, lt_set h.lt hg, hr, ?_⟩
  have e1 : x.length - (k + 1) = i := by omega
  have e2 : x.length - k = i + 1 := by omega
  have hw := h.val
  rw [e2] at hw
  rw [e1]
  have hl : i < x.length := by omega
  have hlq : i < Q.length := by rw [h.len]; exact hl
  have f1 : lv 1000000 (x.drop i) = lat x i + 1000000 * lv 1000000 (x.drop (i + 1)) := by
    rw [List.drop_eq_getElem_cons hl, lat_at hl]
    rfl
  have f2 : (Q.set i g).drop i = g :: Q.drop (i + 1) := by
    rw [List.drop_eq_getElem_cons (by rw [List.length_set]; exact hlq), List.getElem_set_self, List.drop_set_of_lt (by omega)]
  rw [f1, f2, hw]
  show lat x i + 1000000 * (lv 1000000 (Q.drop (i + 1)) * d + R) = (g + 1000000 * lv 1000000 (Q.drop (i + 1))) * d + r
  rw [Nat.add_mul, Nat.mul_add, Nat.mul_assoc]
  omega
theorem RDivAt.done {x : List Nat} {d R : Nat} {Q : List Nat} (h : RDivAt x d x.length Q R) : lv 1000000 Q = lv 1000000 x / d ∧ R = lv 1000000 x % d := by
  have hv := h.val
  rw [Nat.sub_self, List.drop_zero, List.drop_zero] at hv
  have hr := h.rest
  rw [hv]
  constructor
  · rw [Nat.add_comm, Nat.add_mul_div_right _ _ (by omega), Nat.div_eq_of_lt hr, Nat.zero_add]
  · rw [Nat.add_comm, Nat.add_mul_mod_self_right, Nat.mod_eq_of_lt hr]
open Go.RowKit Go.KP Go.KI Go.Shelf
attribute [local go_sem] Oper.semAt_some

abbrev bigO (m : Bool) (v : Value) : Obj := .cells #[.bool m, v] 222
open Go.RowKit Go.KP Go.KI Go.Shelf
attribute [local go_sem] Oper.semAt_some

structure RDivSt (nb b : Nat) (mq mr my : Bool) (vq vr vy : Value) (W : World) : Prop where
  q : W.heap[b]? = some (bigO mq vq)
  r : W.heap[b + 1]? = some (bigO mr vr)
  y : W.heap[nb + 1]? = some (bigO my vy)
  lt : nb + 1 < b
theorem RDivSt.on {nb b : Nat} {mq mr my : Bool} {vq vr vy : Value} {W W2 : World} (h : RDivSt nb b mq mr my vq vr vy W) (hb : Below W.heap.size W W2) : RDivSt nb b mq mr my vq vr vy W2 :=
  ⟨below_blk hb h.q (lt_blk h.q), below_blk hb h.r (lt_blk h.r), below_blk hb h.y (lt_blk h.y), h.lt⟩
theorem RDivSt.cells {nb b : Nat} {mq mr my : Bool} {vq vr vy : Value} {W : World} (h : RDivSt nb b mq mr my vq vr vy W) :
    (W.cell? ⟨b, 0, none⟩ = some (.bool mq) ∧ W.cell? ⟨b, 1, none⟩ = some vq) ∧ (W.cell? ⟨b + 1, 0, none⟩ = some (.bool mr) ∧ W.cell? ⟨b + 1, 1, none⟩ = some vr) ∧ (W.cell? ⟨nb + 1, 0, none⟩ = some (.bool my) ∧ W.cell? ⟨nb + 1, 1, none⟩ = some vy) ∧
    (W.frozen? ⟨b, 0, none⟩ = false ∧ W.frozen? ⟨b, 1, none⟩ = false) ∧ (W.frozen? ⟨b + 1, 0, none⟩ = false ∧ W.frozen? ⟨b + 1, 1, none⟩ = false) ∧ b < W.heap.size ∧ b + 1 < W.heap.size ∧ nb + 1 < W.heap.size :=
  ⟨⟨cell_blk h.q 0, cell_blk h.q 1⟩, ⟨cell_blk h.r 0, cell_blk h.r 1⟩, ⟨cell_blk h.y 0, cell_blk h.y 1⟩, ⟨froz_blk h.q 0, froz_blk h.q 1⟩, ⟨froz_blk h.r 0, froz_blk h.r 1⟩, lt_blk h.q, lt_blk h.r, lt_blk h.y⟩
open Go.RowKit Go.KP Go.KI Go.Shelf
attribute [local go_sem] Oper.semAt_some

structure S3 where
  x : ByteArray
  y : ByteArray
  z : ByteArray
theorem txt_rat {s : ByteArray} {p : Nat} (h : chkQ s.data.toList = 0) (hs : s.size ≤ p) (hp : 1 ≤ p) : sz p (valQ s.data.toList) ∧ s = T (valQ s.data.toList) := by
  refine ⟨chkQ_sz h (by rw [bytes_len]; exact hs) hp, T_of (chkQ_ok h).1⟩
theorem vec_of {V : S3} {p : Nat} (hp : 1 ≤ p) (h1 : V.x.size ≤ p) (h2 : V.y.size ≤ p) (h3 : V.z.size ≤ p) (h : chk3 V.x.data.toList V.y.data.toList V.z.data.toList = 0) : ∃ A : V3, szV p A ∧ V = ⟨T A.x, T A.y, T A.z⟩ := by
  obtain ⟨c1, c2, c3⟩ := chk3_zero.1 h
  obtain ⟨s1, e1⟩ := txt_rat c1 h1 hp
  obtain ⟨s2, e2⟩ := txt_rat c2 h2 hp
  obtain ⟨s3, e3⟩ := txt_rat c3 h3 hp
  refine ⟨⟨_, _, _⟩, ⟨s1, s2, s3⟩, ?_⟩
  cases V
  simp only [S3.mk.injEq]
  exact ⟨e1, e2, e3⟩
open Go.RowKit Go.KP Go.KI Go.Shelf
attribute [local go_sem] Oper.semAt_some

abbrev s3V (a : S3) : Value := spotV a.x a.y a.z
abbrev s3O (a : S3) : Obj := spotO a.x a.y a.z
abbrev memTV (k f o : Int) (a b : S3) (wd dp : Int) : Value := .agg #[.int .i64 k, .int .i64 f, .int .i64 o, .string a.x, .string a.y, .string a.z, .string b.x, .string b.y, .string b.z, .int .i64 wd, .int .i64 dp]
abbrev memTO (k f o : Int) (a b : S3) (wd dp : Int) : Obj := .cells #[.int .i64 k, .int .i64 f, .int .i64 o, .string a.x, .string a.y, .string a.z, .string b.x, .string b.y, .string b.z, .int .i64 wd, .int .i64 dp] 32
def chkS (a : S3) : Int := chk3 a.x.data.toList a.y.data.toList a.z.data.toList
def tiny3 (a : S3) : Prop := a.x.size ≤ 30 ∧ a.y.size ≤ 30 ∧ a.z.size ≤ 30
def memE (k f o : Int) (a b : S3) (wd dp : Int) : Int :=
  if ¬ (1 ≤ k ∧ k ≤ 12) then 8 else if f < 0 ∨ o < -1 then 19 else if ¬ ((1 ≤ wd ∧ wd ≤ 1000) ∧ (1 ≤ dp ∧ dp ≤ 1000)) then 2
  else if chkS a ≠ 0 then chkS a else if chkS b ≠ 0 then chkS b else if a.x = b.x ∧ a.y = b.y ∧ a.z = b.z then 12 else 0
theorem tiny_vec {a : S3} (h : tiny3 a) (hc : chkS a = 0) : ∃ A : V3, szV 30 A ∧ a = ⟨T A.x, T A.y, T A.z⟩ := vec_of (by omega) h.1 h.2.1 h.2.2 hc
theorem mem_ways (k f o : Int) (a b : S3) (wd dp : Int) (ha : tiny3 a) (hb : tiny3 b) :
    ((k < 1 ∨ (¬ k < 1 ∧ 12 < k)) ∧ memE k f o a b wd dp = 8) ∨
    (¬ k < 1 ∧ ¬ 12 < k ∧ (f < 0 ∨ (¬ f < 0 ∧ o < -1)) ∧ memE k f o a b wd dp = 19) ∨
    (¬ k < 1 ∧ ¬ 12 < k ∧ ¬ f < 0 ∧ ¬ o < -1 ∧ ((wd < 1 ∨ 1000 < wd) ∨ (1 ≤ wd ∧ wd ≤ 1000 ∧ (dp < 1 ∨ 1000 < dp))) ∧ memE k f o a b wd dp = 2) ∨
    (¬ k < 1 ∧ ¬ 12 < k ∧ ¬ f < 0 ∧ ¬ o < -1 ∧ 1 ≤ wd ∧ wd ≤ 1000 ∧ 1 ≤ dp ∧ dp ≤ 1000 ∧
      ((chkS a ≠ 0 ∧ memE k f o a b wd dp = chkS a) ∨ (chkS a = 0 ∧ chkS b ≠ 0 ∧ memE k f o a b wd dp = chkS b) ∨
        (chkS a = 0 ∧ chkS b = 0 ∧ ∃ A B : V3, szV 30 A ∧ szV 30 B ∧ a = ⟨T A.x, T A.y, T A.z⟩ ∧ b = ⟨T B.x, T B.y, T B.z⟩ ∧ memE k f o a b wd dp = if A = B then 12 else 0))) := by
  by_cases h1 : 1 ≤ k ∧ k ≤ 12
  rotate_left
  · exact .inl ⟨by omega, by unfold memE; rw [if_pos h1]⟩
  by_cases h2 : f < 0 ∨ o < -1
  · exact .inr (.inl ⟨by omega, by omega, by omega, by unfold memE; rw [if_neg (by omega), if_pos h2]⟩)
  by_cases h3 : (1 ≤ wd ∧ wd ≤ 1000) ∧ (1 ≤ dp ∧ dp ≤ 1000)
  rotate_left
  · exact .inr (.inr (.inl ⟨by omega, by omega, by omega, by omega, by omega, by unfold memE; rw [if_neg (by omega), if_neg h2, if_pos h3]⟩))
  refine .inr (.inr (.inr ⟨by omega, by omega, by omega, by omega, by omega, by omega, by omega, by omega, ?_⟩))
  have e : memE k f o a b wd dp = if chkS a ≠ 0 then chkS a else if chkS b ≠ 0 then chkS b else if a.x = b.x ∧ a.y = b.y ∧ a.z = b.z then 12 else 0 := by
    unfold memE
    rw [if_neg (by omega), if_neg h2, if_neg (by omega)]
  by_cases c1 : chkS a = 0
  rotate_left
  · exact .inl ⟨c1, by rw [e, if_pos c1]⟩
  by_cases c2 : chkS b = 0
  rotate_left
  · exact .inr (.inl ⟨c1, c2, by rw [e, if_neg (by simpa using c1), if_pos c2]⟩)
  refine .inr (.inr ⟨c1, c2, ?_⟩)
  rw [e, if_neg (by simpa using c1), if_neg (by simpa using c2)]
  obtain ⟨A, sA, rfl⟩ := tiny_vec ha c1
  obtain ⟨B, sB, rfl⟩ := tiny_vec hb c2
  refine ⟨A, B, sA, sB, rfl, rfl, ?_⟩
  by_cases h : A = B
  · subst h
    rw [if_pos ⟨rfl, rfl, rfl⟩, if_pos rfl]
  · rw [if_neg h, if_neg]
    rintro ⟨e1, e2, e3⟩
    exact h (V3.ext (T_inj e1) (T_inj e2) (T_inj e3))
theorem s3_len {a : S3} (h : tiny3 a) : a.x.size ≤ 1000000 ∧ a.y.size ≤ 1000000 ∧ a.z.size ≤ 1000000 := by
  obtain ⟨h1, h2, h3⟩ := h
  exact ⟨by omega, by omega, by omega⟩
theorem vchk_S {a : S3} (h : tiny3 a) (B : Nat) (w : World) (hB : B ≤ w.heap.size) (hT : PQ B w) : Calls Tryz.prog 54 #[s3V a] w (Ret w (.int .i64 (chkS a))) :=
  vCheck_any a.x a.y a.z (s3_len h).1 (s3_len h).2.1 (s3_len h).2.2 B w hB hT
theorem houtside_yes (n a b : Int) (h : n < a ∨ (¬ n < a ∧ b < n)) (w : World) :
    Calls Tryz.prog 67 #[.int .i64 n, .int .i64 a, .int .i64 b] w (fun e w' => e = .returned (.bool true) ∧ w' = w) := by
  rcases h with g1 | ⟨g0, g2⟩
  · skip
    go_enter Tryz.func67, Tryz.ntmps67
    go_wp2_with fail
    go_ret
    exact ⟨rfl, rfl⟩
  · have g1 := eq_false g0
    clear g0
    go_enter Tryz.func67, Tryz.ntmps67
    go_wp2_with fail
    go_ret
    exact ⟨rfl, rfl⟩
theorem hCheck_any (k f o : Int) (a b : S3) (wd dp : Int) (ha : tiny3 a) (hb : tiny3 b) (B : Nat) (w : World) (hB : B ≤ w.heap.size) (hT : PQ B w) :
    Calls Tryz.prog 33 #[memTV k f o a b wd dp] w (Ret w (.int .i64 (memE k f o a b wd dp))) := by
  have HT := hide hT
  have X1 := hide (heap1 w (memTO k f o a b wd dp))
  rcases mem_ways k f o a b wd dp ha hb with ⟨h1, e⟩ | ⟨h1, h2, h3, e⟩ | ⟨h1, h2, h3, h4, h5, e⟩ | ⟨h1, h2, h3, h4, h5, h6, h7, h8, h⟩
  · rw [e]
    have HO1 := hide (fun w => houtside_yes k 1 12 (by omega) w)
    clear e h1 ha hb hT
    go_enter Tryz.func33, Tryz.ntmps33
    go_wp2_with fail
    refine (HO1.out _).mono ?_
    rintro e w' ⟨rfl, rfl⟩
    go_wp2_with fail
    go_ret
    exact ⟨rfl, X1.out.2.2⟩
  · rw [e]
    have HO1 := hide (fun w => houtside_no k 1 12 (by omega) (by omega) w)
    clear e h1 h2 ha hb hT
    rcases h3 with g1 | ⟨g0, g2⟩
    · skip
      go_enter Tryz.func33, Tryz.ntmps33
      go_wp2_with fail
      refine (HO1.out _).mono ?_
      rintro e w' ⟨rfl, rfl⟩
      go_wp2_with fail
      go_ret
      exact ⟨rfl, X1.out.2.2⟩
    · have g1 := eq_false g0
      clear g0
      go_enter Tryz.func33, Tryz.ntmps33
      go_wp2_with fail
      refine (HO1.out _).mono ?_
      rintro e w' ⟨rfl, rfl⟩
      go_wp2_with fail
      go_ret
      exact ⟨rfl, X1.out.2.2⟩
  · rw [e]
    have HO1 := hide (fun w => houtside_no k 1 12 (by omega) (by omega) w)
    have g1 := eq_false h3
    have g2 := eq_false h4
    rcases h5 with h5 | ⟨h5, h6, h7⟩
    · have HO2 := hide (fun w => houtside_yes wd 1 1000 (by omega) w)
      clear e h1 h2 h3 h4 h5 ha hb hT
      go_enter Tryz.func33, Tryz.ntmps33
      go_wp2_with fail
      refine (HO1.out _).mono ?_
      rintro e w' ⟨rfl, rfl⟩
      go_wp2_with fail
      refine (HO2.out _).mono ?_
      rintro e w' ⟨rfl, rfl⟩
      go_wp2_with fail
      go_ret
      exact ⟨rfl, X1.out.2.2⟩
    · have HO2 := hide (fun w => houtside_no wd 1 1000 (by omega) (by omega) w)
      have HO3 := hide (fun w => houtside_yes dp 1 1000 (by omega) w)
      clear e h1 h2 h3 h4 h5 h6 h7 ha hb hT
      go_enter Tryz.func33, Tryz.ntmps33
      go_wp2_with fail
      refine (HO1.out _).mono ?_
      rintro e w' ⟨rfl, rfl⟩
      go_wp2_with fail
      refine (HO2.out _).mono ?_
      rintro e w' ⟨rfl, rfl⟩
      go_wp2_with fail
      refine (HO3.out _).mono ?_
      rintro e w' ⟨rfl, rfl⟩
      go_wp2_with fail
      go_ret
      exact ⟨rfl, X1.out.2.2⟩
  · have HO1 := hide (fun w => houtside_no k 1 12 (by omega) (by omega) w)
    have HO2 := hide (fun w => houtside_no wd 1 1000 (by omega) (by omega) w)
    have HO3 := hide (fun w => houtside_no dp 1 1000 (by omega) (by omega) w)
    have g1 := eq_false h3
    have g2 := eq_false h4
    have HC1 := hide (fun w hB hT => vchk_S ha B w hB hT)
    have HC2 := hide (fun w hB hT => vchk_S hb B w hB hT)
    have X0 := hide (heap3 w (memTO k f o a b wd dp) (.cells #[.string a.x, .string a.y, .string a.z, .string b.x, .string b.y, .string b.z] 28) (s3O a))
    clear X1
    rcases h with ⟨c1, e⟩ | ⟨c1, c2, e⟩ | ⟨c1, c2, A, C, sA, sC, rfl, rfl, e⟩
    · rw [e]
      have q1 : (chkS a != 0) = true := by simpa using c1
      obtain ⟨E, hE⟩ : ∃ E, E = chkS a := ⟨_, rfl⟩
      rw [← hE] at HC1 q1 ⊢
      clear e c1 hE h1 h2 h3 h4 h5 h6 h7 h8 ha hb hT
      go_enter Tryz.func33, Tryz.ntmps33
      go_wp2_with fail
      refine (HO1.out _).mono ?_
      rintro e w' ⟨rfl, rfl⟩
      go_wp2_with fail
      refine (HO2.out _).mono ?_
      rintro e w' ⟨rfl, rfl⟩
      go_wp2_with fail
      refine (HO3.out _).mono ?_
      rintro e w' ⟨rfl, rfl⟩
      go_wp2_with fail
      refine wp_loop_rounds 3 ?_
      rw [rounds_succ]
      go_wp2_with fail
      refine (HC1.out _ (Nat.le_trans hB X0.out.2.2.2.2.size) (HT.out.on X0.out.2.2.2.2 hB)).mono ?_
      rintro e w1 ⟨rfl, hb1⟩
      have G1 := hide (below_blk hb1 X0.out.1 (lt_blk X0.out.1))
      have G2 := hide (below_blk hb1 X0.out.2.1 (lt_blk X0.out.2.1))
      have HB1 := hide (X0.out.2.2.2.2.trans (hb1.mono X0.out.2.2.2.2.size))
      clear hb1
      go_wp2_with fail
      go_ret
      exact ⟨rfl, HB1.out⟩
    · rw [e]
      have q1 : (chkS b != 0) = true := by simpa using c2
      rw [c1] at HC1
      obtain ⟨E, hE⟩ : ∃ E, E = chkS b := ⟨_, rfl⟩
      rw [← hE] at HC2 q1 ⊢
      clear e c1 c2 hE h1 h2 h3 h4 h5 h6 h7 h8 ha hb hT
      go_enter Tryz.func33, Tryz.ntmps33
      go_wp2_with fail
      refine (HO1.out _).mono ?_
      rintro e w' ⟨rfl, rfl⟩
      go_wp2_with fail
      refine (HO2.out _).mono ?_
      rintro e w' ⟨rfl, rfl⟩
      go_wp2_with fail
      refine (HO3.out _).mono ?_
      rintro e w' ⟨rfl, rfl⟩
      go_wp2_with fail
      refine wp_loop_rounds 3 ?_
      rw [rounds_succ]
      go_wp2_with fail
      refine (HC1.out _ (Nat.le_trans hB X0.out.2.2.2.2.size) (HT.out.on X0.out.2.2.2.2 hB)).mono ?_
      rintro e w1 ⟨rfl, hb1⟩
      have G1 := hide (below_blk hb1 X0.out.1 (lt_blk X0.out.1))
      have G2 := hide (below_blk hb1 X0.out.2.1 (lt_blk X0.out.2.1))
      have HB1 := hide (X0.out.2.2.2.2.trans (hb1.mono X0.out.2.2.2.2.size))
      clear hb1
      go_wp2_with fail
      have m3 := cell_blk G2.out 3
      have m4 := cell_blk G2.out 4
      have m5 := cell_blk G2.out 5
      have l2 := lt_blk G2.out
      rw [rounds_succ]
      go_wp2_with fail
      have HB1b := hide (HB1.out.trans ((heap1 w1 (s3O b)).2.2.mono HB1.out.size))
      have G1b := hide (below_blk (heap1 w1 (s3O b)).2.2 G1.out (lt_blk G1.out))
      refine (HC2.out _ (Nat.le_trans hB HB1b.out.size) (HT.out.on HB1b.out hB)).mono ?_
      rintro e w2 ⟨rfl, hb2⟩
      have G3 := hide (below_blk hb2 G1b.out (lt_blk G1b.out))
      have HB2 := hide (HB1b.out.trans (hb2.mono HB1b.out.size))
      clear hb2 m3 m4 m5 l2 G1 G2 G1b
      go_wp2_with fail
      go_ret
      exact ⟨rfl, HB2.out⟩
    · by_cases hAC : A = C
      rotate_left
      · rw [e, if_neg hAC]
        have hm : Mem k f o A C wd dp := ⟨by omega, by omega, by omega, by omega, by omega, by omega, by omega, by omega, szV_mono sA (by omega), szV_mono sC (by omega), hAC⟩
        exact hCheck_ok hm B w hB hT
      · rw [e, if_pos hAC]
        subst hAC
        rw [c1] at HC1
        rw [c2] at HC2
        have HL1 := hide (fun w hB hT => hlong_no (szV_mono sA (by omega)) B w hB hT)
        have he := eqSpot_T A A
        rw [decide_eq_true rfl] at he
        clear e c1 c2 h1 h2 h3 h4 h5 h6 h7 h8 ha hb hT sA sC
        go_enter Tryz.func33, Tryz.ntmps33
        go_wp2_with fail
        refine (HO1.out _).mono ?_
        rintro e w' ⟨rfl, rfl⟩
        go_wp2_with fail
        refine (HO2.out _).mono ?_
        rintro e w' ⟨rfl, rfl⟩
        go_wp2_with fail
        refine (HO3.out _).mono ?_
        rintro e w' ⟨rfl, rfl⟩
        go_wp2_with fail
        refine wp_loop_rounds 3 ?_
        rw [rounds_succ]
        go_wp2_with fail
        refine (HC1.out _ (Nat.le_trans hB X0.out.2.2.2.2.size) (HT.out.on X0.out.2.2.2.2 hB)).mono ?_
        rintro e w1 ⟨rfl, hb1⟩
        have G1 := hide (below_blk hb1 X0.out.1 (lt_blk X0.out.1))
        have G2 := hide (below_blk hb1 X0.out.2.1 (lt_blk X0.out.2.1))
        have HB1 := hide (X0.out.2.2.2.2.trans (hb1.mono X0.out.2.2.2.2.size))
        clear hb1
        go_wp2_with fail
        have m3 := cell_blk G2.out 3
        have m4 := cell_blk G2.out 4
        have m5 := cell_blk G2.out 5
        have l2 := lt_blk G2.out
        rw [rounds_succ]
        go_wp2_with fail
        have HB1b := hide (HB1.out.trans ((heap1 w1 (vecO A)).2.2.mono HB1.out.size))
        have G1b := hide (below_blk (heap1 w1 (vecO A)).2.2 G1.out (lt_blk G1.out))
        refine (HC2.out _ (Nat.le_trans hB HB1b.out.size) (HT.out.on HB1b.out hB)).mono ?_
        rintro e w2 ⟨rfl, hb2⟩
        have G3 := hide (below_blk hb2 G1b.out (lt_blk G1b.out))
        have HB2 := hide (HB1b.out.trans (hb2.mono HB1b.out.size))
        clear hb2 m3 m4 m5 l2 G1 G2 G1b
        go_wp2_with fail
        have k3 := cell_blk G3.out 3
        have k4 := cell_blk G3.out 4
        have k5 := cell_blk G3.out 5
        have l1 := lt_blk G3.out
        rw [rounds_succ]
        go_wp2_with fail
        refine (HL1.out _ (Nat.le_trans hB HB2.out.size) (HT.out.on HB2.out hB)).mono ?_
        rintro e w3 ⟨rfl, hb3⟩
        have G4 := hide (below_blk hb3 G3.out (lt_blk G3.out))
        have HB3 := hide (HB2.out.trans (hb3.mono HB2.out.size))
        clear hb3 k3 k4 k5 l1 G3
        have k6 := cell_blk G4.out 6
        have k7 := cell_blk G4.out 7
        have k8 := cell_blk G4.out 8
        have l1 := lt_blk G4.out
        go_wp2_with fail
        refine (HL1.out _ (Nat.le_trans hB HB3.out.size) (HT.out.on HB3.out hB)).mono ?_
        rintro e w4 ⟨rfl, hb4⟩
        have G5 := hide (below_blk hb4 G4.out (lt_blk G4.out))
        have HB4 := hide (HB3.out.trans (hb4.mono HB3.out.size))
        clear hb4 k6 k7 k8 l1 G4
        have k3 := cell_blk G5.out 3
        have k4 := cell_blk G5.out 4
        have k5 := cell_blk G5.out 5
        have k6 := cell_blk G5.out 6
        have k7 := cell_blk G5.out 7
        have k8 := cell_blk G5.out 8
        have l1 := lt_blk G5.out
        go_wp2_with fail
        go_ret
        exact ⟨rfl, HB4.out⟩
open Go.RowKit Go.KP Go.KI Go.Shelf
attribute [local go_sem] Oper.semAt_some vidx0 vidx1 vidx2

theorem heap5 (w : World) (o1 o2 o3 o4 o5 : Obj) : (((((w.alloc o1).alloc o2).alloc o3).alloc o4).alloc o5).heap[w.heap.size + 2]? = some o3 ∧ (((((w.alloc o1).alloc o2).alloc o3).alloc o4).alloc o5).heap.size = w.heap.size + 5 ∧ Below w.heap.size w (((((w.alloc o1).alloc o2).alloc o3).alloc o4).alloc o5) := by
  obtain ⟨_, _, a3, a4, a5⟩ := heap3 w o1 o2 o3
  obtain ⟨_, _, b4, b5⟩ := heap2 (((w.alloc o1).alloc o2).alloc o3) o4 o5
  rw [a4] at b4 b5
  exact ⟨below_blk b5 a3 (by omega), by omega, a5.trans (b5.mono (by omega))⟩
def cmpsV (a b : V3) : Prop := cmpC a.x b.x ∧ cmpC a.y b.y ∧ cmpC a.z b.z
theorem cmpsV_of {p q : Nat} {a b : V3} (ha : szV p a) (hb : szV q b) (h : p + q ≤ most) : cmpsV a b := ⟨cmpC_of ha.1 hb.1 h, cmpC_of ha.2.1 hb.2.1 h, cmpC_of ha.2.2 hb.2.2 h⟩
theorem vCompare_T {a b : V3} (fa : fitsV a) (fb : fitsV b) (hc : cmpsV a b) (B : Nat) (w : World) (hB : B ≤ w.heap.size) (hT : PQ B w) :
    Calls Tryz.prog 43 #[vecV a, vecV b] w (Ret w (.tuple #[.int .i64 (vcmp a b), .int .i64 0])) := by
  have HT := hide hT
  have HC := hide (fun w hB hT => vboth_T fa fb B w hB hT)
  have H1 := hide (fun w hB hT => qcmp_T fa.1 fb.1 hc.1 B w hB hT)
  have H2 := hide (fun w hB hT => qcmp_T fa.2.1 fb.2.1 hc.2.1 B w hB hT)
  have H3 := hide (fun w hB hT => qcmp_T fa.2.2 fb.2.2 hc.2.2 B w hB hT)
  have X0 := hide (heap2 w (vecO a) (vecO b))
  have HL1 := hide (fun w => vlist_at (T a.x) (T a.y) (T a.z) w)
  have HL2 := hide (fun w => vlist_at (T b.x) (T b.y) (T b.z) w)
  obtain ⟨V, hV⟩ : ∃ V, V = vcmp a b := ⟨_, rfl⟩
  rw [← hV]
  unfold vcmp at hV
  obtain ⟨x, hx⟩ : ∃ x, x = cmpR a.x b.x := ⟨_, rfl⟩
  obtain ⟨y, hy⟩ : ∃ x, x = cmpR a.y b.y := ⟨_, rfl⟩
  obtain ⟨z, hz⟩ : ∃ x, x = cmpR a.z b.z := ⟨_, rfl⟩
  rw [← hx] at H1 hV
  rw [← hy] at H2 hV
  rw [← hz] at H3 hV
  clear hx hy hz hT fa fb hc
  by_cases hx : x = 0
  rotate_left
  · rw [if_pos hx] at hV
    have hx2 : (x != 0) = true := by simpa using hx
    clear hx
    subst hV
    go_enter Tryz.func43, Tryz.ntmps43
    go_wp2_with fail
    refine (HC.out _ (Nat.le_trans hB X0.out.2.2.2.size) (HT.out.on X0.out.2.2.2 hB)).mono ?_
    rintro e w1 ⟨rfl, hb1⟩
    have HB1 := hide (X0.out.2.2.2.trans (hb1.mono X0.out.2.2.2.size))
    have G1 := hide (below_blk hb1 X0.out.1 (lt_blk X0.out.1))
    have G2 := hide (below_blk hb1 X0.out.2.1 (lt_blk X0.out.2.1))
    have l1 := lt_blk G1.out
    have l2 := lt_blk G2.out
    have k0 := cell_blk G1.out 0
    have k1 := cell_blk G1.out 1
    have k2 := cell_blk G1.out 2
    have m0 := cell_blk G2.out 0
    have m1 := cell_blk G2.out 1
    have m2 := cell_blk G2.out 2
    clear hb1
    go_wp2_with fail
    refine (HL2.out _).mono ?_
    rintro e w0 ⟨rfl, rfl⟩
    have X3 := hide (heap3 w1 (sptO (T b.x) (T b.y) (T b.z)) (arrO (T b.x) (T b.y) (T b.z)) (arrO (T b.x) (T b.y) (T b.z))).2.2.2.2
    have G3 := hide (below_blk X3.out G1.out (lt_blk G1.out))
    clear k0 k1 k2 m0 m1 m2 l1 l2
    have l1 := lt_blk G3.out
    have k0 := cell_blk G3.out 0
    have k1 := cell_blk G3.out 1
    have k2 := cell_blk G3.out 2
    go_wp2_with fail
    refine (HL1.out _).mono ?_
    rintro e w0 ⟨rfl, rfl⟩
    have Y0 := hide (heap5 w1 (sptO (T b.x) (T b.y) (T b.z)) (arrO (T b.x) (T b.y) (T b.z)) (arrO (T b.x) (T b.y) (T b.z)) (sptO (T a.x) (T a.y) (T a.z)) (arrO (T a.x) (T a.y) (T a.z)))
    have Y1 := hide Y0.out.1
    have YB := hide (HB1.out.trans (Y0.out.2.2.mono HB1.out.size))
    clear k0 k1 k2 l1
    go_wp2_with fail
    refine wp_loop_rounds 1 ?_
    rw [rounds_succ]
    go_wp2_with fail
    refine (H1.out _ (Nat.le_trans hB YB.out.size) (HT.out.on YB.out hB)).mono ?_
    rintro e w2 ⟨rfl, hb2⟩
    have HB2 := hide (YB.out.trans (hb2.mono YB.out.size))
    clear hb2
    go_wp2_with fail
    refine bodyPost_ret (results_tmp2 rfl _ _ _) rfl ?_
    exact ⟨rfl, HB2.out⟩
  subst hx
  rw [if_neg (by simp)] at hV
  by_cases hy : y = 0
  rotate_left
  · rw [if_pos hy] at hV
    have hy2 : (y != 0) = true := by simpa using hy
    clear hy
    subst hV
    go_enter Tryz.func43, Tryz.ntmps43
    go_wp2_with fail
    refine (HC.out _ (Nat.le_trans hB X0.out.2.2.2.size) (HT.out.on X0.out.2.2.2 hB)).mono ?_
    rintro e w1 ⟨rfl, hb1⟩
    have HB1 := hide (X0.out.2.2.2.trans (hb1.mono X0.out.2.2.2.size))
    have G1 := hide (below_blk hb1 X0.out.1 (lt_blk X0.out.1))
    have G2 := hide (below_blk hb1 X0.out.2.1 (lt_blk X0.out.2.1))
    have l1 := lt_blk G1.out
    have l2 := lt_blk G2.out
    have k0 := cell_blk G1.out 0
    have k1 := cell_blk G1.out 1
    have k2 := cell_blk G1.out 2
    have m0 := cell_blk G2.out 0
    have m1 := cell_blk G2.out 1
    have m2 := cell_blk G2.out 2
    clear hb1
    go_wp2_with fail
    refine (HL2.out _).mono ?_
    rintro e w0 ⟨rfl, rfl⟩
    have X3 := hide (heap3 w1 (sptO (T b.x) (T b.y) (T b.z)) (arrO (T b.x) (T b.y) (T b.z)) (arrO (T b.x) (T b.y) (T b.z))).2.2.2.2
    have G3 := hide (below_blk X3.out G1.out (lt_blk G1.out))
    clear k0 k1 k2 m0 m1 m2 l1 l2
    have l1 := lt_blk G3.out
    have k0 := cell_blk G3.out 0
    have k1 := cell_blk G3.out 1
    have k2 := cell_blk G3.out 2
    go_wp2_with fail
    refine (HL1.out _).mono ?_
    rintro e w0 ⟨rfl, rfl⟩
    have Y0 := hide (heap5 w1 (sptO (T b.x) (T b.y) (T b.z)) (arrO (T b.x) (T b.y) (T b.z)) (arrO (T b.x) (T b.y) (T b.z)) (sptO (T a.x) (T a.y) (T a.z)) (arrO (T a.x) (T a.y) (T a.z)))
    have Y1 := hide Y0.out.1
    have YB := hide (HB1.out.trans (Y0.out.2.2.mono HB1.out.size))
    clear k0 k1 k2 l1
    go_wp2_with fail
    refine wp_loop_rounds 2 ?_
    rw [rounds_succ]
    go_wp2_with fail
    refine (H1.out _ (Nat.le_trans hB YB.out.size) (HT.out.on YB.out hB)).mono ?_
    rintro e w2 ⟨rfl, hb2⟩
    have Z2 := hide (below_blk hb2 Y1.out (lt_blk Y1.out))
    have HB2 := hide (YB.out.trans (hb2.mono YB.out.size))
    clear hb2
    go_wp2_with fail
    have k1 := cell_blk Z2.out 1
    rw [rounds_succ]
    go_wp2_with fail
    refine (H2.out _ (Nat.le_trans hB HB2.out.size) (HT.out.on HB2.out hB)).mono ?_
    rintro e w3 ⟨rfl, hb3⟩
    have HB3 := hide (HB2.out.trans (hb3.mono HB2.out.size))
    clear hb3
    go_wp2_with fail
    refine bodyPost_ret (results_tmp2 rfl _ _ _) rfl ?_
    exact ⟨rfl, HB3.out⟩
  subst hy
  rw [if_neg (by simp)] at hV
  subst hV
  have hz : V = 0 ∨ (V != 0) = true := by
    by_cases h : V = 0
    · exact .inl h
    · exact .inr (by simpa using h)
  rcases hz with rfl | hz
  all_goals
    go_enter Tryz.func43, Tryz.ntmps43
    go_wp2_with fail
    refine (HC.out _ (Nat.le_trans hB X0.out.2.2.2.size) (HT.out.on X0.out.2.2.2 hB)).mono ?_
    rintro e w1 ⟨rfl, hb1⟩
    have HB1 := hide (X0.out.2.2.2.trans (hb1.mono X0.out.2.2.2.size))
    have G1 := hide (below_blk hb1 X0.out.1 (lt_blk X0.out.1))
    have G2 := hide (below_blk hb1 X0.out.2.1 (lt_blk X0.out.2.1))
    have l1 := lt_blk G1.out
    have l2 := lt_blk G2.out
    have k0 := cell_blk G1.out 0
    have k1 := cell_blk G1.out 1
    have k2 := cell_blk G1.out 2
    have m0 := cell_blk G2.out 0
    have m1 := cell_blk G2.out 1
    have m2 := cell_blk G2.out 2
    clear hb1
    go_wp2_with fail
    refine (HL2.out _).mono ?_
    rintro e w0 ⟨rfl, rfl⟩
    have X3 := hide (heap3 w1 (sptO (T b.x) (T b.y) (T b.z)) (arrO (T b.x) (T b.y) (T b.z)) (arrO (T b.x) (T b.y) (T b.z))).2.2.2.2
    have G3 := hide (below_blk X3.out G1.out (lt_blk G1.out))
    clear k0 k1 k2 m0 m1 m2 l1 l2
    have l1 := lt_blk G3.out
    have k0 := cell_blk G3.out 0
    have k1 := cell_blk G3.out 1
    have k2 := cell_blk G3.out 2
    go_wp2_with fail
    refine (HL1.out _).mono ?_
    rintro e w0 ⟨rfl, rfl⟩
    have Y0 := hide (heap5 w1 (sptO (T b.x) (T b.y) (T b.z)) (arrO (T b.x) (T b.y) (T b.z)) (arrO (T b.x) (T b.y) (T b.z)) (sptO (T a.x) (T a.y) (T a.z)) (arrO (T a.x) (T a.y) (T a.z)))
    have Y1 := hide Y0.out.1
    have YB := hide (HB1.out.trans (Y0.out.2.2.mono HB1.out.size))
    clear k0 k1 k2 l1
    go_wp2_with fail
    refine wp_loop_rounds 4 ?_
    rw [rounds_succ]
    go_wp2_with fail
    refine (H1.out _ (Nat.le_trans hB YB.out.size) (HT.out.on YB.out hB)).mono ?_
    rintro e w2 ⟨rfl, hb2⟩
    have Z2 := hide (below_blk hb2 Y1.out (lt_blk Y1.out))
    have HB2 := hide (YB.out.trans (hb2.mono YB.out.size))
    clear hb2
    go_wp2_with fail
    have k1 := cell_blk Z2.out 1
    rw [rounds_succ]
    go_wp2_with fail
    refine (H2.out _ (Nat.le_trans hB HB2.out.size) (HT.out.on HB2.out hB)).mono ?_
    rintro e w3 ⟨rfl, hb3⟩
    have Z3 := hide (below_blk hb3 Z2.out (lt_blk Z2.out))
    have HB3 := hide (HB2.out.trans (hb3.mono HB2.out.size))
    clear hb3 k1
    go_wp2_with fail
    have k1 := cell_blk Z3.out 2
    rw [rounds_succ]
    go_wp2_with fail
    refine (H3.out _ (Nat.le_trans hB HB3.out.size) (HT.out.on HB3.out hB)).mono ?_
    rintro e w4 ⟨rfl, hb4⟩
    have HB4 := hide (HB3.out.trans (hb4.mono HB3.out.size))
    clear hb4
    go_wp2_with fail
    first
      | (refine bodyPost_ret (results_tmp2 rfl _ _ _) rfl ?_
         exact ⟨rfl, HB4.out⟩)
      | (rw [rounds_succ]
         go_wp2_with fail
         refine bodyPost_ret (results_tmp2 rfl _ _ _) rfl ?_
         exact ⟨rfl, HB4.out⟩)
end Go.Proofs.YtklgpilgalfckaaGreatDoor
namespace Go.KP
open Go
section
variable {P : Program} {md : Region.Mode}

theorem any_steps {l : List Oper} {Q : Exit → Act → World → Prop} {n f : Nat} {S : Array Bool → Act → World → Prop} (hg : gateB md l 0 n = true) (hn : n ≤ l.length)
    (hS : ∀ a w, S (Array.replicate n true) a w → wpAny P md l.toArray Q f (padded (Array.replicate n true) (l.length - n)) a w)
    (hstep : ∀ (i : Nat) (o : Oper) (L : Array Bool) (a : Act) (w : World), i < n → l[i]? = some o → L.size = n → L.getD i false = false → (∀ j, waits md l.toArray i j → L.getD j false = true) → S L a w → o.wp P a w (fun a' w' => S (L.setIfInBounds i true) a' w') Q) :
    ∀ (fuel : Nat) (L : Array Bool) (a : Act), L.size = n → down md l.toArray L → (∀ j, j < 0 → j < n → L.getD j false = true) → L.toList.count false = fuel →
    ∀ w, S L a w → wpAny P md l.toArray Q (fuel + f) (padded L (l.length - n)) a w := by
  intro fuel
  induction fuel with
  | zero =>
    intro L a hL hd hk hc w h
    have : L = Array.replicate n true := by
      have hne := List.count_eq_zero.1 hc
      apply Array.ext
      · simp [hL]
      · intro i h1 h2
        rw [Array.getElem_replicate]
        cases hx : L[i] with
        | true => rfl
        | false => exact absurd (by rw [← hx]; simp) hne
    subst this
    rw [Nat.zero_add]
    exact hS a w h
  | succ fuel ih =>
    intro L a hL hd hk hc w h
    obtain ⟨j0, hj0, hjf⟩ : ∃ j, j < n ∧ L.getD j false = false := by
      have hmem : false ∈ L.toList := List.count_pos_iff.1 (by omega)
      obtain ⟨j, hj, hx⟩ := List.mem_iff_getElem.1 hmem
      refine ⟨j, by simpa [hL] using hj, ?_⟩
      have : j < L.size := by simpa using hj
      simpa [this] using hx
    have hpre : ∀ i, i ∈ Region.ready md l.toArray (padded L (l.length - n)) → i < n ∧ i ∈ Region.ready md (l.take n).toArray L := by
      intro i hi
      obtain ⟨h1, h2, h3⟩ := ready_iff.1 hi
      have hin : i < n := by
        rcases Nat.lt_or_ge i n with h | h
        · exact h
        · exfalso
          have hil : i < l.length := by simpa using h1
          rcases gate_behind hg i hil h with ⟨j, hj, hw⟩ | hall
          · have := h3 j hw
            rw [padded_f, Array.getD_eq_getD_getElem?, Array.getElem?_eq_none (by omega)] at this
            simp at this
          · have key : ∀ d j, n - j = d → j < n → L.getD j false = true := by
              intro d
              induction d using Nat.strongRecOn with
              | _ d ihd =>
                intro j hdj hj
                rcases hall j hj with h4 | h4 | ⟨m, h4, h5, h6⟩
                · exact hk j h4 hj
                · have := h3 j h4
                  rwa [padded_f] at this
                · exact hd m j (ihd (n - m) (by omega) m rfl h4) h6
            have := key _ j0 rfl hj0
            rw [hjf] at this
            cases this
      refine ⟨hin, ready_iff.2 ⟨by simp; omega, ?_, fun j hj => ?_⟩⟩
      · rwa [padded_t (by omega)] at h2
      · have := h3 j ((waits_take hin).1 hj)
        rwa [padded_f] at this
    have hback : ∀ i, i ∈ Region.ready md (l.take n).toArray L → i ∈ Region.ready md l.toArray (padded L (l.length - n)) := by
      intro i hi
      obtain ⟨h1, h2, h3⟩ := ready_iff.1 hi
      have hin : i < n := by simp at h1; omega
      refine ready_iff.2 ⟨by simp; omega, ?_, fun j hj => ?_⟩
      · rwa [padded_t (by omega)]
      · rw [padded_f]
        exact h3 j ((waits_take hin).2 hj)
    rw [Nat.add_right_comm]
    refine ⟨fun h0 => ?_, fun i hi => ?_⟩
    · obtain ⟨i, hi⟩ := some_ready hg hL j0 hj0 hjf
      have := hback i hi
      rw [h0] at this
      cases this
    · obtain ⟨hin, hr⟩ := hpre i hi
      obtain ⟨r1, r2, r3⟩ := ready_iff.1 hr
      have hiL : i < L.size := by omega
      have hfi : L.getD i false = false := by rw [← getD_tf hiL]; exact r2
      obtain ⟨b1, b2, b3⟩ := gate_before hg i hin
      have hd' : down md l.toArray (L.setIfInBounds i true) := by
        intro x y hx hxy
        have hmono : ∀ y, L.getD y false = true → (L.setIfInBounds i true).getD y false = true := by
          intro y hy
          by_cases hyi : y = i
          · subst hyi; rw [hfi] at hy; cases hy
          · simpa [Array.getD_eq_getD_getElem?, Array.getElem?_setIfInBounds_ne (Ne.symm hyi)] using hy
        by_cases hxi : x = i
        · subst hxi
          exact hmono y (r3 y ((waits_take hin).2 hxy))
        · have hx' : L.getD x false = true := by simpa [Array.getD_eq_getD_getElem?, Array.getElem?_setIfInBounds_ne (Ne.symm hxi)] using hx
          exact hmono y (hd x y hx' hxy)
      have hk' : ∀ j, j < 0 → j < n → (L.setIfInBounds i true).getD j false = true := by
        intro j h1 h2
        have hj := hk j h1 h2
        by_cases hji : j = i
        · subst hji; rw [hfi] at hj; cases hj
        · simpa [Array.getD_eq_getD_getElem?, Array.getElem?_setIfInBounds_ne (Ne.symm hji)] using hj
      have hnext : ∀ a' w', S (L.setIfInBounds i true) a' w' → wpAny P md l.toArray Q (fuel + f) ((padded L (l.length - n)).setIfInBounds i true) a' w' := by
        intro a' w' h'
        rw [padded_set hiL]
        exact ih _ a' (by simpa using hL) hd' hk' (by have := count_set hiL hfi; omega) w' h'
      unfold wpOp
      have e2 : l.toArray[i]? = some l[i] := by simp [b1]
      rw [e2]
      have hgd : l[i].guard = none := b2 _ (List.getElem?_eq_getElem b1)
      have hw1 : ∀ ys, Region.wanted l[i] ys = true := fun ys => by simp [Region.wanted, hgd]
      simp only [hw1, if_true]
      exact .inl (Oper.wp_mono hnext (hstep i l[i] L a w hin (List.getElem?_eq_getElem b1) hL hfi (fun j hj => r3 j ((waits_take hin).2 hj)) h))
theorem region_steps {id : Nat} {Q : Exit → Act → World → Prop} {a : Act} {w : World} {l : List Oper} (n : Nat) (S : Array Bool → Act → World → Prop) (hm : P.follows .mixedOrders = true) (hn : n ≤ l.length)
    (hg : gateB .any l 0 n = true) (hs : seqB .any l n = true) (h0 : S (Array.replicate n false) a { w with drawn := w.drawn + 1 })
    (hstep : ∀ (i : Nat) (o : Oper) (L : Array Bool) (a : Act) (w : World), i < n → l[i]? = some o → L.size = n → L.getD i false = false → (∀ j, waits .any l.toArray i j → L.getD j false = true) → S L a w → o.wp P a w (fun a' w' => S (L.setIfInBounds i true) a' w') Q)
    (hend : ∀ a w, S (Array.replicate n true) a w → wpList P l.toArray Q (l.drop n) a w) : (Code.region id l.toArray true).wp P Q a w := by
  refine wp_region_any hm ?_
  have h2 := any_steps (P := P) (Q := Q) (S := S) (f := (l.drop n).length) hg hn (fun a2 w2 h3 => any_seq hs (l.drop n) n a2 w2 (fun j => by simp) (Nat.le_refl _) (by simp; omega) (hend a2 w2 h3)) hstep
    n (Array.replicate n false) a (by simp) (fun i j hi => by simp [Array.getD_eq_getD_getElem?, Array.getElem?_replicate] at hi; split at hi <;> simp at hi) (fun j hj => by omega) (by simp) _ h0
  have e : padded (Array.replicate n false) (l.length - n) = Array.replicate l.toArray.size false := by
    unfold padded
    rw [Array.replicate_append_replicate]
    congr 1
    simp
    omega
  rw [e] at h2
  have e2 : n + (l.drop n).length = l.toArray.size := by simp; omega
  rw [e2] at h2
  exact h2
theorem getD_set {L : Array Bool} {i j n : Nat} (hL : L.size = n) (hi : i < n) : (L.setIfInBounds i true).getD j false = if i = j then true else L.getD j false := by
  simp only [Array.getD_eq_getD_getElem?, Array.getElem?_setIfInBounds]
  by_cases h : i = j
  · subst h
    simp [hL, hi]
  · simp [h]
end
end Go.KP
