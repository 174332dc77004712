/- The laws FnExactXxx of functions of one program that answer numbers: their walks. -/
import Derived.Test.YtnobkdkfhgjeeabHoldImpl
import Derived.Test.YtnobkdkfhgjeeabBaseA
import Derived.Test.YtnobkdkfhgjeeabEdgeMark
import Derived.Deep.RegionHeld3
namespace Go.Proofs.Ytnobkdkfhgjeeab
open Go.RowKit

theorem holdEdges_len (p : Pg) : (holdEdges p).length ≤ 96 := by
  unfold holdEdges
  split
  · next h =>
    have h1 := hAll_len h p.threads.length
    have h2 := (valid_threads h).2
    omega
  · simp

set_option maxRecDepth 100000 in
set_option maxHeartbeats 4000000 in
theorem lawHoldEdges (v : PV) (p : Pg) (w : World) (hr : RdP w v p) (hz : Lens v p) :
    Calls Try.prog 8 #[.agg #[.slice v.s v.ns v.cs, .slice v.g v.ng v.cg, .slice v.b v.nb v.cb, .slice v.r v.nr v.cr, .slice v.t v.nt v.ct]] w fun e w' => e = .returned (.bool true) ∧ Below w.heap.size w w' := by
  have lt := Lib.hid hr.lt
  have B0 : Below w.heap.size w (w.alloc (.cells #[.slice v.s v.ns v.cs, .slice v.g v.ng v.cg, .slice v.b v.nb v.cb, .slice v.r v.nr v.cr, .slice v.t v.nt v.ct] 38)) := (Below.refl _ _).alloc (Nat.le_refl _) _
  have k0 : Blk (w.alloc (.cells #[.slice v.s v.ns v.cs, .slice v.g v.ng v.cg, .slice v.b v.nb v.cb, .slice v.r v.nr v.cr, .slice v.t v.nt v.ct] 38)) w.heap.size #[.slice v.s v.ns v.cs, .slice v.g v.ng v.cg, .slice v.b v.nb v.cb, .slice v.r v.nr v.cr, .slice v.t v.nt v.ct] 38 := Blk.new _ _ _
  have q0 : (w.alloc (.cells #[.slice v.s v.ns v.cs, .slice v.g v.ng v.cg, .slice v.b v.nb v.cb, .slice v.r v.nr v.cr, .slice v.t v.nt v.ct] 38)).cell? ⟨w.heap.size, 0, none⟩ = some (.slice v.s v.ns v.cs) := k0.cell 0 rfl
  have q1 : (w.alloc (.cells #[.slice v.s v.ns v.cs, .slice v.g v.ng v.cg, .slice v.b v.nb v.cb, .slice v.r v.nr v.cr, .slice v.t v.nt v.ct] 38)).cell? ⟨w.heap.size, 1, none⟩ = some (.slice v.g v.ng v.cg) := k0.cell 1 rfl
  have q2 : (w.alloc (.cells #[.slice v.s v.ns v.cs, .slice v.g v.ng v.cg, .slice v.b v.nb v.cb, .slice v.r v.nr v.cr, .slice v.t v.nt v.ct] 38)).cell? ⟨w.heap.size, 2, none⟩ = some (.slice v.b v.nb v.cb) := k0.cell 2 rfl
  have q3 : (w.alloc (.cells #[.slice v.s v.ns v.cs, .slice v.g v.ng v.cg, .slice v.b v.nb v.cb, .slice v.r v.nr v.cr, .slice v.t v.nt v.ct] 38)).cell? ⟨w.heap.size, 3, none⟩ = some (.slice v.r v.nr v.cr) := k0.cell 3 rfl
  have q4 : (w.alloc (.cells #[.slice v.s v.ns v.cs, .slice v.g v.ng v.cg, .slice v.b v.nb v.cb, .slice v.r v.nr v.cr, .slice v.t v.nt v.ct] 38)).cell? ⟨w.heap.size, 4, none⟩ = some (.slice v.t v.nt v.ct) := k0.cell 4 rfl
  clear k0
  by_cases hc1 : 1048576 < total v p
  · go_enter Try.func8, Try.ntmps8
    go_wp2_with fail
    refine (szProg_far v p _ (hr.below B0) hz hc1).mono ?_
    rintro e w1 ⟨rfl, hb⟩
    go_wp2
    go_ret
    exact ⟨rfl, B0.trans (hb.mono B0.size)⟩
  have hsm := small_of hr hz hc1
  obtain ⟨es, hes⟩ : ∃ es, es = holdEdges p := ⟨_, rfl⟩
  obtain ⟨n, hn⟩ : ∃ n, n = es.length := ⟨_, rfl⟩
  have HN := Lib.hid hn.symm
  have hnb : n ≤ 96 := by rw [hn, hes]; exact holdEdges_len p
  have HSP : Hid (∀ (v : PV) (w : World) (hr : RdP w v p) (hz : Small v p), Calls Try.prog 30 #[.agg #[.slice v.s v.ns v.cs, .slice v.g v.ng v.cg, .slice v.b v.nb v.cb, .slice v.r v.nr v.cr, .slice v.t v.nt v.ct]] w (fun x w' => ∃ (a' : Option Addr) (c' : Nat), x = .returned (.slice a' n c') ∧ Rd w' a' (edges es) ∧ Below w.heap.size w w')) := Lib.hid (fun v w hr hz => (specHoldEdges_any v p w hr hz).mono fun _ _ ⟨a', c', h1, h2, _, h4⟩ => ⟨a', c', by rw [hn, hes]; exact h1, by rw [hes]; exact h2, h4⟩)
  have HIP : Hid (∀ (v : PV) (w : World) (hr : RdP w v p) (hz : Small v p), Calls Try.prog 31 #[.agg #[.slice v.s v.ns v.cs, .slice v.g v.ng v.cg, .slice v.b v.nb v.cb, .slice v.r v.nr v.cr, .slice v.t v.nt v.ct]] w (fun x w' => ∃ (a' : Option Addr) (c' : Nat), x = .returned (.slice a' n c') ∧ w'.ownsRow w.heap.size 61 2 (.slice a' n c') n (edges es) ∧ Below w.heap.size w w')) := Lib.hid (fun v w hr hz => (implHoldEdges_any v p w hr hz).mono fun _ _ ⟨a', c', h1, h2, h3⟩ => ⟨a', c', by rw [hn, hes]; exact h1, by rw [hn, hes]; exact h2, h3⟩)
  have HS := Lib.hid hsm
  have hs5 : Hid (v.ns ≤ 1048576 ∧ v.ng ≤ 1048576 ∧ v.nb ≤ 1048576 ∧ v.nr ≤ 1048576 ∧ v.nt ≤ 1048576) := Lib.hid ⟨hsm.ls, hsm.lg, hsm.lb, hsm.lr, hsm.lt⟩
  have HI : Hid (∀ i, (p.threads.getD i []).length ≤ 1099511627776) := Lib.hid (fun i => Nat.le_trans (hsm.inn i) (by decide))
  have HC : Hid (p.cells.size ≤ 3145728 ∧ ∀ i, (p.cells.t.getD i []).length ≤ 3145728) := Lib.hid (cells_size hr hc1)
  clear hsm hn hes
  go_enter Try.func8, Try.ntmps8
  go_wp2_with fail
  refine (szProg_near v p _ (hr.below B0) hz hc1).mono ?_
  rintro e w1 ⟨l, rfl, hl, hb⟩
  replace q0 := keepc hb q0
  replace q1 := keepc hb q1
  replace q2 := keepc hb q2
  replace q3 := keepc hb q3
  replace q4 := keepc hb q4
  replace B0 := B0.trans (hb.mono B0.size)
  clear hb
  have hl0 : decide (l < 0) = false := decide_eq_false (by omega)
  go_wp2_with fail
  refine (toProg_any v p _ (hr.below B0) hs5.out HI.out).mono ?_
  rintro e w2 ⟨v1, vs1, rfl, o1, nd1, fr1, hb⟩
  replace q0 := keepc hb q0
  replace q1 := keepc hb q1
  replace q2 := keepc hb q2
  replace q3 := keepc hb q3
  replace q4 := keepc hb q4
  replace B0 := B0.trans (hb.mono B0.size)
  clear hb
  clear nd1 fr1
  go_wp2_with fail
  refine (HSP.out v1 _ o1.rd (HS.out.at hr o1.rd)).mono ?_
  rintro e w3 ⟨aw, cw, rfl, ow, hb⟩
  replace q0 := keepc hb q0
  replace q1 := keepc hb q1
  replace q2 := keepc hb q2
  replace q3 := keepc hb q3
  replace q4 := keepc hb q4
  replace B0 := B0.trans (hb.mono B0.size)
  clear hb
  have rw3 := Lib.hid (Rd.old ow)
  have hw3 : w.heap.size < w3.heap.size := World.block_lt_of_cell? _ _ q0
  clear o1
  go_wp2_with fail
  refine (toProg_any v p _ (hr.below B0) hs5.out HI.out).mono ?_
  rintro e w4 ⟨v2, vs2, rfl, o2, nd2, fr2, hb⟩
  have hb4 := hb.size
  replace q0 := keepc hb q0
  replace q1 := keepc hb q1
  replace q2 := keepc hb q2
  replace q3 := keepc hb q3
  replace q4 := keepc hb q4
  replace B0 := B0.trans (hb.mono B0.size)
  replace ow := ow.below hb
  clear hb
  have hw34 : w3.heap.size ≤ w4.heap.size := hb4
  have lo2 := Lib.hid o2.lt
  have FR := Lib.hid fr2
  have ND := Lib.hid nd2
  clear fr2 nd2
  have bA : Below w4.heap.size w4 (w4.alloc (.cells #[.slice v2.s v2.ns v2.cs, .slice v2.g v2.ng v2.cg, .slice v2.b v2.nb v2.cb, .slice v2.r v2.nr v2.cr, .slice v2.t v2.nt v2.ct] 26)) := (Below.refl _ _).alloc (Nat.le_refl _) _
  have kA : Blk (w4.alloc (.cells #[.slice v2.s v2.ns v2.cs, .slice v2.g v2.ng v2.cg, .slice v2.b v2.nb v2.cb, .slice v2.r v2.nr v2.cr, .slice v2.t v2.nt v2.ct] 26)) w4.heap.size #[.slice v2.s v2.ns v2.cs, .slice v2.g v2.ng v2.cg, .slice v2.b v2.nb v2.cb, .slice v2.r v2.nr v2.cr, .slice v2.t v2.nt v2.ct] 26 := Blk.new _ _ _
  have x0 : (w4.alloc (.cells #[.slice v2.s v2.ns v2.cs, .slice v2.g v2.ng v2.cg, .slice v2.b v2.nb v2.cb, .slice v2.r v2.nr v2.cr, .slice v2.t v2.nt v2.ct] 26)).cell? ⟨w4.heap.size, 0, none⟩ = some (.slice v2.s v2.ns v2.cs) := kA.cell 0 rfl
  have x1 : (w4.alloc (.cells #[.slice v2.s v2.ns v2.cs, .slice v2.g v2.ng v2.cg, .slice v2.b v2.nb v2.cb, .slice v2.r v2.nr v2.cr, .slice v2.t v2.nt v2.ct] 26)).cell? ⟨w4.heap.size, 1, none⟩ = some (.slice v2.g v2.ng v2.cg) := kA.cell 1 rfl
  have x2 : (w4.alloc (.cells #[.slice v2.s v2.ns v2.cs, .slice v2.g v2.ng v2.cg, .slice v2.b v2.nb v2.cb, .slice v2.r v2.nr v2.cr, .slice v2.t v2.nt v2.ct] 26)).cell? ⟨w4.heap.size, 2, none⟩ = some (.slice v2.b v2.nb v2.cb) := kA.cell 2 rfl
  have x3 : (w4.alloc (.cells #[.slice v2.s v2.ns v2.cs, .slice v2.g v2.ng v2.cg, .slice v2.b v2.nb v2.cb, .slice v2.r v2.nr v2.cr, .slice v2.t v2.nt v2.ct] 26)).cell? ⟨w4.heap.size, 3, none⟩ = some (.slice v2.r v2.nr v2.cr) := kA.cell 3 rfl
  have x4 : (w4.alloc (.cells #[.slice v2.s v2.ns v2.cs, .slice v2.g v2.ng v2.cg, .slice v2.b v2.nb v2.cb, .slice v2.r v2.nr v2.cr, .slice v2.t v2.nt v2.ct] 26)).cell? ⟨w4.heap.size, 4, none⟩ = some (.slice v2.t v2.nt v2.ct) := kA.cell 4 rfl
  replace q0 := keepc bA q0
  replace q1 := keepc bA q1
  replace q2 := keepc bA q2
  replace q3 := keepc bA q3
  replace q4 := keepc bA q4
  replace B0 := B0.trans (bA.mono B0.size)
  replace ow := ow.below bA
  replace o2 := o2.below bA
  have hs4 : w4.heap.size < (w4.alloc (.cells #[.slice v2.s v2.ns v2.cs, .slice v2.g v2.ng v2.cg, .slice v2.b v2.nb v2.cb, .slice v2.r v2.nr v2.cr, .slice v2.t v2.nt v2.ct] 26)).heap.size := by simp
  clear kA bA
  go_wp2_with fail
  refine (HIP.out v2 _ o2.rd (HS.out.at hr o2.rd)).mono ?_
  rintro e w5 ⟨ag, cg, rfl, og, hb⟩
  replace q0 := keepc hb q0
  replace q1 := keepc hb q1
  replace q2 := keepc hb q2
  replace q3 := keepc hb q3
  replace q4 := keepc hb q4
  replace B0 := B0.trans (hb.mono B0.size)
  replace ow := ow.below hb
  replace o2 := o2.below hb
  replace x0 := keepc hb x0
  replace x1 := keepc hb x1
  replace x2 := keepc hb x2
  replace x3 := keepc hb x3
  replace x4 := keepc hb x4
  clear hb
  have rg5 := Lib.hid (fun k hk => (owns_row og k hk).1)
  have rg6 : Hid (∀ k, rowOf ag = some k → w4.heap.size < k) := Lib.hid (fun k hk => Nat.lt_of_lt_of_le hs4 (rg5.out k hk))
  clear rg5 hs4
  go_wp2_with fail
  refine (eqEdgeS_yes ag aw n cg cw es _ (by omega) HN.out (Rd.of_owns og) ow).mono ?_
  rintro e w6 ⟨rfl, hb⟩
  replace q0 := keepc hb q0
  replace q1 := keepc hb q1
  replace q2 := keepc hb q2
  replace q3 := keepc hb q3
  replace q4 := keepc hb q4
  replace B0 := B0.trans (hb.mono B0.size)
  replace ow := ow.below hb
  replace o2 := o2.below hb
  replace x0 := keepc hb x0
  replace x1 := keepc hb x1
  replace x2 := keepc hb x2
  replace x3 := keepc hb x3
  replace x4 := keepc hb x4
  replace og := owns_below og hb
  clear hb
  obtain ⟨B, hB⟩ : ∃ B, B = w4.heap.size := ⟨_, rfl⟩
  rw [← hB] at x0 x1 x2 x3 x4
  rw [← hB]
  have HB4 := Lib.hid hB
  clear hB
  have hS : ∀ w', Below w6.heap.size w6 w' → (((w'.cell? ⟨w.heap.size, 0, none⟩ = some (.slice v.s v.ns v.cs) ∧ w'.cell? ⟨w.heap.size, 1, none⟩ = some (.slice v.g v.ng v.cg) ∧ w'.cell? ⟨w.heap.size, 2, none⟩ = some (.slice v.b v.nb v.cb) ∧ w'.cell? ⟨w.heap.size, 3, none⟩ = some (.slice v.r v.nr v.cr) ∧ w'.cell? ⟨w.heap.size, 4, none⟩ = some (.slice v.t v.nt v.ct)) ∧ w'.cell? ⟨B, 0, none⟩ = some (.slice v2.s v2.ns v2.cs) ∧ w'.cell? ⟨B, 1, none⟩ = some (.slice v2.g v2.ng v2.cg) ∧ w'.cell? ⟨B, 2, none⟩ = some (.slice v2.b v2.nb v2.cb) ∧ w'.cell? ⟨B, 3, none⟩ = some (.slice v2.r v2.nr v2.cr) ∧ w'.cell? ⟨B, 4, none⟩ = some (.slice v2.t v2.nt v2.ct)) ∧ Below w6.heap.size w6 w') := fun w' hb => ⟨⟨⟨keepc hb q0, keepc hb q1, keepc hb q2, keepc hb q3, keepc hb q4⟩, keepc hb x0, keepc hb x1, keepc hb x2, keepc hb x3, keepc hb x4⟩, hb⟩
  go_wp2
  go_region_held3 (fun w' => (((w'.cell? ⟨w.heap.size, 0, none⟩ = some (.slice v.s v.ns v.cs) ∧ w'.cell? ⟨w.heap.size, 1, none⟩ = some (.slice v.g v.ng v.cg) ∧ w'.cell? ⟨w.heap.size, 2, none⟩ = some (.slice v.b v.nb v.cb) ∧ w'.cell? ⟨w.heap.size, 3, none⟩ = some (.slice v.r v.nr v.cr) ∧ w'.cell? ⟨w.heap.size, 4, none⟩ = some (.slice v.t v.nt v.ct)) ∧ w'.cell? ⟨B, 0, none⟩ = some (.slice v2.s v2.ns v2.cs) ∧ w'.cell? ⟨B, 1, none⟩ = some (.slice v2.g v2.ng v2.cg) ∧ w'.cell? ⟨B, 2, none⟩ = some (.slice v2.b v2.nb v2.cb) ∧ w'.cell? ⟨B, 3, none⟩ = some (.slice v2.r v2.nr v2.cr) ∧ w'.cell? ⟨B, 4, none⟩ = some (.slice v2.t v2.nt v2.ct)) ∧ Below w6.heap.size w6 w')) (first | exact hS _ ((Below.refl _ _).drew) | exact hS _ (keepb (by assumption) (by assumption))) (first | (go_at_call 18; refine (toProg_any v p _ (hr.below (B0.trans ((And.right (by assumption : _ ∧ Below w6.heap.size w6 _)).mono B0.size))) hs5.out HI.out).mono ?_; rintro e w' ⟨v3, vs3, rfl, o3, nd3, fr3, hb3⟩) | (go_at_call 21; refine (eqProg_yes v2 v3 p _ (o2.rd.below (And.right (by assumption : _ ∧ Below w6.heap.size w6 _))) o3.rd (HS.out.at hr o2.rd)).mono ?_; rintro e w' ⟨rfl, hb4⟩))
  rename_i w7 hSw
  have hb := hSw.2
  clear hSw hS
  replace q0 := keepc hb q0
  replace q1 := keepc hb q1
  replace q2 := keepc hb q2
  replace q3 := keepc hb q3
  replace q4 := keepc hb q4
  replace B0 := B0.trans (hb.mono B0.size)
  replace ow := ow.below hb
  replace o2 := o2.below hb
  replace x0 := keepc hb x0
  replace x1 := keepc hb x1
  replace x2 := keepc hb x2
  replace x3 := keepc hb x3
  replace x4 := keepc hb x4
  replace og := owns_below og hb
  clear hb
  have h5 : Hid (v2.ns ≤ 1048576 ∧ v2.ng ≤ 1048576 ∧ v2.nb ≤ 1048576 ∧ v2.nr ≤ 1048576 ∧ v2.nt ≤ 1048576) := Lib.hid (by have := HS.out.at hr o2.rd; exact ⟨this.ls, this.lg, this.lb, this.lr, this.lt⟩)
  have hC1 := HC.out.1
  go_wp2_with fail
  refine (markProg_any v2 vs2 p.cells 1 _ o2 ND.out (by omega) (by omega) h5.out HC.out.2).mono ?_
  rintro e w8 ⟨rfl, _, T⟩
  have hg : ∀ k ∈ fpP v2 vs2, w3.heap.size ≤ k ∧ k < B := fun k hk => ⟨FR.out k hk, by rw [HB4.out]; exact lo2.out k hk⟩
  replace ow := rd_touch ow T rw3.out (fun k hk => (hg k hk).1)
  replace og := owns_touch og T (fun k h1 h2 => by have := rg6.out k h1; have := hg k h2; have := HB4.out; omega)
  replace B0 := B0.trans (T.below B0.size (fun k hk => by have := hg k hk; have := hw3; omega))
  replace q0 := cell_touch T q0 (fun h => by have := hg w.heap.size h; have := hw3; omega)
  replace q1 := cell_touch T q1 (fun h => by have := hg w.heap.size h; have := hw3; omega)
  replace q2 := cell_touch T q2 (fun h => by have := hg w.heap.size h; have := hw3; omega)
  replace q3 := cell_touch T q3 (fun h => by have := hg w.heap.size h; have := hw3; omega)
  replace q4 := cell_touch T q4 (fun h => by have := hg w.heap.size h; have := hw3; omega)
  have hk0 : decide ((1 + (p.cells.size : Int)) < 0) = false := decide_eq_false (by omega)
  clear T hg o2
  go_wp2_with fail
  refine (eqEdgeS_yes ag aw n cg cw es _ (by omega) HN.out (Rd.of_owns og) ow).mono ?_
  rintro e w9 ⟨rfl, hb⟩
  replace q0 := keepc hb q0
  replace q1 := keepc hb q1
  replace q2 := keepc hb q2
  replace q3 := keepc hb q3
  replace q4 := keepc hb q4
  replace B0 := B0.trans (hb.mono B0.size)
  replace ow := ow.below hb
  replace og := owns_below og hb
  clear hb
  go_wp2_with fail
  refine (markEdgeS_any _ n cg ag es 1 _ HN.out (by omega) (by omega) (by omega) og).mono ?_
  rintro e w10 ⟨rfl, og1, g10⟩
  have hgr : ∀ k, rowOf ag = some k → B < k := fun k hk => by rw [HB4.out]; exact rg6.out k hk
  replace ow := rd_grownN ow g10 rw3.out (fun k hk => by have := hgr k hk; have := hw34; have := HB4.out; omega)
  replace B0 := B0.trans (below_of_grown g10 B0.size (fun k hk => by have := hgr k hk; have := hw34; have := HB4.out; have := hw3; omega))
  replace q0 := keepg g10 q0 (fun h => by have := hgr w.heap.size h; have := hw34; have := HB4.out; have := hw3; omega)
  replace q1 := keepg g10 q1 (fun h => by have := hgr w.heap.size h; have := hw34; have := HB4.out; have := hw3; omega)
  replace q2 := keepg g10 q2 (fun h => by have := hgr w.heap.size h; have := hw34; have := HB4.out; have := hw3; omega)
  replace q3 := keepg g10 q3 (fun h => by have := hgr w.heap.size h; have := hw34; have := HB4.out; have := hw3; omega)
  replace q4 := keepg g10 q4 (fun h => by have := hgr w.heap.size h; have := hw34; have := HB4.out; have := hw3; omega)
  clear og g10 hgr
  go_wp2_with fail
  refine (heldEdgeS_yes ag cg n 1 _ (by omega) (by omega) (by omega) (Rd.of_owns og1)).mono ?_
  rintro e w11 ⟨rfl, rfl⟩
  go_wp2_with fail
  refine (toProg_any v p _ (hr.below B0) hs5.out HI.out).mono ?_
  rintro e w12 ⟨v5, vs5, rfl, o5, nd5, fr5, hb⟩
  replace q0 := keepc hb q0
  replace q1 := keepc hb q1
  replace q2 := keepc hb q2
  replace q3 := keepc hb q3
  replace q4 := keepc hb q4
  replace B0 := B0.trans (hb.mono B0.size)
  replace ow := ow.below hb
  replace og1 := owns_below og1 hb
  clear hb
  clear nd5 fr5
  go_wp2_with fail
  refine (HIP.out v5 _ o5.rd (HS.out.at hr o5.rd)).mono ?_
  rintro e w13 ⟨ah, ch, rfl, oh, hb⟩
  replace q0 := keepc hb q0
  replace q1 := keepc hb q1
  replace q2 := keepc hb q2
  replace q3 := keepc hb q3
  replace q4 := keepc hb q4
  replace B0 := B0.trans (hb.mono B0.size)
  replace ow := ow.below hb
  replace og1 := owns_below og1 hb
  clear hb
  clear o5
  go_wp2_with fail
  refine (eqEdgeS_yes ah aw n ch cw es _ (by omega) HN.out (Rd.of_owns oh) ow).mono ?_
  rintro e w14 ⟨rfl, hb⟩
  replace q0 := keepc hb q0
  replace q1 := keepc hb q1
  replace q2 := keepc hb q2
  replace q3 := keepc hb q3
  replace q4 := keepc hb q4
  replace B0 := B0.trans (hb.mono B0.size)
  replace ow := ow.below hb
  replace og1 := owns_below og1 hb
  replace oh := owns_below oh hb
  clear hb
  go_wp2_with fail
  refine (heldEdgeS_yes ag cg n 1 _ (by omega) (by omega) (by omega) (Rd.of_owns og1)).mono ?_
  rintro e w15 ⟨rfl, rfl⟩
  go_wp2
  go_ret
  exact ⟨rfl, B0⟩


end Go.Proofs.Ytnobkdkfhgjeeab
