/- The laws FnExactXxx of functions of one program that answer yes or no: their walks. -/
import Derived.Test.YtnobkdkfhgjeeabDoorFmtImpl3
import Derived.Test.YtnobkdkfhgjeeabDoorBaseC
import Derived.Test.YtnobkdkfhgjeeabDoorBaseA
import Derived.Deep.RegionHeld3
namespace Go.Proofs.YtnobkdkfhgjeeabDoor
open Go.RowKit

set_option maxRecDepth 100000 in
set_option maxHeartbeats 2000000 in
theorem lawFormatProg (v : PV) (p : Pg) (w : World) (hL : Laid w) (hr : RdP w v p) (hz : Lens v p) :
    Calls Tryd.prog 3 #[.agg #[.slice v.s v.ns v.cs, .slice v.g v.ng v.cg, .slice v.b v.nb v.cb, .slice v.r v.nr v.cr, .slice v.t v.nt v.ct]] w fun e w' => e = .returned (.bool true) ∧ Below w.heap.size w w' := by
  have lt := Lib.hid hr.lt
  have HLD := Lib.hid hL
  clear hL
  have hTT : ((fmtProg p).toList == (fmtProg p).toList) = true := by simp
  obtain ⟨TX, hTX⟩ : ∃ TX, TX = fmtProg p := ⟨_, rfl⟩
  rw [← hTX] at hTT
  have HTX := Lib.hid hTX
  clear hTX
  have B0 : Below w.heap.size w (w.alloc (.cells #[.slice v.s v.ns v.cs, .slice v.g v.ng v.cg, .slice v.b v.nb v.cb, .slice v.r v.nr v.cr, .slice v.t v.nt v.ct] 25)) := (Below.refl _ _).alloc (Nat.le_refl _) _
  have k0 : Blk (w.alloc (.cells #[.slice v.s v.ns v.cs, .slice v.g v.ng v.cg, .slice v.b v.nb v.cb, .slice v.r v.nr v.cr, .slice v.t v.nt v.ct] 25)) w.heap.size #[.slice v.s v.ns v.cs, .slice v.g v.ng v.cg, .slice v.b v.nb v.cb, .slice v.r v.nr v.cr, .slice v.t v.nt v.ct] 25 := Blk.new _ _ _
  have q0 : (w.alloc (.cells #[.slice v.s v.ns v.cs, .slice v.g v.ng v.cg, .slice v.b v.nb v.cb, .slice v.r v.nr v.cr, .slice v.t v.nt v.ct] 25)).cell? ⟨w.heap.size, 0, none⟩ = some (.slice v.s v.ns v.cs) := k0.cell 0 rfl
  have q1 : (w.alloc (.cells #[.slice v.s v.ns v.cs, .slice v.g v.ng v.cg, .slice v.b v.nb v.cb, .slice v.r v.nr v.cr, .slice v.t v.nt v.ct] 25)).cell? ⟨w.heap.size, 1, none⟩ = some (.slice v.g v.ng v.cg) := k0.cell 1 rfl
  have q2 : (w.alloc (.cells #[.slice v.s v.ns v.cs, .slice v.g v.ng v.cg, .slice v.b v.nb v.cb, .slice v.r v.nr v.cr, .slice v.t v.nt v.ct] 25)).cell? ⟨w.heap.size, 2, none⟩ = some (.slice v.b v.nb v.cb) := k0.cell 2 rfl
  have q3 : (w.alloc (.cells #[.slice v.s v.ns v.cs, .slice v.g v.ng v.cg, .slice v.b v.nb v.cb, .slice v.r v.nr v.cr, .slice v.t v.nt v.ct] 25)).cell? ⟨w.heap.size, 3, none⟩ = some (.slice v.r v.nr v.cr) := k0.cell 3 rfl
  have q4 : (w.alloc (.cells #[.slice v.s v.ns v.cs, .slice v.g v.ng v.cg, .slice v.b v.nb v.cb, .slice v.r v.nr v.cr, .slice v.t v.nt v.ct] 25)).cell? ⟨w.heap.size, 4, none⟩ = some (.slice v.t v.nt v.ct) := k0.cell 4 rfl
  clear k0
  by_cases hc1 : 1048576 < total v p
  · go_enter Tryd.func3, Tryd.ntmps3
    go_wp2_with fail
    refine (szProg_far v p _ (hr.below B0) hz hc1).mono ?_
    rintro e w1 ⟨rfl, hb⟩
    go_wp2
    go_ret
    exact ⟨rfl, B0.trans (hb.mono B0.size)⟩
  have hsm := small_of hr hz hc1
  have HS := Lib.hid hsm
  have hs5 : Hid (v.ns ≤ 1048576 ∧ v.ng ≤ 1048576 ∧ v.nb ≤ 1048576 ∧ v.nr ≤ 1048576 ∧ v.nt ≤ 1048576) := Lib.hid ⟨hsm.ls, hsm.lg, hsm.lb, hsm.lr, hsm.lt⟩
  have HI : Hid (∀ i, (p.threads.getD i []).length ≤ 1099511627776) := Lib.hid (fun i => Nat.le_trans (hsm.inn i) (by decide))
  clear hsm
  go_enter Tryd.func3, Tryd.ntmps3
  go_wp2_with fail
  refine (szProg_near v p _ (hr.below B0) hz hc1).mono ?_
  rintro e w1 ⟨l, rfl, hl, hb⟩
  have B1 := B0.trans (hb.mono B0.size)
  replace q0 := keepc hb q0
  replace q1 := keepc hb q1
  replace q2 := keepc hb q2
  replace q3 := keepc hb q3
  replace q4 := keepc hb q4
  clear hb B0
  have hl0 : decide (l < 0) = false := decide_eq_false (by omega)
  go_wp2_with fail
  refine (toProg_any v p _ (hr.below B1) hs5.out HI.out).mono ?_
  rintro e w2 ⟨v1, vs1, rfl, o1, nd1, fr1, hb⟩
  have B2 := B1.trans (hb.mono B1.size)
  replace q0 := keepc hb q0
  replace q1 := keepc hb q1
  replace q2 := keepc hb q2
  replace q3 := keepc hb q3
  replace q4 := keepc hb q4
  clear hb B1 nd1 fr1
  go_wp2_with fail
  refine (specFormatProg_any v1 p _ o1.rd (HS.out.at hr o1.rd)).mono ?_
  rintro e w3 ⟨rfl, hb⟩
  rw [← HTX.out]
  have B3 := B2.trans (hb.mono B2.size)
  replace q0 := keepc hb q0
  replace q1 := keepc hb q1
  replace q2 := keepc hb q2
  replace q3 := keepc hb q3
  replace q4 := keepc hb q4
  clear hb B2 o1
  go_wp2_with fail
  refine (toProg_any v p _ (hr.below B3) hs5.out HI.out).mono ?_
  rintro e w4 ⟨v2, vs2, rfl, o2, nd2, fr2, hb⟩
  have B4 := B3.trans (hb.mono B3.size)
  replace q0 := keepc hb q0
  replace q1 := keepc hb q1
  replace q2 := keepc hb q2
  replace q3 := keepc hb q3
  replace q4 := keepc hb q4
  clear hb B3 nd2 fr2
  have bA : Below w4.heap.size w4 (w4.alloc (.cells #[.slice v2.s v2.ns v2.cs, .slice v2.g v2.ng v2.cg, .slice v2.b v2.nb v2.cb, .slice v2.r v2.nr v2.cr, .slice v2.t v2.nt v2.ct] 30)) := (Below.refl _ _).alloc (Nat.le_refl _) _
  have kA : Blk (w4.alloc (.cells #[.slice v2.s v2.ns v2.cs, .slice v2.g v2.ng v2.cg, .slice v2.b v2.nb v2.cb, .slice v2.r v2.nr v2.cr, .slice v2.t v2.nt v2.ct] 30)) w4.heap.size #[.slice v2.s v2.ns v2.cs, .slice v2.g v2.ng v2.cg, .slice v2.b v2.nb v2.cb, .slice v2.r v2.nr v2.cr, .slice v2.t v2.nt v2.ct] 30 := Blk.new _ _ _
  have x0 : (w4.alloc (.cells #[.slice v2.s v2.ns v2.cs, .slice v2.g v2.ng v2.cg, .slice v2.b v2.nb v2.cb, .slice v2.r v2.nr v2.cr, .slice v2.t v2.nt v2.ct] 30)).cell? ⟨w4.heap.size, 0, none⟩ = some (.slice v2.s v2.ns v2.cs) := kA.cell 0 rfl
  have x1 : (w4.alloc (.cells #[.slice v2.s v2.ns v2.cs, .slice v2.g v2.ng v2.cg, .slice v2.b v2.nb v2.cb, .slice v2.r v2.nr v2.cr, .slice v2.t v2.nt v2.ct] 30)).cell? ⟨w4.heap.size, 1, none⟩ = some (.slice v2.g v2.ng v2.cg) := kA.cell 1 rfl
  have x2 : (w4.alloc (.cells #[.slice v2.s v2.ns v2.cs, .slice v2.g v2.ng v2.cg, .slice v2.b v2.nb v2.cb, .slice v2.r v2.nr v2.cr, .slice v2.t v2.nt v2.ct] 30)).cell? ⟨w4.heap.size, 2, none⟩ = some (.slice v2.b v2.nb v2.cb) := kA.cell 2 rfl
  have x3 : (w4.alloc (.cells #[.slice v2.s v2.ns v2.cs, .slice v2.g v2.ng v2.cg, .slice v2.b v2.nb v2.cb, .slice v2.r v2.nr v2.cr, .slice v2.t v2.nt v2.ct] 30)).cell? ⟨w4.heap.size, 3, none⟩ = some (.slice v2.r v2.nr v2.cr) := kA.cell 3 rfl
  have x4 : (w4.alloc (.cells #[.slice v2.s v2.ns v2.cs, .slice v2.g v2.ng v2.cg, .slice v2.b v2.nb v2.cb, .slice v2.r v2.nr v2.cr, .slice v2.t v2.nt v2.ct] 30)).cell? ⟨w4.heap.size, 4, none⟩ = some (.slice v2.t v2.nt v2.ct) := kA.cell 4 rfl
  replace q0 := keepc bA q0
  replace q1 := keepc bA q1
  replace q2 := keepc bA q2
  replace q3 := keepc bA q3
  replace q4 := keepc bA q4
  have B5 := B4.trans (bA.mono B4.size)
  replace o2 := o2.below bA
  clear kA bA
  go_wp2_with fail
  refine (implFormatProg_any v2 p _ (HLD.out.below B5) o2.rd (HS.out.at hr o2.rd)).mono ?_
  rintro e w5 ⟨rfl, hb⟩
  rw [← HTX.out]
  have B6 := B5.trans (hb.mono B5.size)
  replace o2 := o2.below hb
  replace q0 := keepc hb q0
  replace q1 := keepc hb q1
  replace q2 := keepc hb q2
  replace q3 := keepc hb q3
  replace q4 := keepc hb q4
  replace x0 := keepc hb x0
  replace x1 := keepc hb x1
  replace x2 := keepc hb x2
  replace x3 := keepc hb x3
  replace x4 := keepc hb x4
  clear hb B5
  obtain ⟨B, hB⟩ : ∃ B, B = w4.heap.size := ⟨_, rfl⟩
  rw [← hB] at x0 x1 x2 x3 x4
  rw [← hB]
  clear hB B4
  have hS : ∀ w', Below w5.heap.size w5 w' → (((w'.cell? ⟨w.heap.size, 0, none⟩ = some (.slice v.s v.ns v.cs) ∧ w'.cell? ⟨w.heap.size, 1, none⟩ = some (.slice v.g v.ng v.cg) ∧ w'.cell? ⟨w.heap.size, 2, none⟩ = some (.slice v.b v.nb v.cb) ∧ w'.cell? ⟨w.heap.size, 3, none⟩ = some (.slice v.r v.nr v.cr) ∧ w'.cell? ⟨w.heap.size, 4, none⟩ = some (.slice v.t v.nt v.ct)) ∧ w'.cell? ⟨B, 0, none⟩ = some (.slice v2.s v2.ns v2.cs) ∧ w'.cell? ⟨B, 1, none⟩ = some (.slice v2.g v2.ng v2.cg) ∧ w'.cell? ⟨B, 2, none⟩ = some (.slice v2.b v2.nb v2.cb) ∧ w'.cell? ⟨B, 3, none⟩ = some (.slice v2.r v2.nr v2.cr) ∧ w'.cell? ⟨B, 4, none⟩ = some (.slice v2.t v2.nt v2.ct)) ∧ Below w5.heap.size w5 w') := fun w' hb => ⟨⟨⟨keepc hb q0, keepc hb q1, keepc hb q2, keepc hb q3, keepc hb q4⟩, keepc hb x0, keepc hb x1, keepc hb x2, keepc hb x3, keepc hb x4⟩, hb⟩
  go_wp2
  go_region_held3 (fun w' => (((w'.cell? ⟨w.heap.size, 0, none⟩ = some (.slice v.s v.ns v.cs) ∧ w'.cell? ⟨w.heap.size, 1, none⟩ = some (.slice v.g v.ng v.cg) ∧ w'.cell? ⟨w.heap.size, 2, none⟩ = some (.slice v.b v.nb v.cb) ∧ w'.cell? ⟨w.heap.size, 3, none⟩ = some (.slice v.r v.nr v.cr) ∧ w'.cell? ⟨w.heap.size, 4, none⟩ = some (.slice v.t v.nt v.ct)) ∧ w'.cell? ⟨B, 0, none⟩ = some (.slice v2.s v2.ns v2.cs) ∧ w'.cell? ⟨B, 1, none⟩ = some (.slice v2.g v2.ng v2.cg) ∧ w'.cell? ⟨B, 2, none⟩ = some (.slice v2.b v2.nb v2.cb) ∧ w'.cell? ⟨B, 3, none⟩ = some (.slice v2.r v2.nr v2.cr) ∧ w'.cell? ⟨B, 4, none⟩ = some (.slice v2.t v2.nt v2.ct)) ∧ Below w5.heap.size w5 w')) (first | exact hS _ ((Below.refl _ _).drew) | exact hS _ (keepb (by assumption) (by assumption))) (first | (go_at_call 8; refine (toProg_any v p _ (hr.below (B6.trans ((And.right (by assumption : _ ∧ Below w5.heap.size w5 _)).mono B6.size))) hs5.out HI.out).mono ?_; rintro e w' ⟨v3, vs3, rfl, o3, nd3, fr3, hb3⟩) | (go_at_call 10; refine (eqProg_yes v2 v3 p _ (o2.rd.below (And.right (by assumption : _ ∧ Below w5.heap.size w5 _))) o3.rd (HS.out.at hr o2.rd)).mono ?_; rintro e w' ⟨rfl, hb4⟩))
  rename_i hSw
  have hbw := hSw.2
  clear hSw hS
  go_wp2
  go_ret
  exact ⟨rfl, B6.trans (hbw.mono B6.size)⟩


end Go.Proofs.YtnobkdkfhgjeeabDoor
