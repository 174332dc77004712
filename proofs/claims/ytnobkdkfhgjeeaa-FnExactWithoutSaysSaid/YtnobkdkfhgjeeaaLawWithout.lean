/- The laws FnExactXxx of functions of one program that answer a changed program: their walks. -/
import Derived.Test.YtnobkdkfhgjeeaaWithoutSpec
import Derived.Test.YtnobkdkfhgjeeaaWithoutFit
import Derived.Test.YtnobkdkfhgjeeaaLawFit
import Derived.Deep.RegionHeld3
namespace Go.Proofs.Ytnobkdkfhgjeeaa
open Go.RowKit

set_option maxRecDepth 100000 in
set_option maxHeartbeats 4000000 in
theorem lawWithoutSays (v : PV) (p : Pg) (w : World) (hr : RdP w v p) (hz : Lens v p) :
    Calls Try.prog 11 #[.agg #[.slice v.s v.ns v.cs, .slice v.g v.ng v.cg, .slice v.b v.nb v.cb, .slice v.r v.nr v.cr, .slice v.t v.nt v.ct]] w fun e w' => e = .returned (.bool true) ∧ Below w.heap.size w w' := by
  have B0 : Below w.heap.size w (w.alloc (.cells #[.slice v.s v.ns v.cs, .slice v.g v.ng v.cg, .slice v.b v.nb v.cb, .slice v.r v.nr v.cr, .slice v.t v.nt v.ct] 25)) := (Below.refl _ _).alloc (Nat.le_refl _) _
  have k0 : Blk (w.alloc (.cells #[.slice v.s v.ns v.cs, .slice v.g v.ng v.cg, .slice v.b v.nb v.cb, .slice v.r v.nr v.cr, .slice v.t v.nt v.ct] 25)) w.heap.size #[.slice v.s v.ns v.cs, .slice v.g v.ng v.cg, .slice v.b v.nb v.cb, .slice v.r v.nr v.cr, .slice v.t v.nt v.ct] 25 := Blk.new _ _ _
  have q0 : (w.alloc (.cells #[.slice v.s v.ns v.cs, .slice v.g v.ng v.cg, .slice v.b v.nb v.cb, .slice v.r v.nr v.cr, .slice v.t v.nt v.ct] 25)).cell? ⟨w.heap.size, 0, none⟩ = some (.slice v.s v.ns v.cs) := k0.cell 0 rfl
  have q1 : (w.alloc (.cells #[.slice v.s v.ns v.cs, .slice v.g v.ng v.cg, .slice v.b v.nb v.cb, .slice v.r v.nr v.cr, .slice v.t v.nt v.ct] 25)).cell? ⟨w.heap.size, 1, none⟩ = some (.slice v.g v.ng v.cg) := k0.cell 1 rfl
  have q2 : (w.alloc (.cells #[.slice v.s v.ns v.cs, .slice v.g v.ng v.cg, .slice v.b v.nb v.cb, .slice v.r v.nr v.cr, .slice v.t v.nt v.ct] 25)).cell? ⟨w.heap.size, 2, none⟩ = some (.slice v.b v.nb v.cb) := k0.cell 2 rfl
  have q3 : (w.alloc (.cells #[.slice v.s v.ns v.cs, .slice v.g v.ng v.cg, .slice v.b v.nb v.cb, .slice v.r v.nr v.cr, .slice v.t v.nt v.ct] 25)).cell? ⟨w.heap.size, 3, none⟩ = some (.slice v.r v.nr v.cr) := k0.cell 3 rfl
  have q4 : (w.alloc (.cells #[.slice v.s v.ns v.cs, .slice v.g v.ng v.cg, .slice v.b v.nb v.cb, .slice v.r v.nr v.cr, .slice v.t v.nt v.ct] 25)).cell? ⟨w.heap.size, 4, none⟩ = some (.slice v.t v.nt v.ct) := k0.cell 4 rfl
  clear k0
  by_cases hc1 : 1048576 < total v p
  · go_enter Try.func11, Try.ntmps11
    go_wp2_with fail
    refine (szProg_far v p _ (hr.below B0) hz hc1).mono ?_
    rintro e w1 ⟨rfl, hb⟩
    go_wp2
    go_ret
    exact ⟨rfl, B0.trans (hb.mono B0.size)⟩
  have hsm := small_of hr hz hc1
  have HF : Hid (FitP ((withoutSays p).getD noPg)) := Lib.hid (fit_without hr hsm hc1)
  obtain ⟨sb, hsb⟩ : ∃ sb, (withoutSays p).isSome = sb := ⟨_, rfl⟩
  obtain ⟨rp, hrp⟩ : ∃ rp, (withoutSays p).getD noPg = rp := ⟨_, rfl⟩
  rw [hrp] at HF
  have HSB := Lib.hid hsb
  have HRP := Lib.hid hrp
  clear hsb hrp
  have HS := Lib.hid hsm
  have hs5 : Hid (v.ns ≤ 1048576 ∧ v.ng ≤ 1048576 ∧ v.nb ≤ 1048576 ∧ v.nr ≤ 1048576 ∧ v.nt ≤ 1048576) := Lib.hid ⟨hsm.ls, hsm.lg, hsm.lb, hsm.lr, hsm.lt⟩
  have HI : Hid (∀ i, (p.threads.getD i []).length ≤ 1099511627776) := Lib.hid (fun i => Nat.le_trans (hsm.inn i) (by decide))
  have HC : Hid (p.cells.size ≤ 3145728 ∧ ∀ i, (p.cells.t.getD i []).length ≤ 3145728) := Lib.hid (cells_size hr hc1)
  clear hsm
  go_enter Try.func11, Try.ntmps11
  go_wp2_with fail
  refine (szProg_near v p _ (hr.below B0) hz hc1).mono ?_
  rintro e w1 ⟨l, rfl, hl, hb⟩
  replace q0 := keepc hb q0
  replace q1 := keepc hb q1
  replace q2 := keepc hb q2
  replace q3 := keepc hb q3
  replace q4 := keepc hb q4
  replace B0 := B0.trans (hb.mono B0.size)
  clear hb
  have hl0 : decide (l < 0) = false := decide_eq_false (by omega)
  clear hl hc1
  go_wp2_with fail
  refine (toProg_any v p _ (hr.below B0) hs5.out HI.out).mono ?_
  rintro e w2 ⟨v1, vs1, rfl, o1, nd1, fr1, hb⟩
  replace q0 := keepc hb q0
  replace q1 := keepc hb q1
  replace q2 := keepc hb q2
  replace q3 := keepc hb q3
  replace q4 := keepc hb q4
  replace B0 := B0.trans (hb.mono B0.size)
  clear hb
  clear nd1 fr1
  go_wp2_with fail
  refine (specWithoutSays_any v1 p  _ o1.rd (HS.out.at hr o1.rd)).mono ?_
  rintro e w3 ⟨gw, rfl, rW, hb⟩
  rw [HSB.out]
  rw [HRP.out] at rW
  clear o1
  replace q0 := keepc hb q0
  replace q1 := keepc hb q1
  replace q2 := keepc hb q2
  replace q3 := keepc hb q3
  replace q4 := keepc hb q4
  replace B0 := B0.trans (hb.mono B0.size)
  clear hb
  have B3 : Below w3.heap.size w3 w3 := Below.refl _ _
  have hw3 : Hid (w.heap.size < w3.heap.size) := Lib.hid (World.block_lt_of_cell? _ _ q0)
  have bA : Below w3.heap.size w3 (w3.alloc (.cells #[.slice gw.s gw.ns gw.cs, .slice gw.g gw.ng gw.cg, .slice gw.b gw.nb gw.cb, .slice gw.r gw.nr gw.cr, .slice gw.t gw.nt gw.ct] 30)) := (Below.refl _ _).alloc (Nat.le_refl _) _
  have kA : Blk (w3.alloc (.cells #[.slice gw.s gw.ns gw.cs, .slice gw.g gw.ng gw.cg, .slice gw.b gw.nb gw.cb, .slice gw.r gw.nr gw.cr, .slice gw.t gw.nt gw.ct] 30)) w3.heap.size #[.slice gw.s gw.ns gw.cs, .slice gw.g gw.ng gw.cg, .slice gw.b gw.nb gw.cb, .slice gw.r gw.nr gw.cr, .slice gw.t gw.nt gw.ct] 30 := Blk.new _ _ _
  have y0 : (w3.alloc (.cells #[.slice gw.s gw.ns gw.cs, .slice gw.g gw.ng gw.cg, .slice gw.b gw.nb gw.cb, .slice gw.r gw.nr gw.cr, .slice gw.t gw.nt gw.ct] 30)).cell? ⟨w3.heap.size, 0, none⟩ = some (.slice gw.s gw.ns gw.cs) := kA.cell 0 rfl
  have y1 : (w3.alloc (.cells #[.slice gw.s gw.ns gw.cs, .slice gw.g gw.ng gw.cg, .slice gw.b gw.nb gw.cb, .slice gw.r gw.nr gw.cr, .slice gw.t gw.nt gw.ct] 30)).cell? ⟨w3.heap.size, 1, none⟩ = some (.slice gw.g gw.ng gw.cg) := kA.cell 1 rfl
  have y2 : (w3.alloc (.cells #[.slice gw.s gw.ns gw.cs, .slice gw.g gw.ng gw.cg, .slice gw.b gw.nb gw.cb, .slice gw.r gw.nr gw.cr, .slice gw.t gw.nt gw.ct] 30)).cell? ⟨w3.heap.size, 2, none⟩ = some (.slice gw.b gw.nb gw.cb) := kA.cell 2 rfl
  have y3 : (w3.alloc (.cells #[.slice gw.s gw.ns gw.cs, .slice gw.g gw.ng gw.cg, .slice gw.b gw.nb gw.cb, .slice gw.r gw.nr gw.cr, .slice gw.t gw.nt gw.ct] 30)).cell? ⟨w3.heap.size, 3, none⟩ = some (.slice gw.r gw.nr gw.cr) := kA.cell 3 rfl
  have y4 : (w3.alloc (.cells #[.slice gw.s gw.ns gw.cs, .slice gw.g gw.ng gw.cg, .slice gw.b gw.nb gw.cb, .slice gw.r gw.nr gw.cr, .slice gw.t gw.nt gw.ct] 30)).cell? ⟨w3.heap.size, 4, none⟩ = some (.slice gw.t gw.nt gw.ct) := kA.cell 4 rfl
  replace q0 := keepc bA q0
  replace q1 := keepc bA q1
  replace q2 := keepc bA q2
  replace q3 := keepc bA q3
  replace q4 := keepc bA q4
  replace B0 := B0.trans (bA.mono B0.size)
  replace B3 := B3.trans (bA.mono B3.size)
  have hs_y : w3.heap.size < (w3.alloc (.cells #[.slice gw.s gw.ns gw.cs, .slice gw.g gw.ng gw.cg, .slice gw.b gw.nb gw.cb, .slice gw.r gw.nr gw.cr, .slice gw.t gw.nt gw.ct] 30)).heap.size := by simp
  clear kA bA
  go_wp2_with fail
  refine (toProg_any v p _ (hr.below B0) hs5.out HI.out).mono ?_
  rintro e w4 ⟨v2, vs2, rfl, o2, nd2, fr2, hb⟩
  have FR : Hid (∀ k ∈ fpP v2 vs2, w3.heap.size < k ∧ k < w4.heap.size) := Lib.hid (fun k hk => ⟨Nat.lt_of_lt_of_le hs_y (fr2 k hk), o2.lt k hk⟩)
  have ND := Lib.hid nd2
  have h34 : Hid (w3.heap.size < w4.heap.size) := Lib.hid (Nat.lt_of_lt_of_le hs_y hb.size)
  clear nd2 fr2 hs_y
  replace q0 := keepc hb q0
  replace q1 := keepc hb q1
  replace q2 := keepc hb q2
  replace q3 := keepc hb q3
  replace q4 := keepc hb q4
  replace B0 := B0.trans (hb.mono B0.size)
  replace B3 := B3.trans (hb.mono B3.size)
  replace y0 := keepc hb y0
  replace y1 := keepc hb y1
  replace y2 := keepc hb y2
  replace y3 := keepc hb y3
  replace y4 := keepc hb y4
  clear hb
  have bA : Below w4.heap.size w4 (w4.alloc (.cells #[.slice v2.s v2.ns v2.cs, .slice v2.g v2.ng v2.cg, .slice v2.b v2.nb v2.cb, .slice v2.r v2.nr v2.cr, .slice v2.t v2.nt v2.ct] 30)) := (Below.refl _ _).alloc (Nat.le_refl _) _
  have kA : Blk (w4.alloc (.cells #[.slice v2.s v2.ns v2.cs, .slice v2.g v2.ng v2.cg, .slice v2.b v2.nb v2.cb, .slice v2.r v2.nr v2.cr, .slice v2.t v2.nt v2.ct] 30)) w4.heap.size #[.slice v2.s v2.ns v2.cs, .slice v2.g v2.ng v2.cg, .slice v2.b v2.nb v2.cb, .slice v2.r v2.nr v2.cr, .slice v2.t v2.nt v2.ct] 30 := Blk.new _ _ _
  have x0 : (w4.alloc (.cells #[.slice v2.s v2.ns v2.cs, .slice v2.g v2.ng v2.cg, .slice v2.b v2.nb v2.cb, .slice v2.r v2.nr v2.cr, .slice v2.t v2.nt v2.ct] 30)).cell? ⟨w4.heap.size, 0, none⟩ = some (.slice v2.s v2.ns v2.cs) := kA.cell 0 rfl
  have x1 : (w4.alloc (.cells #[.slice v2.s v2.ns v2.cs, .slice v2.g v2.ng v2.cg, .slice v2.b v2.nb v2.cb, .slice v2.r v2.nr v2.cr, .slice v2.t v2.nt v2.ct] 30)).cell? ⟨w4.heap.size, 1, none⟩ = some (.slice v2.g v2.ng v2.cg) := kA.cell 1 rfl
  have x2 : (w4.alloc (.cells #[.slice v2.s v2.ns v2.cs, .slice v2.g v2.ng v2.cg, .slice v2.b v2.nb v2.cb, .slice v2.r v2.nr v2.cr, .slice v2.t v2.nt v2.ct] 30)).cell? ⟨w4.heap.size, 2, none⟩ = some (.slice v2.b v2.nb v2.cb) := kA.cell 2 rfl
  have x3 : (w4.alloc (.cells #[.slice v2.s v2.ns v2.cs, .slice v2.g v2.ng v2.cg, .slice v2.b v2.nb v2.cb, .slice v2.r v2.nr v2.cr, .slice v2.t v2.nt v2.ct] 30)).cell? ⟨w4.heap.size, 3, none⟩ = some (.slice v2.r v2.nr v2.cr) := kA.cell 3 rfl
  have x4 : (w4.alloc (.cells #[.slice v2.s v2.ns v2.cs, .slice v2.g v2.ng v2.cg, .slice v2.b v2.nb v2.cb, .slice v2.r v2.nr v2.cr, .slice v2.t v2.nt v2.ct] 30)).cell? ⟨w4.heap.size, 4, none⟩ = some (.slice v2.t v2.nt v2.ct) := kA.cell 4 rfl
  replace q0 := keepc bA q0
  replace q1 := keepc bA q1
  replace q2 := keepc bA q2
  replace q3 := keepc bA q3
  replace q4 := keepc bA q4
  replace B0 := B0.trans (bA.mono B0.size)
  replace B3 := B3.trans (bA.mono B3.size)
  replace y0 := keepc bA y0
  replace y1 := keepc bA y1
  replace y2 := keepc bA y2
  replace y3 := keepc bA y3
  replace y4 := keepc bA y4
  replace o2 := o2.below bA
  have hs_x : w4.heap.size < (w4.alloc (.cells #[.slice v2.s v2.ns v2.cs, .slice v2.g v2.ng v2.cg, .slice v2.b v2.nb v2.cb, .slice v2.r v2.nr v2.cr, .slice v2.t v2.nt v2.ct] 30)).heap.size := by simp
  clear kA bA
  go_wp2_with fail
  refine (implWithoutSays_any v2 p  _ o2.rd (HS.out.at hr o2.rd)).mono ?_
  rintro e w5 ⟨u, us, rfl, ou, ndu, fru, hb⟩
  rw [HSB.out]
  rw [HRP.out] at ou
  have FU : Hid (∀ k ∈ fpP u us, w4.heap.size < k ∧ k < w5.heap.size) := Lib.hid (fun k hk => ⟨Nat.lt_of_lt_of_le hs_x (fru k hk), ou.lt k hk⟩)
  have NDU := Lib.hid ndu
  have h45 : Hid (w4.heap.size < w5.heap.size) := Lib.hid (Nat.lt_of_lt_of_le hs_x hb.size)
  clear ndu fru hs_x
  replace q0 := keepc hb q0
  replace q1 := keepc hb q1
  replace q2 := keepc hb q2
  replace q3 := keepc hb q3
  replace q4 := keepc hb q4
  replace B0 := B0.trans (hb.mono B0.size)
  replace B3 := B3.trans (hb.mono B3.size)
  replace y0 := keepc hb y0
  replace y1 := keepc hb y1
  replace y2 := keepc hb y2
  replace y3 := keepc hb y3
  replace y4 := keepc hb y4
  replace o2 := o2.below hb
  replace x0 := keepc hb x0
  replace x1 := keepc hb x1
  replace x2 := keepc hb x2
  replace x3 := keepc hb x3
  replace x4 := keepc hb x4
  clear hb
  have bA : Below w5.heap.size w5 (w5.alloc (.cells #[.slice u.s u.ns u.cs, .slice u.g u.ng u.cg, .slice u.b u.nb u.cb, .slice u.r u.nr u.cr, .slice u.t u.nt u.ct] 30)) := (Below.refl _ _).alloc (Nat.le_refl _) _
  have kA : Blk (w5.alloc (.cells #[.slice u.s u.ns u.cs, .slice u.g u.ng u.cg, .slice u.b u.nb u.cb, .slice u.r u.nr u.cr, .slice u.t u.nt u.ct] 30)) w5.heap.size #[.slice u.s u.ns u.cs, .slice u.g u.ng u.cg, .slice u.b u.nb u.cb, .slice u.r u.nr u.cr, .slice u.t u.nt u.ct] 30 := Blk.new _ _ _
  have z0 : (w5.alloc (.cells #[.slice u.s u.ns u.cs, .slice u.g u.ng u.cg, .slice u.b u.nb u.cb, .slice u.r u.nr u.cr, .slice u.t u.nt u.ct] 30)).cell? ⟨w5.heap.size, 0, none⟩ = some (.slice u.s u.ns u.cs) := kA.cell 0 rfl
  have z1 : (w5.alloc (.cells #[.slice u.s u.ns u.cs, .slice u.g u.ng u.cg, .slice u.b u.nb u.cb, .slice u.r u.nr u.cr, .slice u.t u.nt u.ct] 30)).cell? ⟨w5.heap.size, 1, none⟩ = some (.slice u.g u.ng u.cg) := kA.cell 1 rfl
  have z2 : (w5.alloc (.cells #[.slice u.s u.ns u.cs, .slice u.g u.ng u.cg, .slice u.b u.nb u.cb, .slice u.r u.nr u.cr, .slice u.t u.nt u.ct] 30)).cell? ⟨w5.heap.size, 2, none⟩ = some (.slice u.b u.nb u.cb) := kA.cell 2 rfl
  have z3 : (w5.alloc (.cells #[.slice u.s u.ns u.cs, .slice u.g u.ng u.cg, .slice u.b u.nb u.cb, .slice u.r u.nr u.cr, .slice u.t u.nt u.ct] 30)).cell? ⟨w5.heap.size, 3, none⟩ = some (.slice u.r u.nr u.cr) := kA.cell 3 rfl
  have z4 : (w5.alloc (.cells #[.slice u.s u.ns u.cs, .slice u.g u.ng u.cg, .slice u.b u.nb u.cb, .slice u.r u.nr u.cr, .slice u.t u.nt u.ct] 30)).cell? ⟨w5.heap.size, 4, none⟩ = some (.slice u.t u.nt u.ct) := kA.cell 4 rfl
  replace q0 := keepc bA q0
  replace q1 := keepc bA q1
  replace q2 := keepc bA q2
  replace q3 := keepc bA q3
  replace q4 := keepc bA q4
  replace B0 := B0.trans (bA.mono B0.size)
  replace B3 := B3.trans (bA.mono B3.size)
  replace y0 := keepc bA y0
  replace y1 := keepc bA y1
  replace y2 := keepc bA y2
  replace y3 := keepc bA y3
  replace y4 := keepc bA y4
  replace o2 := o2.below bA
  replace x0 := keepc bA x0
  replace x1 := keepc bA x1
  replace x2 := keepc bA x2
  replace x3 := keepc bA x3
  replace x4 := keepc bA x4
  replace ou := ou.below bA
  have hs_z : w5.heap.size < (w5.alloc (.cells #[.slice u.s u.ns u.cs, .slice u.g u.ng u.cg, .slice u.b u.nb u.cb, .slice u.r u.nr u.cr, .slice u.t u.nt u.ct] 30)).heap.size := by simp
  clear kA bA
  clear hs_z
  go_wp2_with fail
  refine (eqProg_yes u gw rp _ ou.rd (rW.below B3) (HF.out.small.at ou.rd)).mono ?_
  rintro e w6 ⟨rfl, hb⟩
  replace q0 := keepc hb q0
  replace q1 := keepc hb q1
  replace q2 := keepc hb q2
  replace q3 := keepc hb q3
  replace q4 := keepc hb q4
  replace B0 := B0.trans (hb.mono B0.size)
  replace B3 := B3.trans (hb.mono B3.size)
  replace y0 := keepc hb y0
  replace y1 := keepc hb y1
  replace y2 := keepc hb y2
  replace y3 := keepc hb y3
  replace y4 := keepc hb y4
  replace o2 := o2.below hb
  replace x0 := keepc hb x0
  replace x1 := keepc hb x1
  replace x2 := keepc hb x2
  replace x3 := keepc hb x3
  replace x4 := keepc hb x4
  replace ou := ou.below hb
  replace z0 := keepc hb z0
  replace z1 := keepc hb z1
  replace z2 := keepc hb z2
  replace z3 := keepc hb z3
  replace z4 := keepc hb z4
  clear hb
  obtain ⟨B, hB⟩ : ∃ B, B = w4.heap.size := ⟨_, rfl⟩
  rw [← hB] at x0 x1 x2 x3 x4
  rw [← hB]
  have HB4 := Lib.hid hB
  clear hB
  have hS : ∀ w', Below w6.heap.size w6 w' → (((w'.cell? ⟨w.heap.size, 0, none⟩ = some (.slice v.s v.ns v.cs) ∧ w'.cell? ⟨w.heap.size, 1, none⟩ = some (.slice v.g v.ng v.cg) ∧ w'.cell? ⟨w.heap.size, 2, none⟩ = some (.slice v.b v.nb v.cb) ∧ w'.cell? ⟨w.heap.size, 3, none⟩ = some (.slice v.r v.nr v.cr) ∧ w'.cell? ⟨w.heap.size, 4, none⟩ = some (.slice v.t v.nt v.ct)) ∧ w'.cell? ⟨B, 0, none⟩ = some (.slice v2.s v2.ns v2.cs) ∧ w'.cell? ⟨B, 1, none⟩ = some (.slice v2.g v2.ng v2.cg) ∧ w'.cell? ⟨B, 2, none⟩ = some (.slice v2.b v2.nb v2.cb) ∧ w'.cell? ⟨B, 3, none⟩ = some (.slice v2.r v2.nr v2.cr) ∧ w'.cell? ⟨B, 4, none⟩ = some (.slice v2.t v2.nt v2.ct)) ∧ Below w6.heap.size w6 w') := fun w' hb => ⟨⟨⟨keepc hb q0, keepc hb q1, keepc hb q2, keepc hb q3, keepc hb q4⟩, keepc hb x0, keepc hb x1, keepc hb x2, keepc hb x3, keepc hb x4⟩, hb⟩
  go_wp2
  go_region_held3 (fun w' => (((w'.cell? ⟨w.heap.size, 0, none⟩ = some (.slice v.s v.ns v.cs) ∧ w'.cell? ⟨w.heap.size, 1, none⟩ = some (.slice v.g v.ng v.cg) ∧ w'.cell? ⟨w.heap.size, 2, none⟩ = some (.slice v.b v.nb v.cb) ∧ w'.cell? ⟨w.heap.size, 3, none⟩ = some (.slice v.r v.nr v.cr) ∧ w'.cell? ⟨w.heap.size, 4, none⟩ = some (.slice v.t v.nt v.ct)) ∧ w'.cell? ⟨B, 0, none⟩ = some (.slice v2.s v2.ns v2.cs) ∧ w'.cell? ⟨B, 1, none⟩ = some (.slice v2.g v2.ng v2.cg) ∧ w'.cell? ⟨B, 2, none⟩ = some (.slice v2.b v2.nb v2.cb) ∧ w'.cell? ⟨B, 3, none⟩ = some (.slice v2.r v2.nr v2.cr) ∧ w'.cell? ⟨B, 4, none⟩ = some (.slice v2.t v2.nt v2.ct)) ∧ Below w6.heap.size w6 w')) (first | exact hS _ ((Below.refl _ _).drew) | exact hS _ (keepb (by assumption) (by assumption))) (first | (go_at_call 17; refine (toProg_any v p _ (hr.below (B0.trans ((And.right (by assumption : _ ∧ Below w6.heap.size w6 _)).mono B0.size))) hs5.out HI.out).mono ?_; rintro e w' ⟨v3, vs3, rfl, o3, nd3, fr3, hb3⟩) | (go_at_call 19; refine (eqProg_yes v2 v3 p _ (o2.rd.below (And.right (by assumption : _ ∧ Below w6.heap.size w6 _))) o3.rd (HS.out.at hr o2.rd)).mono ?_; rintro e w' ⟨rfl, hb4⟩))
  rename_i w7 hSw
  have hb := hSw.2
  clear hSw hS
  replace q0 := keepc hb q0
  replace q1 := keepc hb q1
  replace q2 := keepc hb q2
  replace q3 := keepc hb q3
  replace q4 := keepc hb q4
  replace B0 := B0.trans (hb.mono B0.size)
  replace B3 := B3.trans (hb.mono B3.size)
  replace y0 := keepc hb y0
  replace y1 := keepc hb y1
  replace y2 := keepc hb y2
  replace y3 := keepc hb y3
  replace y4 := keepc hb y4
  replace o2 := o2.below hb
  replace x0 := keepc hb x0
  replace x1 := keepc hb x1
  replace x2 := keepc hb x2
  replace x3 := keepc hb x3
  replace x4 := keepc hb x4
  replace ou := ou.below hb
  replace z0 := keepc hb z0
  replace z1 := keepc hb z1
  replace z2 := keepc hb z2
  replace z3 := keepc hb z3
  replace z4 := keepc hb z4
  clear hb
  have h5 : Hid (v2.ns ≤ 1048576 ∧ v2.ng ≤ 1048576 ∧ v2.nb ≤ 1048576 ∧ v2.nr ≤ 1048576 ∧ v2.nt ≤ 1048576) := Lib.hid (by have := HS.out.at hr o2.rd; exact ⟨this.ls, this.lg, this.lb, this.lr, this.lt⟩)
  have h5u : Hid (u.ns ≤ 1048576 ∧ u.ng ≤ 1048576 ∧ u.nb ≤ 1048576 ∧ u.nr ≤ 1048576 ∧ u.nt ≤ 1048576) := Lib.hid (by have := HF.out.small.at ou.rd; exact ⟨this.ls, this.lg, this.lb, this.lr, this.lt⟩)
  have hC1 := HC.out.1
  have hR1 := HF.out.size
  go_wp2_with fail
  refine (markProg_any v2 vs2 p.cells 1 _ o2 ND.out (by omega) (by omega) h5.out HC.out.2).mono ?_
  rintro e w8 ⟨rfl, _, T⟩
  replace ou := ou.touch T (fun k h1 h2 => by have := FU.out k h1; have := FR.out k h2; omega)
  clear o2
  replace q0 := cell_touch T q0 (fun h => by have := FR.out w.heap.size h; have := hw3.out; have := h34.out; have := h45.out; omega)
  replace q1 := cell_touch T q1 (fun h => by have := FR.out w.heap.size h; have := hw3.out; have := h34.out; have := h45.out; omega)
  replace q2 := cell_touch T q2 (fun h => by have := FR.out w.heap.size h; have := hw3.out; have := h34.out; have := h45.out; omega)
  replace q3 := cell_touch T q3 (fun h => by have := FR.out w.heap.size h; have := hw3.out; have := h34.out; have := h45.out; omega)
  replace q4 := cell_touch T q4 (fun h => by have := FR.out w.heap.size h; have := hw3.out; have := h34.out; have := h45.out; omega)
  replace B0 := B0.trans (T.below B0.size (fun k hk => by have := FR.out k hk; have := hw3.out; have := h34.out; have := h45.out; omega))
  replace B3 := B3.trans (T.below B3.size (fun k hk => by have := FR.out k hk; have := hw3.out; have := h34.out; have := h45.out; omega))
  replace y0 := cell_touch T y0 (fun h => by have := FR.out w3.heap.size h; have := hw3.out; have := h34.out; have := h45.out; omega)
  replace y1 := cell_touch T y1 (fun h => by have := FR.out w3.heap.size h; have := hw3.out; have := h34.out; have := h45.out; omega)
  replace y2 := cell_touch T y2 (fun h => by have := FR.out w3.heap.size h; have := hw3.out; have := h34.out; have := h45.out; omega)
  replace y3 := cell_touch T y3 (fun h => by have := FR.out w3.heap.size h; have := hw3.out; have := h34.out; have := h45.out; omega)
  replace y4 := cell_touch T y4 (fun h => by have := FR.out w3.heap.size h; have := hw3.out; have := h34.out; have := h45.out; omega)
  replace z0 := cell_touch T z0 (fun h => by have := FR.out w5.heap.size h; have := hw3.out; have := h34.out; have := h45.out; omega)
  replace z1 := cell_touch T z1 (fun h => by have := FR.out w5.heap.size h; have := hw3.out; have := h34.out; have := h45.out; omega)
  replace z2 := cell_touch T z2 (fun h => by have := FR.out w5.heap.size h; have := hw3.out; have := h34.out; have := h45.out; omega)
  replace z3 := cell_touch T z3 (fun h => by have := FR.out w5.heap.size h; have := hw3.out; have := h34.out; have := h45.out; omega)
  replace z4 := cell_touch T z4 (fun h => by have := FR.out w5.heap.size h; have := hw3.out; have := h34.out; have := h45.out; omega)
  have hk0 : decide ((1 + (p.cells.size : Int)) < 0) = false := decide_eq_false (by omega)
  clear T x0 x1 x2 x3 x4
  go_wp2_with fail
  refine (eqProg_yes u gw rp _ ou.rd (rW.below B3) (HF.out.small.at ou.rd)).mono ?_
  rintro e w9 ⟨rfl, hb⟩
  replace q0 := keepc hb q0
  replace q1 := keepc hb q1
  replace q2 := keepc hb q2
  replace q3 := keepc hb q3
  replace q4 := keepc hb q4
  replace B0 := B0.trans (hb.mono B0.size)
  replace B3 := B3.trans (hb.mono B3.size)
  replace y0 := keepc hb y0
  replace y1 := keepc hb y1
  replace y2 := keepc hb y2
  replace y3 := keepc hb y3
  replace y4 := keepc hb y4
  replace ou := ou.below hb
  replace z0 := keepc hb z0
  replace z1 := keepc hb z1
  replace z2 := keepc hb z2
  replace z3 := keepc hb z3
  replace z4 := keepc hb z4
  clear hb
  go_wp2_with fail
  refine (markProg_any u us rp.cells 1 _ ou NDU.out (by omega) (by omega) h5u.out HF.out.rows).mono ?_
  rintro e w10 ⟨rfl, ou1, T⟩
  clear ou
  replace q0 := cell_touch T q0 (fun h => by have := FU.out w.heap.size h; have := hw3.out; have := h34.out; have := h45.out; omega)
  replace q1 := cell_touch T q1 (fun h => by have := FU.out w.heap.size h; have := hw3.out; have := h34.out; have := h45.out; omega)
  replace q2 := cell_touch T q2 (fun h => by have := FU.out w.heap.size h; have := hw3.out; have := h34.out; have := h45.out; omega)
  replace q3 := cell_touch T q3 (fun h => by have := FU.out w.heap.size h; have := hw3.out; have := h34.out; have := h45.out; omega)
  replace q4 := cell_touch T q4 (fun h => by have := FU.out w.heap.size h; have := hw3.out; have := h34.out; have := h45.out; omega)
  replace B0 := B0.trans (T.below B0.size (fun k hk => by have := FU.out k hk; have := hw3.out; have := h34.out; have := h45.out; omega))
  replace B3 := B3.trans (T.below B3.size (fun k hk => by have := FU.out k hk; have := hw3.out; have := h34.out; have := h45.out; omega))
  replace y0 := cell_touch T y0 (fun h => by have := FU.out w3.heap.size h; have := hw3.out; have := h34.out; have := h45.out; omega)
  replace y1 := cell_touch T y1 (fun h => by have := FU.out w3.heap.size h; have := hw3.out; have := h34.out; have := h45.out; omega)
  replace y2 := cell_touch T y2 (fun h => by have := FU.out w3.heap.size h; have := hw3.out; have := h34.out; have := h45.out; omega)
  replace y3 := cell_touch T y3 (fun h => by have := FU.out w3.heap.size h; have := hw3.out; have := h34.out; have := h45.out; omega)
  replace y4 := cell_touch T y4 (fun h => by have := FU.out w3.heap.size h; have := hw3.out; have := h34.out; have := h45.out; omega)
  replace z0 := cell_touch T z0 (fun h => by have := FU.out w5.heap.size h; have := hw3.out; have := h34.out; have := h45.out; omega)
  replace z1 := cell_touch T z1 (fun h => by have := FU.out w5.heap.size h; have := hw3.out; have := h34.out; have := h45.out; omega)
  replace z2 := cell_touch T z2 (fun h => by have := FU.out w5.heap.size h; have := hw3.out; have := h34.out; have := h45.out; omega)
  replace z3 := cell_touch T z3 (fun h => by have := FU.out w5.heap.size h; have := hw3.out; have := h34.out; have := h45.out; omega)
  replace z4 := cell_touch T z4 (fun h => by have := FU.out w5.heap.size h; have := hw3.out; have := h34.out; have := h45.out; omega)
  have hk1 : decide ((1 + (rp.cells.size : Int)) < 0) = false := decide_eq_false (by omega)
  clear T
  go_wp2_with fail
  refine (heldProg_yes u us rp.cells 1 _ ou1 (by omega) (by omega) h5u.out HF.out.rows).mono ?_
  rintro e w11 ⟨rfl, hb⟩
  replace q0 := keepc hb q0
  replace q1 := keepc hb q1
  replace q2 := keepc hb q2
  replace q3 := keepc hb q3
  replace q4 := keepc hb q4
  replace B0 := B0.trans (hb.mono B0.size)
  replace B3 := B3.trans (hb.mono B3.size)
  replace y0 := keepc hb y0
  replace y1 := keepc hb y1
  replace y2 := keepc hb y2
  replace y3 := keepc hb y3
  replace y4 := keepc hb y4
  replace z0 := keepc hb z0
  replace z1 := keepc hb z1
  replace z2 := keepc hb z2
  replace z3 := keepc hb z3
  replace z4 := keepc hb z4
  replace ou1 := ou1.below hb
  clear hb
  go_wp2_with fail
  refine (toProg_any v p _ (hr.below B0) hs5.out HI.out).mono ?_
  rintro e w12 ⟨v5, vs5, rfl, o5, nd5, fr5, hb⟩
  replace q0 := keepc hb q0
  replace q1 := keepc hb q1
  replace q2 := keepc hb q2
  replace q3 := keepc hb q3
  replace q4 := keepc hb q4
  replace B0 := B0.trans (hb.mono B0.size)
  replace B3 := B3.trans (hb.mono B3.size)
  replace y0 := keepc hb y0
  replace y1 := keepc hb y1
  replace y2 := keepc hb y2
  replace y3 := keepc hb y3
  replace y4 := keepc hb y4
  replace z0 := keepc hb z0
  replace z1 := keepc hb z1
  replace z2 := keepc hb z2
  replace z3 := keepc hb z3
  replace z4 := keepc hb z4
  replace ou1 := ou1.below hb
  clear hb
  clear nd5 fr5
  go_wp2_with fail
  refine (implWithoutSays_any v5 p  _ o5.rd (HS.out.at hr o5.rd)).mono ?_
  rintro e w13 ⟨u3, us3, rfl, o3, nd3, fr3, hb⟩
  rw [HSB.out]
  rw [HRP.out] at o3
  clear nd3 fr3 o5
  replace q0 := keepc hb q0
  replace q1 := keepc hb q1
  replace q2 := keepc hb q2
  replace q3 := keepc hb q3
  replace q4 := keepc hb q4
  replace B0 := B0.trans (hb.mono B0.size)
  replace B3 := B3.trans (hb.mono B3.size)
  replace y0 := keepc hb y0
  replace y1 := keepc hb y1
  replace y2 := keepc hb y2
  replace y3 := keepc hb y3
  replace y4 := keepc hb y4
  replace z0 := keepc hb z0
  replace z1 := keepc hb z1
  replace z2 := keepc hb z2
  replace z3 := keepc hb z3
  replace z4 := keepc hb z4
  replace ou1 := ou1.below hb
  clear hb
  have bA : Below w13.heap.size w13 (w13.alloc (.cells #[.slice u3.s u3.ns u3.cs, .slice u3.g u3.ng u3.cg, .slice u3.b u3.nb u3.cb, .slice u3.r u3.nr u3.cr, .slice u3.t u3.nt u3.ct] 30)) := (Below.refl _ _).alloc (Nat.le_refl _) _
  have kA : Blk (w13.alloc (.cells #[.slice u3.s u3.ns u3.cs, .slice u3.g u3.ng u3.cg, .slice u3.b u3.nb u3.cb, .slice u3.r u3.nr u3.cr, .slice u3.t u3.nt u3.ct] 30)) w13.heap.size #[.slice u3.s u3.ns u3.cs, .slice u3.g u3.ng u3.cg, .slice u3.b u3.nb u3.cb, .slice u3.r u3.nr u3.cr, .slice u3.t u3.nt u3.ct] 30 := Blk.new _ _ _
  have t0 : (w13.alloc (.cells #[.slice u3.s u3.ns u3.cs, .slice u3.g u3.ng u3.cg, .slice u3.b u3.nb u3.cb, .slice u3.r u3.nr u3.cr, .slice u3.t u3.nt u3.ct] 30)).cell? ⟨w13.heap.size, 0, none⟩ = some (.slice u3.s u3.ns u3.cs) := kA.cell 0 rfl
  have t1 : (w13.alloc (.cells #[.slice u3.s u3.ns u3.cs, .slice u3.g u3.ng u3.cg, .slice u3.b u3.nb u3.cb, .slice u3.r u3.nr u3.cr, .slice u3.t u3.nt u3.ct] 30)).cell? ⟨w13.heap.size, 1, none⟩ = some (.slice u3.g u3.ng u3.cg) := kA.cell 1 rfl
  have t2 : (w13.alloc (.cells #[.slice u3.s u3.ns u3.cs, .slice u3.g u3.ng u3.cg, .slice u3.b u3.nb u3.cb, .slice u3.r u3.nr u3.cr, .slice u3.t u3.nt u3.ct] 30)).cell? ⟨w13.heap.size, 2, none⟩ = some (.slice u3.b u3.nb u3.cb) := kA.cell 2 rfl
  have t3 : (w13.alloc (.cells #[.slice u3.s u3.ns u3.cs, .slice u3.g u3.ng u3.cg, .slice u3.b u3.nb u3.cb, .slice u3.r u3.nr u3.cr, .slice u3.t u3.nt u3.ct] 30)).cell? ⟨w13.heap.size, 3, none⟩ = some (.slice u3.r u3.nr u3.cr) := kA.cell 3 rfl
  have t4 : (w13.alloc (.cells #[.slice u3.s u3.ns u3.cs, .slice u3.g u3.ng u3.cg, .slice u3.b u3.nb u3.cb, .slice u3.r u3.nr u3.cr, .slice u3.t u3.nt u3.ct] 30)).cell? ⟨w13.heap.size, 4, none⟩ = some (.slice u3.t u3.nt u3.ct) := kA.cell 4 rfl
  replace q0 := keepc bA q0
  replace q1 := keepc bA q1
  replace q2 := keepc bA q2
  replace q3 := keepc bA q3
  replace q4 := keepc bA q4
  replace B0 := B0.trans (bA.mono B0.size)
  replace B3 := B3.trans (bA.mono B3.size)
  replace y0 := keepc bA y0
  replace y1 := keepc bA y1
  replace y2 := keepc bA y2
  replace y3 := keepc bA y3
  replace y4 := keepc bA y4
  replace z0 := keepc bA z0
  replace z1 := keepc bA z1
  replace z2 := keepc bA z2
  replace z3 := keepc bA z3
  replace z4 := keepc bA z4
  replace ou1 := ou1.below bA
  replace o3 := o3.below bA
  have hs_t : w13.heap.size < (w13.alloc (.cells #[.slice u3.s u3.ns u3.cs, .slice u3.g u3.ng u3.cg, .slice u3.b u3.nb u3.cb, .slice u3.r u3.nr u3.cr, .slice u3.t u3.nt u3.ct] 30)).heap.size := by simp
  clear kA bA
  clear hs_t
  go_wp2_with fail
  refine (eqProg_yes u3 gw rp _ o3.rd (rW.below B3) (HF.out.small.at o3.rd)).mono ?_
  rintro e w14 ⟨rfl, hb⟩
  replace q0 := keepc hb q0
  replace q1 := keepc hb q1
  replace q2 := keepc hb q2
  replace q3 := keepc hb q3
  replace q4 := keepc hb q4
  replace B0 := B0.trans (hb.mono B0.size)
  replace B3 := B3.trans (hb.mono B3.size)
  replace y0 := keepc hb y0
  replace y1 := keepc hb y1
  replace y2 := keepc hb y2
  replace y3 := keepc hb y3
  replace y4 := keepc hb y4
  replace z0 := keepc hb z0
  replace z1 := keepc hb z1
  replace z2 := keepc hb z2
  replace z3 := keepc hb z3
  replace z4 := keepc hb z4
  replace ou1 := ou1.below hb
  replace o3 := o3.below hb
  replace t0 := keepc hb t0
  replace t1 := keepc hb t1
  replace t2 := keepc hb t2
  replace t3 := keepc hb t3
  replace t4 := keepc hb t4
  clear hb
  go_wp2_with fail
  refine (heldProg_yes u us rp.cells 1 _ ou1 (by omega) (by omega) h5u.out HF.out.rows).mono ?_
  rintro e w15 ⟨rfl, hb⟩
  replace q0 := keepc hb q0
  replace q1 := keepc hb q1
  replace q2 := keepc hb q2
  replace q3 := keepc hb q3
  replace q4 := keepc hb q4
  replace B0 := B0.trans (hb.mono B0.size)
  replace B3 := B3.trans (hb.mono B3.size)
  replace y0 := keepc hb y0
  replace y1 := keepc hb y1
  replace y2 := keepc hb y2
  replace y3 := keepc hb y3
  replace y4 := keepc hb y4
  replace z0 := keepc hb z0
  replace z1 := keepc hb z1
  replace z2 := keepc hb z2
  replace z3 := keepc hb z3
  replace z4 := keepc hb z4
  replace ou1 := ou1.below hb
  replace o3 := o3.below hb
  replace t0 := keepc hb t0
  replace t1 := keepc hb t1
  replace t2 := keepc hb t2
  replace t3 := keepc hb t3
  replace t4 := keepc hb t4
  clear hb
  go_wp2
  go_ret
  exact ⟨rfl, B0⟩


end Go.Proofs.Ytnobkdkfhgjeeaa
