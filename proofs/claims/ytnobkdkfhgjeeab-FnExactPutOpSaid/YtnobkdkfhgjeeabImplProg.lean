/- Which programs are valid: the program's own text. -/
import Derived.Test.YtnobkdkfhgjeeabImplOp
namespace Go.Proofs.Ytnobkdkfhgjeeab
open Go.RowKit

set_option maxRecDepth 100000 in
set_option maxHeartbeats 2000000 in
theorem implProgValid_any (v : PV) (p : Pg) (w : World) (hr : RdP w v p) (hz : Small v p) :
    Calls Try.prog 14 #[.agg #[.slice v.s v.ns v.cs, .slice v.g v.ng v.cg, .slice v.b v.nb v.cb, .slice v.r v.nr v.cr, .slice v.t v.nt v.ct]] w fun e w' => e = .returned (.bool (progValid p)) ∧ Below w.heap.size w w' := by
  have hs : v.ns ≤ maxLen ∧ v.ng ≤ maxLen ∧ v.nb ≤ maxLen ∧ v.nr ≤ maxLen := by
    obtain ⟨z1, z2, z3, z4, z5, z6⟩ := hz; unfold maxLen; omega
  have zz : Hid (v.ns ≤ maxLen ∧ v.ng ≤ maxLen ∧ v.nb ≤ maxLen ∧ v.nr ≤ maxLen) := Lib.hid hs
  have z5 : v.nt ≤ 1048576 := hz.lt
  have Z6 := Lib.hid hz.inn
  have ls := Lib.hid hr.ls
  have lg := Lib.hid hr.lg
  have lb := Lib.hid hr.lb
  have lr := Lib.hid hr.lr
  have lt := Lib.hid hr.lt
  clear hz
  have B0 : Below w.heap.size w (w.alloc (.cells #[.slice v.s v.ns v.cs, .slice v.g v.ng v.cg, .slice v.b v.nb v.cb, .slice v.r v.nr v.cr, .slice v.t v.nt v.ct] 26)) := (Below.refl _ _).alloc (Nat.le_refl _) _
  have k0 : Blk (w.alloc (.cells #[.slice v.s v.ns v.cs, .slice v.g v.ng v.cg, .slice v.b v.nb v.cb, .slice v.r v.nr v.cr, .slice v.t v.nt v.ct] 26)) w.heap.size #[.slice v.s v.ns v.cs, .slice v.g v.ng v.cg, .slice v.b v.nb v.cb, .slice v.r v.nr v.cr, .slice v.t v.nt v.ct] 26 := Blk.new _ _ _
  rcases Bool.eq_false_or_eq_true (within p.sems 1 9) with h1 | h1
  rotate_left
  · have HB : Hid (progValid p = false) := Lib.hid (by unfold progValid; rw [h1]; simp)
    replace h1 := Lib.hid h1
    go_enter Try.func14, Try.ntmps14
    go_wp2_with fail
    refine (implWithin_any v.s v.ns v.cs p.sems 1 9 _ ls.out (by have := zz.out; omega) (hr.rs.below B0)).mono ?_
    rintro e w1 ⟨rfl, hb⟩
    rw [h1.out]
    have B1 := B0.trans (hb.mono B0.size)
    have k1 := k0.below hb
    clear hb
    have q0 : w1.cell? ⟨w.heap.size, 0, none⟩ = some (.slice v.s v.ns v.cs) := k1.cell 0 rfl
    have q1 : w1.cell? ⟨w.heap.size, 1, none⟩ = some (.slice v.g v.ng v.cg) := k1.cell 1 rfl
    have q2 : w1.cell? ⟨w.heap.size, 2, none⟩ = some (.slice v.b v.nb v.cb) := k1.cell 2 rfl
    have q3 : w1.cell? ⟨w.heap.size, 3, none⟩ = some (.slice v.r v.nr v.cr) := k1.cell 3 rfl
    have q4 : w1.cell? ⟨w.heap.size, 4, none⟩ = some (.slice v.t v.nt v.ct) := k1.cell 4 rfl
    go_wp2
    go_ret
    exact ⟨ret_bool (by rw [HB.out]), B1⟩
  replace h1 := Lib.hid h1
  rcases Bool.eq_false_or_eq_true (within p.groups 0 9) with h2 | h2
  rotate_left
  · have HB : Hid (progValid p = false) := Lib.hid (by unfold progValid; rw [h2]; simp)
    replace h2 := Lib.hid h2
    go_enter Try.func14, Try.ntmps14
    go_wp2_with fail
    refine (implWithin_any v.s v.ns v.cs p.sems 1 9 _ ls.out (by have := zz.out; omega) (hr.rs.below B0)).mono ?_
    rintro e w1 ⟨rfl, hb⟩
    rw [h1.out]
    have B1 := B0.trans (hb.mono B0.size)
    have k1 := k0.below hb
    clear hb
    have q0 : w1.cell? ⟨w.heap.size, 0, none⟩ = some (.slice v.s v.ns v.cs) := k1.cell 0 rfl
    have q1 : w1.cell? ⟨w.heap.size, 1, none⟩ = some (.slice v.g v.ng v.cg) := k1.cell 1 rfl
    have q2 : w1.cell? ⟨w.heap.size, 2, none⟩ = some (.slice v.b v.nb v.cb) := k1.cell 2 rfl
    have q3 : w1.cell? ⟨w.heap.size, 3, none⟩ = some (.slice v.r v.nr v.cr) := k1.cell 3 rfl
    have q4 : w1.cell? ⟨w.heap.size, 4, none⟩ = some (.slice v.t v.nt v.ct) := k1.cell 4 rfl
    go_wp2_with fail
    refine (implWithin_any v.g v.ng v.cg p.groups 0 9 _ lg.out (by have := zz.out; omega) (hr.rg.below B1)).mono ?_
    rintro e w2 ⟨rfl, hb⟩
    rw [h2.out]
    have B2 := B1.trans (hb.mono B1.size)
    have k2 := k1.below hb
    clear hb
    replace q0 : w2.cell? ⟨w.heap.size, 0, none⟩ = some (.slice v.s v.ns v.cs) := k2.cell 0 rfl
    replace q1 : w2.cell? ⟨w.heap.size, 1, none⟩ = some (.slice v.g v.ng v.cg) := k2.cell 1 rfl
    replace q2 : w2.cell? ⟨w.heap.size, 2, none⟩ = some (.slice v.b v.nb v.cb) := k2.cell 2 rfl
    replace q3 : w2.cell? ⟨w.heap.size, 3, none⟩ = some (.slice v.r v.nr v.cr) := k2.cell 3 rfl
    replace q4 : w2.cell? ⟨w.heap.size, 4, none⟩ = some (.slice v.t v.nt v.ct) := k2.cell 4 rfl
    go_wp2
    go_ret
    exact ⟨ret_bool (by rw [HB.out]), B2⟩
  replace h2 := Lib.hid h2
  rcases Bool.eq_false_or_eq_true (within p.barriers 1 6) with h3 | h3
  rotate_left
  · have HB : Hid (progValid p = false) := Lib.hid (by unfold progValid; rw [h3]; simp)
    replace h3 := Lib.hid h3
    go_enter Try.func14, Try.ntmps14
    go_wp2_with fail
    refine (implWithin_any v.s v.ns v.cs p.sems 1 9 _ ls.out (by have := zz.out; omega) (hr.rs.below B0)).mono ?_
    rintro e w1 ⟨rfl, hb⟩
    rw [h1.out]
    have B1 := B0.trans (hb.mono B0.size)
    have k1 := k0.below hb
    clear hb
    have q0 : w1.cell? ⟨w.heap.size, 0, none⟩ = some (.slice v.s v.ns v.cs) := k1.cell 0 rfl
    have q1 : w1.cell? ⟨w.heap.size, 1, none⟩ = some (.slice v.g v.ng v.cg) := k1.cell 1 rfl
    have q2 : w1.cell? ⟨w.heap.size, 2, none⟩ = some (.slice v.b v.nb v.cb) := k1.cell 2 rfl
    have q3 : w1.cell? ⟨w.heap.size, 3, none⟩ = some (.slice v.r v.nr v.cr) := k1.cell 3 rfl
    have q4 : w1.cell? ⟨w.heap.size, 4, none⟩ = some (.slice v.t v.nt v.ct) := k1.cell 4 rfl
    go_wp2_with fail
    refine (implWithin_any v.g v.ng v.cg p.groups 0 9 _ lg.out (by have := zz.out; omega) (hr.rg.below B1)).mono ?_
    rintro e w2 ⟨rfl, hb⟩
    rw [h2.out]
    have B2 := B1.trans (hb.mono B1.size)
    have k2 := k1.below hb
    clear hb
    replace q0 : w2.cell? ⟨w.heap.size, 0, none⟩ = some (.slice v.s v.ns v.cs) := k2.cell 0 rfl
    replace q1 : w2.cell? ⟨w.heap.size, 1, none⟩ = some (.slice v.g v.ng v.cg) := k2.cell 1 rfl
    replace q2 : w2.cell? ⟨w.heap.size, 2, none⟩ = some (.slice v.b v.nb v.cb) := k2.cell 2 rfl
    replace q3 : w2.cell? ⟨w.heap.size, 3, none⟩ = some (.slice v.r v.nr v.cr) := k2.cell 3 rfl
    replace q4 : w2.cell? ⟨w.heap.size, 4, none⟩ = some (.slice v.t v.nt v.ct) := k2.cell 4 rfl
    go_wp2_with fail
    refine (implWithin_any v.b v.nb v.cb p.barriers 1 6 _ lb.out (by have := zz.out; omega) (hr.rb.below B2)).mono ?_
    rintro e w3 ⟨rfl, hb⟩
    rw [h3.out]
    have B3 := B2.trans (hb.mono B2.size)
    have k3 := k2.below hb
    clear hb
    replace q0 : w3.cell? ⟨w.heap.size, 0, none⟩ = some (.slice v.s v.ns v.cs) := k3.cell 0 rfl
    replace q1 : w3.cell? ⟨w.heap.size, 1, none⟩ = some (.slice v.g v.ng v.cg) := k3.cell 1 rfl
    replace q2 : w3.cell? ⟨w.heap.size, 2, none⟩ = some (.slice v.b v.nb v.cb) := k3.cell 2 rfl
    replace q3 : w3.cell? ⟨w.heap.size, 3, none⟩ = some (.slice v.r v.nr v.cr) := k3.cell 3 rfl
    replace q4 : w3.cell? ⟨w.heap.size, 4, none⟩ = some (.slice v.t v.nt v.ct) := k3.cell 4 rfl
    go_wp2
    go_ret
    exact ⟨ret_bool (by rw [HB.out]), B3⟩
  replace h3 := Lib.hid h3
  rcases Bool.eq_false_or_eq_true (within p.rooms 0 4) with h4 | h4
  rotate_left
  · have HB : Hid (progValid p = false) := Lib.hid (by unfold progValid; rw [h4]; simp)
    replace h4 := Lib.hid h4
    go_enter Try.func14, Try.ntmps14
    go_wp2_with fail
    refine (implWithin_any v.s v.ns v.cs p.sems 1 9 _ ls.out (by have := zz.out; omega) (hr.rs.below B0)).mono ?_
    rintro e w1 ⟨rfl, hb⟩
    rw [h1.out]
    have B1 := B0.trans (hb.mono B0.size)
    have k1 := k0.below hb
    clear hb
    have q0 : w1.cell? ⟨w.heap.size, 0, none⟩ = some (.slice v.s v.ns v.cs) := k1.cell 0 rfl
    have q1 : w1.cell? ⟨w.heap.size, 1, none⟩ = some (.slice v.g v.ng v.cg) := k1.cell 1 rfl
    have q2 : w1.cell? ⟨w.heap.size, 2, none⟩ = some (.slice v.b v.nb v.cb) := k1.cell 2 rfl
    have q3 : w1.cell? ⟨w.heap.size, 3, none⟩ = some (.slice v.r v.nr v.cr) := k1.cell 3 rfl
    have q4 : w1.cell? ⟨w.heap.size, 4, none⟩ = some (.slice v.t v.nt v.ct) := k1.cell 4 rfl
    go_wp2_with fail
    refine (implWithin_any v.g v.ng v.cg p.groups 0 9 _ lg.out (by have := zz.out; omega) (hr.rg.below B1)).mono ?_
    rintro e w2 ⟨rfl, hb⟩
    rw [h2.out]
    have B2 := B1.trans (hb.mono B1.size)
    have k2 := k1.below hb
    clear hb
    replace q0 : w2.cell? ⟨w.heap.size, 0, none⟩ = some (.slice v.s v.ns v.cs) := k2.cell 0 rfl
    replace q1 : w2.cell? ⟨w.heap.size, 1, none⟩ = some (.slice v.g v.ng v.cg) := k2.cell 1 rfl
    replace q2 : w2.cell? ⟨w.heap.size, 2, none⟩ = some (.slice v.b v.nb v.cb) := k2.cell 2 rfl
    replace q3 : w2.cell? ⟨w.heap.size, 3, none⟩ = some (.slice v.r v.nr v.cr) := k2.cell 3 rfl
    replace q4 : w2.cell? ⟨w.heap.size, 4, none⟩ = some (.slice v.t v.nt v.ct) := k2.cell 4 rfl
    go_wp2_with fail
    refine (implWithin_any v.b v.nb v.cb p.barriers 1 6 _ lb.out (by have := zz.out; omega) (hr.rb.below B2)).mono ?_
    rintro e w3 ⟨rfl, hb⟩
    rw [h3.out]
    have B3 := B2.trans (hb.mono B2.size)
    have k3 := k2.below hb
    clear hb
    replace q0 : w3.cell? ⟨w.heap.size, 0, none⟩ = some (.slice v.s v.ns v.cs) := k3.cell 0 rfl
    replace q1 : w3.cell? ⟨w.heap.size, 1, none⟩ = some (.slice v.g v.ng v.cg) := k3.cell 1 rfl
    replace q2 : w3.cell? ⟨w.heap.size, 2, none⟩ = some (.slice v.b v.nb v.cb) := k3.cell 2 rfl
    replace q3 : w3.cell? ⟨w.heap.size, 3, none⟩ = some (.slice v.r v.nr v.cr) := k3.cell 3 rfl
    replace q4 : w3.cell? ⟨w.heap.size, 4, none⟩ = some (.slice v.t v.nt v.ct) := k3.cell 4 rfl
    go_wp2_with fail
    refine (implWithin_any v.r v.nr v.cr p.rooms 0 4 _ lr.out (by have := zz.out; omega) (hr.rr.below B3)).mono ?_
    rintro e w4 ⟨rfl, hb⟩
    rw [h4.out]
    have B4 := B3.trans (hb.mono B3.size)
    have k4 := k3.below hb
    clear hb
    replace q0 : w4.cell? ⟨w.heap.size, 0, none⟩ = some (.slice v.s v.ns v.cs) := k4.cell 0 rfl
    replace q1 : w4.cell? ⟨w.heap.size, 1, none⟩ = some (.slice v.g v.ng v.cg) := k4.cell 1 rfl
    replace q2 : w4.cell? ⟨w.heap.size, 2, none⟩ = some (.slice v.b v.nb v.cb) := k4.cell 2 rfl
    replace q3 : w4.cell? ⟨w.heap.size, 3, none⟩ = some (.slice v.r v.nr v.cr) := k4.cell 3 rfl
    replace q4 : w4.cell? ⟨w.heap.size, 4, none⟩ = some (.slice v.t v.nt v.ct) := k4.cell 4 rfl
    go_wp2
    go_ret
    exact ⟨ret_bool (by rw [HB.out]), B4⟩
  replace h4 := Lib.hid h4
  by_cases h5 : v.nt < 1
  · have HB : Hid (progValid p = false) := Lib.hid (by
      have := lt.out
      unfold progValid
      rw [show decide (1 ≤ p.threads.length) = false from decide_eq_false (by omega)]; simp)
    have t5 : decide ((v.nt : Int) < 1) = true := by simp; omega
    go_enter Try.func14, Try.ntmps14
    go_wp2_with fail
    refine (implWithin_any v.s v.ns v.cs p.sems 1 9 _ ls.out (by have := zz.out; omega) (hr.rs.below B0)).mono ?_
    rintro e w1 ⟨rfl, hb⟩
    rw [h1.out]
    have B1 := B0.trans (hb.mono B0.size)
    have k1 := k0.below hb
    clear hb
    have q0 : w1.cell? ⟨w.heap.size, 0, none⟩ = some (.slice v.s v.ns v.cs) := k1.cell 0 rfl
    have q1 : w1.cell? ⟨w.heap.size, 1, none⟩ = some (.slice v.g v.ng v.cg) := k1.cell 1 rfl
    have q2 : w1.cell? ⟨w.heap.size, 2, none⟩ = some (.slice v.b v.nb v.cb) := k1.cell 2 rfl
    have q3 : w1.cell? ⟨w.heap.size, 3, none⟩ = some (.slice v.r v.nr v.cr) := k1.cell 3 rfl
    have q4 : w1.cell? ⟨w.heap.size, 4, none⟩ = some (.slice v.t v.nt v.ct) := k1.cell 4 rfl
    go_wp2_with fail
    refine (implWithin_any v.g v.ng v.cg p.groups 0 9 _ lg.out (by have := zz.out; omega) (hr.rg.below B1)).mono ?_
    rintro e w2 ⟨rfl, hb⟩
    rw [h2.out]
    have B2 := B1.trans (hb.mono B1.size)
    have k2 := k1.below hb
    clear hb
    replace q0 : w2.cell? ⟨w.heap.size, 0, none⟩ = some (.slice v.s v.ns v.cs) := k2.cell 0 rfl
    replace q1 : w2.cell? ⟨w.heap.size, 1, none⟩ = some (.slice v.g v.ng v.cg) := k2.cell 1 rfl
    replace q2 : w2.cell? ⟨w.heap.size, 2, none⟩ = some (.slice v.b v.nb v.cb) := k2.cell 2 rfl
    replace q3 : w2.cell? ⟨w.heap.size, 3, none⟩ = some (.slice v.r v.nr v.cr) := k2.cell 3 rfl
    replace q4 : w2.cell? ⟨w.heap.size, 4, none⟩ = some (.slice v.t v.nt v.ct) := k2.cell 4 rfl
    go_wp2_with fail
    refine (implWithin_any v.b v.nb v.cb p.barriers 1 6 _ lb.out (by have := zz.out; omega) (hr.rb.below B2)).mono ?_
    rintro e w3 ⟨rfl, hb⟩
    rw [h3.out]
    have B3 := B2.trans (hb.mono B2.size)
    have k3 := k2.below hb
    clear hb
    replace q0 : w3.cell? ⟨w.heap.size, 0, none⟩ = some (.slice v.s v.ns v.cs) := k3.cell 0 rfl
    replace q1 : w3.cell? ⟨w.heap.size, 1, none⟩ = some (.slice v.g v.ng v.cg) := k3.cell 1 rfl
    replace q2 : w3.cell? ⟨w.heap.size, 2, none⟩ = some (.slice v.b v.nb v.cb) := k3.cell 2 rfl
    replace q3 : w3.cell? ⟨w.heap.size, 3, none⟩ = some (.slice v.r v.nr v.cr) := k3.cell 3 rfl
    replace q4 : w3.cell? ⟨w.heap.size, 4, none⟩ = some (.slice v.t v.nt v.ct) := k3.cell 4 rfl
    go_wp2_with fail
    refine (implWithin_any v.r v.nr v.cr p.rooms 0 4 _ lr.out (by have := zz.out; omega) (hr.rr.below B3)).mono ?_
    rintro e w4 ⟨rfl, hb⟩
    rw [h4.out]
    have B4 := B3.trans (hb.mono B3.size)
    have k4 := k3.below hb
    clear hb
    replace q0 : w4.cell? ⟨w.heap.size, 0, none⟩ = some (.slice v.s v.ns v.cs) := k4.cell 0 rfl
    replace q1 : w4.cell? ⟨w.heap.size, 1, none⟩ = some (.slice v.g v.ng v.cg) := k4.cell 1 rfl
    replace q2 : w4.cell? ⟨w.heap.size, 2, none⟩ = some (.slice v.b v.nb v.cb) := k4.cell 2 rfl
    replace q3 : w4.cell? ⟨w.heap.size, 3, none⟩ = some (.slice v.r v.nr v.cr) := k4.cell 3 rfl
    replace q4 : w4.cell? ⟨w.heap.size, 4, none⟩ = some (.slice v.t v.nt v.ct) := k4.cell 4 rfl
    go_wp2
    go_ret
    exact ⟨ret_bool (by rw [HB.out]), B4⟩
  have t5 : decide ((v.nt : Int) < 1) = false := by simp; omega
  by_cases h6 : 4 < v.nt
  · have HB : Hid (progValid p = false) := Lib.hid (by
      have := lt.out
      unfold progValid
      rw [show decide (p.threads.length ≤ 4) = false from decide_eq_false (by omega)]; simp)
    have t6 : decide ((4 : Int) < v.nt) = true := by simp; omega
    go_enter Try.func14, Try.ntmps14
    go_wp2_with fail
    refine (implWithin_any v.s v.ns v.cs p.sems 1 9 _ ls.out (by have := zz.out; omega) (hr.rs.below B0)).mono ?_
    rintro e w1 ⟨rfl, hb⟩
    rw [h1.out]
    have B1 := B0.trans (hb.mono B0.size)
    have k1 := k0.below hb
    clear hb
    have q0 : w1.cell? ⟨w.heap.size, 0, none⟩ = some (.slice v.s v.ns v.cs) := k1.cell 0 rfl
    have q1 : w1.cell? ⟨w.heap.size, 1, none⟩ = some (.slice v.g v.ng v.cg) := k1.cell 1 rfl
    have q2 : w1.cell? ⟨w.heap.size, 2, none⟩ = some (.slice v.b v.nb v.cb) := k1.cell 2 rfl
    have q3 : w1.cell? ⟨w.heap.size, 3, none⟩ = some (.slice v.r v.nr v.cr) := k1.cell 3 rfl
    have q4 : w1.cell? ⟨w.heap.size, 4, none⟩ = some (.slice v.t v.nt v.ct) := k1.cell 4 rfl
    go_wp2_with fail
    refine (implWithin_any v.g v.ng v.cg p.groups 0 9 _ lg.out (by have := zz.out; omega) (hr.rg.below B1)).mono ?_
    rintro e w2 ⟨rfl, hb⟩
    rw [h2.out]
    have B2 := B1.trans (hb.mono B1.size)
    have k2 := k1.below hb
    clear hb
    replace q0 : w2.cell? ⟨w.heap.size, 0, none⟩ = some (.slice v.s v.ns v.cs) := k2.cell 0 rfl
    replace q1 : w2.cell? ⟨w.heap.size, 1, none⟩ = some (.slice v.g v.ng v.cg) := k2.cell 1 rfl
    replace q2 : w2.cell? ⟨w.heap.size, 2, none⟩ = some (.slice v.b v.nb v.cb) := k2.cell 2 rfl
    replace q3 : w2.cell? ⟨w.heap.size, 3, none⟩ = some (.slice v.r v.nr v.cr) := k2.cell 3 rfl
    replace q4 : w2.cell? ⟨w.heap.size, 4, none⟩ = some (.slice v.t v.nt v.ct) := k2.cell 4 rfl
    go_wp2_with fail
    refine (implWithin_any v.b v.nb v.cb p.barriers 1 6 _ lb.out (by have := zz.out; omega) (hr.rb.below B2)).mono ?_
    rintro e w3 ⟨rfl, hb⟩
    rw [h3.out]
    have B3 := B2.trans (hb.mono B2.size)
    have k3 := k2.below hb
    clear hb
    replace q0 : w3.cell? ⟨w.heap.size, 0, none⟩ = some (.slice v.s v.ns v.cs) := k3.cell 0 rfl
    replace q1 : w3.cell? ⟨w.heap.size, 1, none⟩ = some (.slice v.g v.ng v.cg) := k3.cell 1 rfl
    replace q2 : w3.cell? ⟨w.heap.size, 2, none⟩ = some (.slice v.b v.nb v.cb) := k3.cell 2 rfl
    replace q3 : w3.cell? ⟨w.heap.size, 3, none⟩ = some (.slice v.r v.nr v.cr) := k3.cell 3 rfl
    replace q4 : w3.cell? ⟨w.heap.size, 4, none⟩ = some (.slice v.t v.nt v.ct) := k3.cell 4 rfl
    go_wp2_with fail
    refine (implWithin_any v.r v.nr v.cr p.rooms 0 4 _ lr.out (by have := zz.out; omega) (hr.rr.below B3)).mono ?_
    rintro e w4 ⟨rfl, hb⟩
    rw [h4.out]
    have B4 := B3.trans (hb.mono B3.size)
    have k4 := k3.below hb
    clear hb
    replace q0 : w4.cell? ⟨w.heap.size, 0, none⟩ = some (.slice v.s v.ns v.cs) := k4.cell 0 rfl
    replace q1 : w4.cell? ⟨w.heap.size, 1, none⟩ = some (.slice v.g v.ng v.cg) := k4.cell 1 rfl
    replace q2 : w4.cell? ⟨w.heap.size, 2, none⟩ = some (.slice v.b v.nb v.cb) := k4.cell 2 rfl
    replace q3 : w4.cell? ⟨w.heap.size, 3, none⟩ = some (.slice v.r v.nr v.cr) := k4.cell 3 rfl
    replace q4 : w4.cell? ⟨w.heap.size, 4, none⟩ = some (.slice v.t v.nt v.ct) := k4.cell 4 rfl
    go_wp2
    go_ret
    exact ⟨ret_bool (by rw [HB.out]), B4⟩
  have t6 : decide ((4 : Int) < v.nt) = false := by simp; omega
  obtain ⟨vs, hT⟩ := hr.rt
  go_enter Try.func14, Try.ntmps14
  go_wp2_with fail
  refine (implWithin_any v.s v.ns v.cs p.sems 1 9 _ ls.out (by have := zz.out; omega) (hr.rs.below B0)).mono ?_
  rintro e w1 ⟨rfl, hb⟩
  rw [h1.out]
  have B1 := B0.trans (hb.mono B0.size)
  have k1 := k0.below hb
  clear hb
  have q0 : w1.cell? ⟨w.heap.size, 0, none⟩ = some (.slice v.s v.ns v.cs) := k1.cell 0 rfl
  have q1 : w1.cell? ⟨w.heap.size, 1, none⟩ = some (.slice v.g v.ng v.cg) := k1.cell 1 rfl
  have q2 : w1.cell? ⟨w.heap.size, 2, none⟩ = some (.slice v.b v.nb v.cb) := k1.cell 2 rfl
  have q3 : w1.cell? ⟨w.heap.size, 3, none⟩ = some (.slice v.r v.nr v.cr) := k1.cell 3 rfl
  have q4 : w1.cell? ⟨w.heap.size, 4, none⟩ = some (.slice v.t v.nt v.ct) := k1.cell 4 rfl
  go_wp2_with fail
  refine (implWithin_any v.g v.ng v.cg p.groups 0 9 _ lg.out (by have := zz.out; omega) (hr.rg.below B1)).mono ?_
  rintro e w2 ⟨rfl, hb⟩
  rw [h2.out]
  have B2 := B1.trans (hb.mono B1.size)
  have k2 := k1.below hb
  clear hb
  replace q0 : w2.cell? ⟨w.heap.size, 0, none⟩ = some (.slice v.s v.ns v.cs) := k2.cell 0 rfl
  replace q1 : w2.cell? ⟨w.heap.size, 1, none⟩ = some (.slice v.g v.ng v.cg) := k2.cell 1 rfl
  replace q2 : w2.cell? ⟨w.heap.size, 2, none⟩ = some (.slice v.b v.nb v.cb) := k2.cell 2 rfl
  replace q3 : w2.cell? ⟨w.heap.size, 3, none⟩ = some (.slice v.r v.nr v.cr) := k2.cell 3 rfl
  replace q4 : w2.cell? ⟨w.heap.size, 4, none⟩ = some (.slice v.t v.nt v.ct) := k2.cell 4 rfl
  go_wp2_with fail
  refine (implWithin_any v.b v.nb v.cb p.barriers 1 6 _ lb.out (by have := zz.out; omega) (hr.rb.below B2)).mono ?_
  rintro e w3 ⟨rfl, hb⟩
  rw [h3.out]
  have B3 := B2.trans (hb.mono B2.size)
  have k3 := k2.below hb
  clear hb
  replace q0 : w3.cell? ⟨w.heap.size, 0, none⟩ = some (.slice v.s v.ns v.cs) := k3.cell 0 rfl
  replace q1 : w3.cell? ⟨w.heap.size, 1, none⟩ = some (.slice v.g v.ng v.cg) := k3.cell 1 rfl
  replace q2 : w3.cell? ⟨w.heap.size, 2, none⟩ = some (.slice v.b v.nb v.cb) := k3.cell 2 rfl
  replace q3 : w3.cell? ⟨w.heap.size, 3, none⟩ = some (.slice v.r v.nr v.cr) := k3.cell 3 rfl
  replace q4 : w3.cell? ⟨w.heap.size, 4, none⟩ = some (.slice v.t v.nt v.ct) := k3.cell 4 rfl
  go_wp2_with fail
  refine (implWithin_any v.r v.nr v.cr p.rooms 0 4 _ lr.out (by have := zz.out; omega) (hr.rr.below B3)).mono ?_
  rintro e w4 ⟨rfl, hb⟩
  rw [h4.out]
  have B4 := B3.trans (hb.mono B3.size)
  have k4 := k3.below hb
  clear hb
  replace q0 : w4.cell? ⟨w.heap.size, 0, none⟩ = some (.slice v.s v.ns v.cs) := k4.cell 0 rfl
  replace q1 : w4.cell? ⟨w.heap.size, 1, none⟩ = some (.slice v.g v.ng v.cg) := k4.cell 1 rfl
  replace q2 : w4.cell? ⟨w.heap.size, 2, none⟩ = some (.slice v.b v.nb v.cb) := k4.cell 2 rfl
  replace q3 : w4.cell? ⟨w.heap.size, 3, none⟩ = some (.slice v.r v.nr v.cr) := k4.cell 3 rfl
  replace q4 : w4.cell? ⟨w.heap.size, 4, none⟩ = some (.slice v.t v.nt v.ct) := k4.cell 4 rfl
  go_wp2
  clear k0 k1 k2 k3 B0 B1 B2 B3
  obtain ⟨b1, o1, ea, g1'⟩ := (hT.below B4).thread (by have := lt.out; omega)
  rw [ea] at q4
  have HRP : Hid (∀ w', RdP w' v p → RdP w' ⟨v.s, v.ns, v.cs, v.g, v.ng, v.cg, v.b, v.nb, v.cb, v.r, v.nr, v.cr, some ⟨b1, o1, none⟩, v.nt, v.ct⟩ p) := Lib.hid (by rw [← ea]; exact fun _ h => h)
  have G1 := Lib.hid g1'
  rw [ea]
  clear g1' ea hT w1 w2 w3
  go_loopw [44] (fun i wr => ∃ i' : Nat, i' ≤ v.nt ∧ i = .int .i64 i' ∧ Hid (∀ j, j < i' → (p.threads.getD j []).length ≤ 8 ∧ ∀ k, k < (p.threads.getD j []).length → opValid p ((p.threads.getD j []).getD k noOp) = true) ∧ Below w4.heap.size w4 wr) (fun i _ => v.nt - (intOf i).toNat)
  case atStart => exact ⟨0, by omega, rfl, Lib.hid (by omega), Below.refl _ _⟩
  case round =>
    obtain ⟨i, hi, rfl, hall, hb0⟩ := hrel
    have c0 := keepc hb0 q0
    have c1 := keepc hb0 q1
    have c2 := keepc hb0 q2
    have c3 := keepc hb0 q3
    have c4 := keepc hb0 q4
    have B0 : Below w.heap.size w wr := B4.trans (hb0.mono B4.size)
    by_cases hlt : i < v.nt
    · obtain ⟨wo, hwo⟩ : ∃ wo : World, wo = wr := ⟨_, rfl⟩
      rw [← hwo] at hb0 c0 c1 c2 c3 c4 B0 ⊢
      clear hwo wr
      obtain ⟨a2, x2, g1, r2⟩ := G1.out i (by have := lt.out; omega)
      obtain ⟨m, hm⟩ : ∃ m, m = (p.threads.getD i []).length := ⟨_, rfl⟩
      rw [← hm] at g1
      replace g1 := keepc hb0 g1
      replace r2 := r2.below hb0
      have hmm := Z6.out i
      rw [← hm] at hmm
      have HM := Lib.hid hm
      clear hm
      by_cases hm8 : 8 < m
      · have e9 : decide ((8 : Int) < m) = true := by simp; omega
        have HB : Hid (progValid p = false) := Lib.hid (thread_long (i := i) (by have := lt.out; omega) (by have := HM.out; omega))
        go_wp2
        go_ret
        exact ⟨ret_bool (by rw [HB.out]), B0⟩
      have e9 : decide ((8 : Int) < m) = false := by simp; omega
      go_wp2
      go_loopw [53] (fun j wk => ∃ k : Nat, k ≤ m ∧ j = .int .i64 k ∧ Hid (∀ j, j < k → opValid p ((p.threads.getD i []).getD j noOp) = true) ∧ Below wo.heap.size wo wk) (fun j _ => m - (intOf j).toNat)
      case atStart => exact ⟨0, by omega, rfl, Lib.hid (by omega), Below.refl _ _⟩
      case round =>
        obtain ⟨k, hk, rfl, hok, hbk⟩ := hrel
        have d0 := keepc hbk c0
        have d1 := keepc hbk c1
        have d2 := keepc hbk c2
        have d3 := keepc hbk c3
        have d4 := keepc hbk c4
        have B1 : Below w.heap.size w wr := B0.trans (hbk.mono B0.size)
        have BW : Below w4.heap.size w4 wr := hb0.trans (hbk.mono hb0.size)
        by_cases hkl : k < m
        · obtain ⟨b2, o2, ea2, g2'⟩ := r2.op (by have := HM.out; omega)
          obtain ⟨g2a, g2b, g2c⟩ := g2' k (by have := HM.out; omega)
          obtain ⟨o, ho⟩ : ∃ o, o = (p.threads.getD i []).getD k noOp := ⟨_, rfl⟩
          rw [← ho] at g2a g2b g2c
          replace g2a := keepc hbk g2a
          replace g2b := keepc hbk g2b
          replace g2c := keepc hbk g2c
          have HO := Lib.hid ho
          subst ea2
          clear g2' ho
          have bA : Below wr.heap.size wr (wr.alloc (.cells #[.int .i64 o.kind, .int .i64 o.on, .int .i64 o.arg] 44)) := (Below.refl _ _).alloc (Nat.le_refl _) _
          have e0 := keepc bA d0
          have e1 := keepc bA d1
          have e2 := keepc bA d2
          have e3 := keepc bA d3
          have e4 := keepc bA d4
          have HR2 : Hid (RdP (wr.alloc (.cells #[.int .i64 o.kind, .int .i64 o.on, .int .i64 o.arg] 44)) ⟨v.s, v.ns, v.cs, v.g, v.ng, v.cg, v.b, v.nb, v.cb, v.r, v.nr, v.cr, some ⟨b1, o1, none⟩, v.nt, v.ct⟩ p) := Lib.hid (HRP.out _ ((hr.below B1).below bA))
          rcases Bool.eq_false_or_eq_true (opValid p o) with hv | hv
          · have HV := Lib.hid hv
            clear hv
            go_wp2_with fail
            refine (implOpValid_any ⟨v.s, v.ns, v.cs, v.g, v.ng, v.cg, v.b, v.nb, v.cb, v.r, v.nr, v.cr, some ⟨b1, o1, none⟩, v.nt, v.ct⟩ p o _ HR2.out zz.out).mono ?_
            rintro e w2 ⟨rfl, hb3⟩
            rw [HV.out]
            have hbw : Below wr.heap.size wr w2 := bA.trans (hb3.mono bA.size)
            clear bA hb3
            go_wp2
            go_roundw
            case rel => exact ⟨k + 1, by omega, by go_num, Lib.hid (fun j hj => by
              rcases Nat.lt_or_ge j k with h | h
              · exact hok.out j h
              · have : j = k := by omega
                subst this
                rw [← HO.out]; exact HV.out), hbk.trans (hbw.mono hbk.size)⟩
            case measure => simp [intOf]; omega
          · have HV := Lib.hid hv
            clear hv
            have HB : Hid (progValid p = false) := Lib.hid (thread_bad (i := i) (k := k) (by have := lt.out; omega) (by have := HM.out; omega) (by rw [← HO.out]; exact HV.out))
            go_wp2_with fail
            refine (implOpValid_any ⟨v.s, v.ns, v.cs, v.g, v.ng, v.cg, v.b, v.nb, v.cb, v.r, v.nr, v.cr, some ⟨b1, o1, none⟩, v.nt, v.ct⟩ p o _ HR2.out zz.out).mono ?_
            rintro e w2 ⟨rfl, hb3⟩
            rw [HV.out]
            have hbw : Below wr.heap.size wr w2 := bA.trans (hb3.mono bA.size)
            clear bA hb3
            go_wp2
            go_ret
            exact ⟨ret_bool (by rw [HB.out]), B1.trans (hbw.mono B1.size)⟩
        · have hkm : k = m := by omega
          subst hkm
          go_wp2
          go_roundw
          case rel => exact ⟨i + 1, by omega, by go_num, Lib.hid (fun j hj => by
            rcases Nat.lt_or_ge j i with h | h
            · exact hall.out j h
            · have : j = i := by omega
              subst this
              exact ⟨by rw [← HM.out]; omega, by rw [← HM.out]; exact hok.out⟩), BW⟩
          case measure => simp [intOf]; omega
    · have hkm : i = v.nt := by omega
      subst hkm
      have HB : Hid (progValid p = true) := Lib.hid (threads_good h1.out h2.out h3.out h4.out (by have := lt.out; omega) (by have := lt.out; omega) (by rw [lt.out]; exact hall.out))
      go_wp2
      go_ret
      exact ⟨ret_bool (by rw [HB.out]), B0⟩

end Go.Proofs.Ytnobkdkfhgjeeab
