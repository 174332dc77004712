/- Which numbers are threads: the reference's text. -/
import Derived.Test.YtnobkdkfhgjeeabChangeKit
namespace Go.Proofs.Ytnobkdkfhgjeeab
open Go.RowKit

def isThr (p : Pg) (t : Int) : Bool := progValid p && (decide (0 ≤ t) && decide (t < p.threads.length))
theorem isThr_iff {p : Pg} {t : Int} : isThr p t = true ↔ progValid p = true ∧ 0 ≤ t ∧ t < p.threads.length := by
  unfold isThr; simp
theorem change_of {p : Pg} {t : Int} {res : Option Pg} (h : isThr p t = true) : changeP p t res = res := by
  unfold changeP; rw [if_pos (isThr_iff.1 h)]
theorem change_not {p : Pg} {t : Int} {res : Option Pg} (h : isThr p t = false) : changeP p t res = none := by
  unfold changeP
  rw [if_neg (fun h' => by rw [isThr_iff.2 h'] at h; cases h)]

set_option maxRecDepth 100000 in
set_option maxHeartbeats 2000000 in
theorem l11Thread_any (v : PV) (p : Pg) (t : Int) (w : World) (hr : RdP w v p) (hz : Small v p) :
    Calls Try.prog 41 #[.agg #[.slice v.s v.ns v.cs, .slice v.g v.ng v.cg, .slice v.b v.nb v.cb, .slice v.r v.nr v.cr, .slice v.t v.nt v.ct], .int .i64 t] w fun e w' => e = .returned (.bool (isThr p t)) ∧ Below w.heap.size w w' := by
  have hs : v.ns ≤ maxLen ∧ v.ng ≤ maxLen ∧ v.nb ≤ maxLen ∧ v.nr ≤ maxLen := by
    obtain ⟨z1, z2, z3, z4, z5, z6⟩ := hz; unfold maxLen; omega
  have zz : Hid (v.ns ≤ maxLen ∧ v.ng ≤ maxLen ∧ v.nb ≤ maxLen ∧ v.nr ≤ maxLen) := Lib.hid hs
  have HZ := Lib.hid hz
  have z5 : v.nt ≤ 1048576 := hz.lt
  have Z6 := Lib.hid hz.inn
  have ls := Lib.hid hr.ls
  have lg := Lib.hid hr.lg
  have lb := Lib.hid hr.lb
  have lr := Lib.hid hr.lr
  have lt := Lib.hid hr.lt
  clear hz
  have B0 : Below w.heap.size w (w.alloc (.cells #[.slice v.s v.ns v.cs, .slice v.g v.ng v.cg, .slice v.b v.nb v.cb, .slice v.r v.nr v.cr, .slice v.t v.nt v.ct] 26)) := (Below.refl _ _).alloc (Nat.le_refl _) _
  have k0 : Blk (w.alloc (.cells #[.slice v.s v.ns v.cs, .slice v.g v.ng v.cg, .slice v.b v.nb v.cb, .slice v.r v.nr v.cr, .slice v.t v.nt v.ct] 26)) w.heap.size #[.slice v.s v.ns v.cs, .slice v.g v.ng v.cg, .slice v.b v.nb v.cb, .slice v.r v.nr v.cr, .slice v.t v.nt v.ct] 26 := Blk.new _ _ _
  have q0 : (w.alloc (.cells #[.slice v.s v.ns v.cs, .slice v.g v.ng v.cg, .slice v.b v.nb v.cb, .slice v.r v.nr v.cr, .slice v.t v.nt v.ct] 26)).cell? ⟨w.heap.size, 0, none⟩ = some (.slice v.s v.ns v.cs) := k0.cell 0 rfl
  have q1 : (w.alloc (.cells #[.slice v.s v.ns v.cs, .slice v.g v.ng v.cg, .slice v.b v.nb v.cb, .slice v.r v.nr v.cr, .slice v.t v.nt v.ct] 26)).cell? ⟨w.heap.size, 1, none⟩ = some (.slice v.g v.ng v.cg) := k0.cell 1 rfl
  have q2 : (w.alloc (.cells #[.slice v.s v.ns v.cs, .slice v.g v.ng v.cg, .slice v.b v.nb v.cb, .slice v.r v.nr v.cr, .slice v.t v.nt v.ct] 26)).cell? ⟨w.heap.size, 2, none⟩ = some (.slice v.b v.nb v.cb) := k0.cell 2 rfl
  have q3 : (w.alloc (.cells #[.slice v.s v.ns v.cs, .slice v.g v.ng v.cg, .slice v.b v.nb v.cb, .slice v.r v.nr v.cr, .slice v.t v.nt v.ct] 26)).cell? ⟨w.heap.size, 3, none⟩ = some (.slice v.r v.nr v.cr) := k0.cell 3 rfl
  have q4 : (w.alloc (.cells #[.slice v.s v.ns v.cs, .slice v.g v.ng v.cg, .slice v.b v.nb v.cb, .slice v.r v.nr v.cr, .slice v.t v.nt v.ct] 26)).cell? ⟨w.heap.size, 4, none⟩ = some (.slice v.t v.nt v.ct) := k0.cell 4 rfl
  clear k0
  rcases Bool.eq_false_or_eq_true (progValid p) with hv | hv
  rotate_left
  · have HB : Hid (isThr p t = false) := Lib.hid (by unfold isThr; rw [hv]; rfl)
    have HV := Lib.hid hv
    clear hv
    go_enter Try.func41, Try.ntmps41
    go_wp2_with fail
    refine (specProgValid_any v p _ (hr.below B0) HZ.out).mono ?_
    rintro e w1 ⟨rfl, hb⟩
    rw [HV.out]
    replace q4 := keepc hb q4
    replace B0 := B0.trans (hb.mono B0.size)
    clear hb
    go_wp2
    go_ret
    exact ⟨ret_bool HB.out.symm, B0⟩
  by_cases h0 : 0 ≤ t
  rotate_left
  · have t0 : decide (0 ≤ t) = false := decide_eq_false h0
    have HB : Hid (isThr p t = false) := Lib.hid (by unfold isThr; rw [t0]; simp)
    have HV := Lib.hid hv
    clear hv h0
    go_enter Try.func41, Try.ntmps41
    go_wp2_with fail
    refine (specProgValid_any v p _ (hr.below B0) HZ.out).mono ?_
    rintro e w1 ⟨rfl, hb⟩
    rw [HV.out]
    replace q4 := keepc hb q4
    replace B0 := B0.trans (hb.mono B0.size)
    clear hb
    go_wp2
    go_ret
    exact ⟨ret_bool HB.out.symm, B0⟩
  have t0 : decide (0 ≤ t) = true := decide_eq_true h0
  by_cases h1 : t < v.nt
  rotate_left
  · have t1 : decide (t < (v.nt : Int)) = false := decide_eq_false h1
    have HB : Hid (isThr p t = false) := Lib.hid (by unfold isThr; rw [lt.out, t1]; simp)
    have HV := Lib.hid hv
    clear hv h1
    go_enter Try.func41, Try.ntmps41
    go_wp2_with fail
    refine (specProgValid_any v p _ (hr.below B0) HZ.out).mono ?_
    rintro e w1 ⟨rfl, hb⟩
    rw [HV.out]
    replace q4 := keepc hb q4
    replace B0 := B0.trans (hb.mono B0.size)
    clear hb
    go_wp2
    go_ret
    exact ⟨ret_bool HB.out.symm, B0⟩
  have t1 : decide (t < (v.nt : Int)) = true := decide_eq_true h1
  have HB : Hid (isThr p t = true) := Lib.hid (by unfold isThr; rw [lt.out, t1, t0, hv]; rfl)
  have HV := Lib.hid hv
  clear hv
  go_enter Try.func41, Try.ntmps41
  go_wp2_with fail
  refine (specProgValid_any v p _ (hr.below B0) HZ.out).mono ?_
  rintro e w1 ⟨rfl, hb⟩
  rw [HV.out]
  replace q4 := keepc hb q4
  replace B0 := B0.trans (hb.mono B0.size)
  clear hb
  go_wp2
  go_ret
  exact ⟨ret_bool HB.out.symm, B0⟩

end Go.Proofs.Ytnobkdkfhgjeeab
