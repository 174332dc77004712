/- Which operations are valid: the program's own text. -/
import Derived.Test.YtnobkdkfhgjeeabImplValid
namespace Go.Proofs.Ytnobkdkfhgjeeab
open Go.RowKit Go.Sort

/-- 'on': whether there is such a thing. -/
theorem onFn_any (a : Option Addr) (n c : Nat) (on : Int) (b : Nat) (w : World) (_hn : n ≤ maxLen) (h1 : w.cell? ⟨b, 1, none⟩ = some (.int .i64 on)) :
    Calls Try.prog 85 #[.slice a n c, .pointer (some ⟨b, 0, none⟩)] w fun e w' => e = .returned (.bool (decide (0 ≤ on) && decide (on < n))) ∧ w' = w := by
  unfold maxLen at _hn
  by_cases h : 0 ≤ on
  · have hd : decide (0 ≤ on) = true := decide_eq_true h
    rw [hd, Bool.true_and]
    go_enter Try.func85, Try.ntmps85
    go_wp2
    go_ret
    exact ⟨rfl, rfl⟩
  · have hd : decide (0 ≤ on) = false := decide_eq_false h
    rw [hd, Bool.false_and]
    go_enter Try.func85, Try.ntmps85
    go_wp2
    go_ret
    exact ⟨rfl, rfl⟩

theorem opValid_no {p : Pg} {o : OpD} (h : ¬ (1 ≤ o.kind ∧ o.kind ≤ 10)) : opValid p o = false := by
  unfold opValid; rw [← Bool.decide_and, decide_eq_false h]; simp
theorem opValid_off {p : Pg} {o : OpD} (h : ¬ (0 ≤ o.on ∧ o.on < shared p o.kind)) : opValid p o = false := by
  unfold opValid
  by_cases h0 : 0 ≤ o.on
  · rw [decide_eq_false (fun h1 : o.on < shared p o.kind => h ⟨h0, h1⟩)]; simp
  · rw [decide_eq_false h0]; simp
theorem opValid_on {p : Pg} {o : OpD} (hk : 1 ≤ o.kind ∧ o.kind ≤ 10) (h : 0 ≤ o.on ∧ o.on < shared p o.kind) : opValid p o = argOk p o := by
  unfold opValid
  rw [decide_eq_true hk.1, decide_eq_true hk.2, decide_eq_true h.1, decide_eq_true h.2]; simp

set_option maxRecDepth 100000 in
set_option maxHeartbeats 4000000 in
theorem implOpValid_any (v : PV) (p : Pg) (o : OpD) (w : World) (hr : RdP w v p) (hs : v.ns ≤ maxLen ∧ v.ng ≤ maxLen ∧ v.nb ≤ maxLen ∧ v.nr ≤ maxLen) :
    Calls Try.prog 48 #[.agg #[.slice v.s v.ns v.cs, .slice v.g v.ng v.cg, .slice v.b v.nb v.cb, .slice v.r v.nr v.cr, .slice v.t v.nt v.ct], .agg #[.int .i64 o.kind, .int .i64 o.on, .int .i64 o.arg]] w fun e w' => e = .returned (.bool (opValid p o)) ∧ Below w.heap.size w w' := by
  have hmf : ∀ (fn : Fn) (first cap : Array Value) (w : World), (Instr.makeFunc fn first cap).run Try.prog w = .ok (.func fn first cap) w := fun _ _ _ _ => rfl
  have kP : Blk ((w.alloc (.cells #[.slice v.s v.ns v.cs, .slice v.g v.ng v.cg, .slice v.b v.nb v.cb, .slice v.r v.nr v.cr, .slice v.t v.nt v.ct] 26)).alloc (.cells #[.int .i64 o.kind, .int .i64 o.on, .int .i64 o.arg] 44)) w.heap.size #[.slice v.s v.ns v.cs, .slice v.g v.ng v.cg, .slice v.b v.nb v.cb, .slice v.r v.nr v.cr, .slice v.t v.nt v.ct] 26 := (Blk.new _ _ _).alloc _
  have kO : Blk ((w.alloc (.cells #[.slice v.s v.ns v.cs, .slice v.g v.ng v.cg, .slice v.b v.nb v.cb, .slice v.r v.nr v.cr, .slice v.t v.nt v.ct] 26)).alloc (.cells #[.int .i64 o.kind, .int .i64 o.on, .int .i64 o.arg] 44)) (w.heap.size + 1) #[.int .i64 o.kind, .int .i64 o.on, .int .i64 o.arg] 44 := by simpa using Blk.new (w.alloc (.cells #[.slice v.s v.ns v.cs, .slice v.g v.ng v.cg, .slice v.b v.nb v.cb, .slice v.r v.nr v.cr, .slice v.t v.nt v.ct] 26)) #[.int .i64 o.kind, .int .i64 o.on, .int .i64 o.arg] 44
  have b0 : Below w.heap.size w ((w.alloc (.cells #[.slice v.s v.ns v.cs, .slice v.g v.ng v.cg, .slice v.b v.nb v.cb, .slice v.r v.nr v.cr, .slice v.t v.nt v.ct] 26)).alloc (.cells #[.int .i64 o.kind, .int .i64 o.on, .int .i64 o.arg] 44)) := ((Below.refl _ _).alloc (Nat.le_refl _) _).alloc (by simp) _
  have k0 : ((w.alloc (.cells #[.slice v.s v.ns v.cs, .slice v.g v.ng v.cg, .slice v.b v.nb v.cb, .slice v.r v.nr v.cr, .slice v.t v.nt v.ct] 26)).alloc (.cells #[.int .i64 o.kind, .int .i64 o.on, .int .i64 o.arg] 44)).cell? ⟨w.heap.size + 1, 1, none⟩ = some (.int .i64 o.on) := kO.cell 1 rfl
  have ls := Lib.hid hr.ls
  have lg := Lib.hid hr.lg
  have lb := Lib.hid hr.lb
  have lr := Lib.hid hr.lr
  obtain ⟨zs, zg, zb, zr⟩ := hs
  obtain ⟨kd, on, ar⟩ := o
  simp only at k0 b0 kP kO
  by_cases hk : 1 ≤ kd ∧ kd ≤ 10
  rotate_left
  · have HB : Hid (opValid p ⟨kd, on, ar⟩ = false) := Lib.hid (opValid_no hk)
    have e1 : (kd == 1) = false := by simp; omega
    have e2 : (kd == 2) = false := by simp; omega
    have e3 : (kd == 3) = false := by simp; omega
    have e4 : (kd == 4) = false := by simp; omega
    have e5 : (kd == 5) = false := by simp; omega
    have e6 : (kd == 6) = false := by simp; omega
    have e7 : (kd == 7) = false := by simp; omega
    have e8 : (kd == 8) = false := by simp; omega
    have e9 : (kd == 9) = false := by simp; omega
    have e10 : (kd == 10) = false := by simp; omega
    clear kP kO k0
    go_enter Try.func48, Try.ntmps48
    go_wp2_with fail
    go_ret
    exact ⟨ret_bool (by rw [HB.out]), b0⟩
  have hk' : kd = 1 ∨ kd = 2 ∨ kd = 3 ∨ kd = 4 ∨ kd = 5 ∨ kd = 6 ∨ kd = 7 ∨ kd = 8 ∨ kd = 9 ∨ kd = 10 := by omega
  clear hk
  rcases hk' with rfl | rfl | rfl | rfl | rfl | rfl | rfl | rfl | rfl | rfl
  -- kind 1
  · by_cases h : on = 0
    · subst h
      have HB : Hid (opValid p ⟨1, 0, ar⟩ = isVal ar) := Lib.hid (opValid_on (by show (1 : Int) ≤ 1 ∧ (1 : Int) ≤ 10; decide) (by show (0 : Int) ≤ 0 ∧ (0 : Int) < ((1 : Nat) : Int); decide))
      clear kP kO k0
      go_enter Try.func48, Try.ntmps48
      go_wp2_with fail
      refine (isValue_any ar _).mono ?_
      rintro e w1 ⟨rfl, rfl⟩
      go_wp2
      go_ret
      exact ⟨ret_bool (by rw [HB.out]), b0⟩
    · have HB : Hid (opValid p ⟨1, on, ar⟩ = false) := Lib.hid (opValid_off (by show ¬ (0 ≤ on ∧ on < ((1 : Nat) : Int)); omega))
      have e0 : (on == 0) = false := by simpa using h
      clear kP kO k0
      go_enter Try.func48, Try.ntmps48
      go_wp2_with fail
      go_ret
      exact ⟨ret_bool (by rw [HB.out]), b0⟩
  -- kind 2
  · by_cases h : 0 ≤ on ∧ on < v.ns
    · have HC : Hid ((decide (0 ≤ on) && decide (on < v.ns)) = true) := Lib.hid (by rw [decide_eq_true h.1, decide_eq_true h.2]; rfl)
      have HO : Hid (opValid p ⟨2, on, ar⟩ = argOk p ⟨2, on, ar⟩) := Lib.hid (opValid_on (by show (1 : Int) ≤ 2 ∧ (2 : Int) ≤ 10; decide) (by show 0 ≤ on ∧ on < (shared p 2 : Int); rw [show shared p 2 = v.ns from ls.out]; exact h))
      obtain ⟨W0, hW0⟩ : ∃ W0 : World, W0 = ((w.alloc (.cells #[.slice v.s v.ns v.cs, .slice v.g v.ng v.cg, .slice v.b v.nb v.cb, .slice v.r v.nr v.cr, .slice v.t v.nt v.ct] 26)).alloc (.cells #[.int .i64 2, .int .i64 on, .int .i64 ar] 44)) := ⟨_, rfl⟩
      rw [← hW0] at kP kO b0 k0
      have HW0 := Lib.hid hW0
      clear hW0
      have c1 : W0.cell? ⟨w.heap.size, 0, none⟩ = some (.slice v.s v.ns v.cs) := kP.cell 0 rfl
      have c6 : W0.cell? ⟨w.heap.size + 1, 0, none⟩ = some (.int .i64 2) := kO.cell 0 rfl
      have c8 : W0.cell? ⟨w.heap.size + 1, 2, none⟩ = some (.int .i64 ar) := kO.cell 2 rfl
      have k1 := cell_regrown c1
      have k6 := cell_regrown c6
      have k7 := cell_regrown k0
      have k8 := cell_regrown c8
      clear kP kO
      have cF : Hid (∀ d os, Calls Try.prog 85 #[.slice v.s v.ns v.cs, .pointer (some ⟨w.heap.size + 1, 0, none⟩)] (grow (redrawn W0 d) os) fun e w'' => e = .returned (.bool true) ∧ ∃ p : Regrown, w'' = grow (redrawn W0 p.d) p.os) := Lib.hid (fun d os => regrown_same (by
        have := onFn_any v.s v.ns v.cs on (w.heap.size + 1) (grow (redrawn W0 d) os) zs (k7 d os); rw [HC.out] at this; exact this))
      obtain ⟨b, q, hsa, hc⟩ := hr.rs.int (by rw [hr.ls]; omega)
      have hcell := hc on.toNat (by rw [hr.ls]; omega)
      obtain ⟨x, hx⟩ : ∃ x, x = p.sems.getD on.toNat 0 := ⟨_, rfl⟩
      rw [← hx] at hcell
      have HA : Hid (argOk p ⟨2, on, ar⟩ = (decide (1 ≤ ar) && decide (ar ≤ x))) := Lib.hid (by rw [hx]; rfl)
      obtain ⟨on0, on1⟩ := h
      have k9 := cell_regrown (keepc b0 hcell)
      rw [hsa] at k1 cF HW0
      clear k0 hc hx hr ls lg lb lr hcell
      by_cases h1 : 1 ≤ ar
      · have d1 : decide (1 ≤ ar) = true := decide_eq_true h1
        go_enter Try.func48, Try.ntmps48
        go_wp2_with fail
        rw [← HW0.out]
        refine wp_region_quiet_below (by kernel_rfl) (by kernel_rfl) ?_
        repeat (go_big_quiet_step (exact cF.out _ _))
        refine wpQuiet_nil ?_
        intro w6 hw6
        have hbq : Below W0.heap.size W0 w6 := by
          obtain ⟨pq, rfl⟩ := hw6
          exact below_regrown _ _ _
        clear hw6
        go_wp2
        go_ret
        exact ⟨ret_bool (by rw [HO.out, HA.out, d1]; rfl), b0.trans (hbq.mono b0.size)⟩
      · have d1 : decide (1 ≤ ar) = false := decide_eq_false h1
        go_enter Try.func48, Try.ntmps48
        go_wp2_with fail
        rw [← HW0.out]
        refine wp_region_quiet_below (by kernel_rfl) (by kernel_rfl) ?_
        repeat (go_big_quiet_step (exact cF.out _ _))
        refine wpQuiet_nil ?_
        intro w6 hw6
        have hbq : Below W0.heap.size W0 w6 := by
          obtain ⟨pq, rfl⟩ := hw6
          exact below_regrown _ _ _
        clear hw6
        go_wp2
        go_ret
        exact ⟨ret_bool (by rw [HO.out, HA.out, d1]; rfl), b0.trans (hbq.mono b0.size)⟩
    · have HC : Hid ((decide (0 ≤ on) && decide (on < v.ns)) = false) := Lib.hid (by rw [← Bool.decide_and]; exact decide_eq_false h)
      have HB : Hid (opValid p ⟨2, on, ar⟩ = false) := Lib.hid (opValid_off (by show ¬ (0 ≤ on ∧ on < (shared p 2 : Int)); rw [show shared p 2 = v.ns from ls.out]; exact h))
      obtain ⟨W0, hW0⟩ : ∃ W0 : World, W0 = ((w.alloc (.cells #[.slice v.s v.ns v.cs, .slice v.g v.ng v.cg, .slice v.b v.nb v.cb, .slice v.r v.nr v.cr, .slice v.t v.nt v.ct] 26)).alloc (.cells #[.int .i64 2, .int .i64 on, .int .i64 ar] 44)) := ⟨_, rfl⟩
      rw [← hW0] at kP kO b0 k0
      have HW0 := Lib.hid hW0
      clear hW0
      have c1 : W0.cell? ⟨w.heap.size, 0, none⟩ = some (.slice v.s v.ns v.cs) := kP.cell 0 rfl
      have c6 : W0.cell? ⟨w.heap.size + 1, 0, none⟩ = some (.int .i64 2) := kO.cell 0 rfl
      have c8 : W0.cell? ⟨w.heap.size + 1, 2, none⟩ = some (.int .i64 ar) := kO.cell 2 rfl
      have k1 := cell_regrown c1
      have k6 := cell_regrown c6
      have k7 := cell_regrown k0
      have k8 := cell_regrown c8
      clear kP kO
      have cF : Hid (∀ d os, Calls Try.prog 85 #[.slice v.s v.ns v.cs, .pointer (some ⟨w.heap.size + 1, 0, none⟩)] (grow (redrawn W0 d) os) fun e w'' => e = .returned (.bool false) ∧ ∃ p : Regrown, w'' = grow (redrawn W0 p.d) p.os) := Lib.hid (fun d os => regrown_same (by
        have := onFn_any v.s v.ns v.cs on (w.heap.size + 1) (grow (redrawn W0 d) os) zs (k7 d os); rw [HC.out] at this; exact this))
      clear k0
      go_enter Try.func48, Try.ntmps48
      go_wp2_with fail
      rw [← HW0.out]
      refine wp_region_quiet_below (by kernel_rfl) (by kernel_rfl) ?_
      repeat (go_big_quiet_step (exact cF.out _ _))
      refine wpQuiet_nil ?_
      intro w6 hw6
      have hbq : Below W0.heap.size W0 w6 := by
        obtain ⟨pq, rfl⟩ := hw6
        exact below_regrown _ _ _
      clear hw6
      go_wp2
      go_ret
      exact ⟨ret_bool (by rw [HB.out]), b0.trans (hbq.mono b0.size)⟩
  -- kind 3
  · by_cases h : 0 ≤ on ∧ on < v.ns
    · have HC : Hid ((decide (0 ≤ on) && decide (on < v.ns)) = true) := Lib.hid (by rw [decide_eq_true h.1, decide_eq_true h.2]; rfl)
      have HO : Hid (opValid p ⟨3, on, ar⟩ = argOk p ⟨3, on, ar⟩) := Lib.hid (opValid_on (by show (1 : Int) ≤ 3 ∧ (3 : Int) ≤ 10; decide) (by show 0 ≤ on ∧ on < (shared p 3 : Int); rw [show shared p 3 = v.ns from ls.out]; exact h))
      obtain ⟨W0, hW0⟩ : ∃ W0 : World, W0 = ((w.alloc (.cells #[.slice v.s v.ns v.cs, .slice v.g v.ng v.cg, .slice v.b v.nb v.cb, .slice v.r v.nr v.cr, .slice v.t v.nt v.ct] 26)).alloc (.cells #[.int .i64 3, .int .i64 on, .int .i64 ar] 44)) := ⟨_, rfl⟩
      rw [← hW0] at kP kO b0 k0
      have HW0 := Lib.hid hW0
      clear hW0
      have c1 : W0.cell? ⟨w.heap.size, 0, none⟩ = some (.slice v.s v.ns v.cs) := kP.cell 0 rfl
      have c6 : W0.cell? ⟨w.heap.size + 1, 0, none⟩ = some (.int .i64 3) := kO.cell 0 rfl
      have c8 : W0.cell? ⟨w.heap.size + 1, 2, none⟩ = some (.int .i64 ar) := kO.cell 2 rfl
      have k1 := cell_regrown c1
      have k6 := cell_regrown c6
      have k7 := cell_regrown k0
      have k8 := cell_regrown c8
      clear kP kO
      have cF : Hid (∀ d os, Calls Try.prog 85 #[.slice v.s v.ns v.cs, .pointer (some ⟨w.heap.size + 1, 0, none⟩)] (grow (redrawn W0 d) os) fun e w'' => e = .returned (.bool true) ∧ ∃ p : Regrown, w'' = grow (redrawn W0 p.d) p.os) := Lib.hid (fun d os => regrown_same (by
        have := onFn_any v.s v.ns v.cs on (w.heap.size + 1) (grow (redrawn W0 d) os) zs (k7 d os); rw [HC.out] at this; exact this))
      obtain ⟨b, q, hsa, hc⟩ := hr.rs.int (by rw [hr.ls]; omega)
      have hcell := hc on.toNat (by rw [hr.ls]; omega)
      obtain ⟨x, hx⟩ : ∃ x, x = p.sems.getD on.toNat 0 := ⟨_, rfl⟩
      rw [← hx] at hcell
      have HA : Hid (argOk p ⟨3, on, ar⟩ = (decide (1 ≤ ar) && decide (ar ≤ x))) := Lib.hid (by rw [hx]; rfl)
      obtain ⟨on0, on1⟩ := h
      have k9 := cell_regrown (keepc b0 hcell)
      rw [hsa] at k1 cF HW0
      clear k0 hc hx hr ls lg lb lr hcell
      by_cases h1 : 1 ≤ ar
      · have d1 : decide (1 ≤ ar) = true := decide_eq_true h1
        go_enter Try.func48, Try.ntmps48
        go_wp2_with fail
        rw [← HW0.out]
        refine wp_region_quiet_below (by kernel_rfl) (by kernel_rfl) ?_
        repeat (go_big_quiet_step (exact cF.out _ _))
        refine wpQuiet_nil ?_
        intro w6 hw6
        have hbq : Below W0.heap.size W0 w6 := by
          obtain ⟨pq, rfl⟩ := hw6
          exact below_regrown _ _ _
        clear hw6
        go_wp2
        go_ret
        exact ⟨ret_bool (by rw [HO.out, HA.out, d1]; rfl), b0.trans (hbq.mono b0.size)⟩
      · have d1 : decide (1 ≤ ar) = false := decide_eq_false h1
        go_enter Try.func48, Try.ntmps48
        go_wp2_with fail
        rw [← HW0.out]
        refine wp_region_quiet_below (by kernel_rfl) (by kernel_rfl) ?_
        repeat (go_big_quiet_step (exact cF.out _ _))
        refine wpQuiet_nil ?_
        intro w6 hw6
        have hbq : Below W0.heap.size W0 w6 := by
          obtain ⟨pq, rfl⟩ := hw6
          exact below_regrown _ _ _
        clear hw6
        go_wp2
        go_ret
        exact ⟨ret_bool (by rw [HO.out, HA.out, d1]; rfl), b0.trans (hbq.mono b0.size)⟩
    · have HC : Hid ((decide (0 ≤ on) && decide (on < v.ns)) = false) := Lib.hid (by rw [← Bool.decide_and]; exact decide_eq_false h)
      have HB : Hid (opValid p ⟨3, on, ar⟩ = false) := Lib.hid (opValid_off (by show ¬ (0 ≤ on ∧ on < (shared p 3 : Int)); rw [show shared p 3 = v.ns from ls.out]; exact h))
      obtain ⟨W0, hW0⟩ : ∃ W0 : World, W0 = ((w.alloc (.cells #[.slice v.s v.ns v.cs, .slice v.g v.ng v.cg, .slice v.b v.nb v.cb, .slice v.r v.nr v.cr, .slice v.t v.nt v.ct] 26)).alloc (.cells #[.int .i64 3, .int .i64 on, .int .i64 ar] 44)) := ⟨_, rfl⟩
      rw [← hW0] at kP kO b0 k0
      have HW0 := Lib.hid hW0
      clear hW0
      have c1 : W0.cell? ⟨w.heap.size, 0, none⟩ = some (.slice v.s v.ns v.cs) := kP.cell 0 rfl
      have c6 : W0.cell? ⟨w.heap.size + 1, 0, none⟩ = some (.int .i64 3) := kO.cell 0 rfl
      have c8 : W0.cell? ⟨w.heap.size + 1, 2, none⟩ = some (.int .i64 ar) := kO.cell 2 rfl
      have k1 := cell_regrown c1
      have k6 := cell_regrown c6
      have k7 := cell_regrown k0
      have k8 := cell_regrown c8
      clear kP kO
      have cF : Hid (∀ d os, Calls Try.prog 85 #[.slice v.s v.ns v.cs, .pointer (some ⟨w.heap.size + 1, 0, none⟩)] (grow (redrawn W0 d) os) fun e w'' => e = .returned (.bool false) ∧ ∃ p : Regrown, w'' = grow (redrawn W0 p.d) p.os) := Lib.hid (fun d os => regrown_same (by
        have := onFn_any v.s v.ns v.cs on (w.heap.size + 1) (grow (redrawn W0 d) os) zs (k7 d os); rw [HC.out] at this; exact this))
      clear k0
      go_enter Try.func48, Try.ntmps48
      go_wp2_with fail
      rw [← HW0.out]
      refine wp_region_quiet_below (by kernel_rfl) (by kernel_rfl) ?_
      repeat (go_big_quiet_step (exact cF.out _ _))
      refine wpQuiet_nil ?_
      intro w6 hw6
      have hbq : Below W0.heap.size W0 w6 := by
        obtain ⟨pq, rfl⟩ := hw6
        exact below_regrown _ _ _
      clear hw6
      go_wp2
      go_ret
      exact ⟨ret_bool (by rw [HB.out]), b0.trans (hbq.mono b0.size)⟩
  -- kind 4
  · by_cases h1 : 0 ≤ on
    · have d1 : decide (0 ≤ on) = true := decide_eq_true h1
      by_cases h2 : on ≤ 2
      · have d2 : decide (on ≤ 2) = true := decide_eq_true h2
        have HB : Hid (opValid p ⟨4, on, ar⟩ = isVal ar) := Lib.hid (opValid_on (by show (1 : Int) ≤ 4 ∧ (4 : Int) ≤ 10; decide) (by show 0 ≤ on ∧ on < ((3 : Nat) : Int); omega))
        clear kP kO k0
        go_enter Try.func48, Try.ntmps48
        go_wp2_with fail
        refine (isValue_any ar _).mono ?_
        rintro e w1 ⟨rfl, rfl⟩
        go_wp2
        go_ret
        exact ⟨ret_bool (by rw [HB.out]), b0⟩
      · have d2 : decide (on ≤ 2) = false := decide_eq_false h2
        have HB : Hid (opValid p ⟨4, on, ar⟩ = false) := Lib.hid (opValid_off (by show ¬ (0 ≤ on ∧ on < ((3 : Nat) : Int)); omega))
        clear kP kO k0
        go_enter Try.func48, Try.ntmps48
        go_wp2_with fail
        go_ret
        exact ⟨ret_bool (by rw [HB.out]), b0⟩
    · have d1 : decide (0 ≤ on) = false := decide_eq_false h1
      have HB : Hid (opValid p ⟨4, on, ar⟩ = false) := Lib.hid (opValid_off (by show ¬ (0 ≤ on ∧ on < ((3 : Nat) : Int)); omega))
      clear kP kO k0
      go_enter Try.func48, Try.ntmps48
      go_wp2_with fail
      go_ret
      exact ⟨ret_bool (by rw [HB.out]), b0⟩
  -- kind 5
  · by_cases h : 0 ≤ on ∧ on < v.ng
    · have HC : Hid ((decide (0 ≤ on) && decide (on < v.ng)) = true) := Lib.hid (by rw [decide_eq_true h.1, decide_eq_true h.2]; rfl)
      have HO : Hid (opValid p ⟨5, on, ar⟩ = argOk p ⟨5, on, ar⟩) := Lib.hid (opValid_on (by show (1 : Int) ≤ 5 ∧ (5 : Int) ≤ 10; decide) (by show 0 ≤ on ∧ on < (shared p 5 : Int); rw [show shared p 5 = v.ng from lg.out]; exact h))
      clear kP kO h
      by_cases h9 : -9 ≤ ar
      · have d9 : decide (-9 ≤ ar) = true := decide_eq_true h9
        have HB : Hid (argOk p ⟨5, on, ar⟩ = decide (ar ≤ 9)) := Lib.hid (by show (decide (-9 ≤ ar) && decide (ar ≤ 9)) = _; rw [d9]; rfl)
        go_enter Try.func48, Try.ntmps48
        go_wp2_with fail
        refine (onFn_any v.g v.ng v.cg on _ _ zg k0).mono ?_
        rintro e w1 ⟨rfl, rfl⟩
        rw [HC.out]
        go_wp2
        go_ret
        exact ⟨ret_bool (by rw [HO.out, HB.out]), b0⟩
      · have d9 : decide (-9 ≤ ar) = false := decide_eq_false h9
        have HB : Hid (argOk p ⟨5, on, ar⟩ = false) := Lib.hid (by show (decide (-9 ≤ ar) && decide (ar ≤ 9)) = _; rw [d9]; rfl)
        go_enter Try.func48, Try.ntmps48
        go_wp2_with fail
        refine (onFn_any v.g v.ng v.cg on _ _ zg k0).mono ?_
        rintro e w1 ⟨rfl, rfl⟩
        rw [HC.out]
        go_wp2
        go_ret
        exact ⟨ret_bool (by rw [HO.out, HB.out]), b0⟩
    · have HC : Hid ((decide (0 ≤ on) && decide (on < v.ng)) = false) := Lib.hid (by rw [← Bool.decide_and]; exact decide_eq_false h)
      have HB : Hid (opValid p ⟨5, on, ar⟩ = false) := Lib.hid (opValid_off (by show ¬ (0 ≤ on ∧ on < (shared p 5 : Int)); rw [show shared p 5 = v.ng from lg.out]; exact h))
      clear kP kO h
      go_enter Try.func48, Try.ntmps48
      go_wp2_with fail
      refine (onFn_any v.g v.ng v.cg on _ _ zg k0).mono ?_
      rintro e w1 ⟨rfl, rfl⟩
      rw [HC.out]
      go_wp2
      go_ret
      exact ⟨ret_bool (by rw [HB.out]), b0⟩
  -- kind 6
  · by_cases h : 0 ≤ on ∧ on < v.ng
    · have HC : Hid ((decide (0 ≤ on) && decide (on < v.ng)) = true) := Lib.hid (by rw [decide_eq_true h.1, decide_eq_true h.2]; rfl)
      have HO : Hid (opValid p ⟨6, on, ar⟩ = argOk p ⟨6, on, ar⟩) := Lib.hid (opValid_on (by show (1 : Int) ≤ 6 ∧ (6 : Int) ≤ 10; decide) (by show 0 ≤ on ∧ on < (shared p 6 : Int); rw [show shared p 6 = v.ng from lg.out]; exact h))
      clear kP kO h
      go_enter Try.func48, Try.ntmps48
      go_wp2_with fail
      refine (onFn_any v.g v.ng v.cg on _ _ zg k0).mono ?_
      rintro e w1 ⟨rfl, rfl⟩
      rw [HC.out]
      go_wp2
      go_ret
      exact ⟨ret_bool (by rw [HO.out]; rfl), b0⟩
    · have HC : Hid ((decide (0 ≤ on) && decide (on < v.ng)) = false) := Lib.hid (by rw [← Bool.decide_and]; exact decide_eq_false h)
      have HB : Hid (opValid p ⟨6, on, ar⟩ = false) := Lib.hid (opValid_off (by show ¬ (0 ≤ on ∧ on < (shared p 6 : Int)); rw [show shared p 6 = v.ng from lg.out]; exact h))
      clear kP kO h
      go_enter Try.func48, Try.ntmps48
      go_wp2_with fail
      refine (onFn_any v.g v.ng v.cg on _ _ zg k0).mono ?_
      rintro e w1 ⟨rfl, rfl⟩
      rw [HC.out]
      go_wp2
      go_ret
      exact ⟨ret_bool (by rw [HB.out]), b0⟩
  -- kind 7
  · by_cases h : 0 ≤ on ∧ on < v.nb
    · have HC : Hid ((decide (0 ≤ on) && decide (on < v.nb)) = true) := Lib.hid (by rw [decide_eq_true h.1, decide_eq_true h.2]; rfl)
      have HO : Hid (opValid p ⟨7, on, ar⟩ = argOk p ⟨7, on, ar⟩) := Lib.hid (opValid_on (by show (1 : Int) ≤ 7 ∧ (7 : Int) ≤ 10; decide) (by show 0 ≤ on ∧ on < (shared p 7 : Int); rw [show shared p 7 = v.nb from lb.out]; exact h))
      clear kP kO h
      go_enter Try.func48, Try.ntmps48
      go_wp2_with fail
      refine (onFn_any v.b v.nb v.cb on _ _ zb k0).mono ?_
      rintro e w1 ⟨rfl, rfl⟩
      rw [HC.out]
      go_wp2
      go_ret
      exact ⟨ret_bool (by rw [HO.out]; rfl), b0⟩
    · have HC : Hid ((decide (0 ≤ on) && decide (on < v.nb)) = false) := Lib.hid (by rw [← Bool.decide_and]; exact decide_eq_false h)
      have HB : Hid (opValid p ⟨7, on, ar⟩ = false) := Lib.hid (opValid_off (by show ¬ (0 ≤ on ∧ on < (shared p 7 : Int)); rw [show shared p 7 = v.nb from lb.out]; exact h))
      clear kP kO h
      go_enter Try.func48, Try.ntmps48
      go_wp2_with fail
      refine (onFn_any v.b v.nb v.cb on _ _ zb k0).mono ?_
      rintro e w1 ⟨rfl, rfl⟩
      rw [HC.out]
      go_wp2
      go_ret
      exact ⟨ret_bool (by rw [HB.out]), b0⟩
  -- kind 8
  · by_cases h : 0 ≤ on ∧ on < v.nr
    · have HC : Hid ((decide (0 ≤ on) && decide (on < v.nr)) = true) := Lib.hid (by rw [decide_eq_true h.1, decide_eq_true h.2]; rfl)
      have HO : Hid (opValid p ⟨8, on, ar⟩ = argOk p ⟨8, on, ar⟩) := Lib.hid (opValid_on (by show (1 : Int) ≤ 8 ∧ (8 : Int) ≤ 10; decide) (by show 0 ≤ on ∧ on < (shared p 8 : Int); rw [show shared p 8 = v.nr from lr.out]; exact h))
      clear kP kO h
      go_enter Try.func48, Try.ntmps48
      go_wp2_with fail
      refine (onFn_any v.r v.nr v.cr on _ _ zr k0).mono ?_
      rintro e w1 ⟨rfl, rfl⟩
      rw [HC.out]
      go_wp2_with fail
      refine (isValue_any ar _).mono ?_
      rintro e w1 ⟨rfl, rfl⟩
      go_wp2
      go_ret
      exact ⟨ret_bool (by rw [HO.out]; rfl), b0⟩
    · have HC : Hid ((decide (0 ≤ on) && decide (on < v.nr)) = false) := Lib.hid (by rw [← Bool.decide_and]; exact decide_eq_false h)
      have HB : Hid (opValid p ⟨8, on, ar⟩ = false) := Lib.hid (opValid_off (by show ¬ (0 ≤ on ∧ on < (shared p 8 : Int)); rw [show shared p 8 = v.nr from lr.out]; exact h))
      clear kP kO h
      go_enter Try.func48, Try.ntmps48
      go_wp2_with fail
      refine (onFn_any v.r v.nr v.cr on _ _ zr k0).mono ?_
      rintro e w1 ⟨rfl, rfl⟩
      rw [HC.out]
      go_wp2
      go_ret
      exact ⟨ret_bool (by rw [HB.out]), b0⟩
  -- kind 9
  · by_cases h : 0 ≤ on ∧ on < v.nr
    · have HC : Hid ((decide (0 ≤ on) && decide (on < v.nr)) = true) := Lib.hid (by rw [decide_eq_true h.1, decide_eq_true h.2]; rfl)
      have HO : Hid (opValid p ⟨9, on, ar⟩ = argOk p ⟨9, on, ar⟩) := Lib.hid (opValid_on (by show (1 : Int) ≤ 9 ∧ (9 : Int) ≤ 10; decide) (by show 0 ≤ on ∧ on < (shared p 9 : Int); rw [show shared p 9 = v.nr from lr.out]; exact h))
      clear kP kO h
      go_enter Try.func48, Try.ntmps48
      go_wp2_with fail
      refine (onFn_any v.r v.nr v.cr on _ _ zr k0).mono ?_
      rintro e w1 ⟨rfl, rfl⟩
      rw [HC.out]
      go_wp2
      go_ret
      exact ⟨ret_bool (by rw [HO.out]; rfl), b0⟩
    · have HC : Hid ((decide (0 ≤ on) && decide (on < v.nr)) = false) := Lib.hid (by rw [← Bool.decide_and]; exact decide_eq_false h)
      have HB : Hid (opValid p ⟨9, on, ar⟩ = false) := Lib.hid (opValid_off (by show ¬ (0 ≤ on ∧ on < (shared p 9 : Int)); rw [show shared p 9 = v.nr from lr.out]; exact h))
      clear kP kO h
      go_enter Try.func48, Try.ntmps48
      go_wp2_with fail
      refine (onFn_any v.r v.nr v.cr on _ _ zr k0).mono ?_
      rintro e w1 ⟨rfl, rfl⟩
      rw [HC.out]
      go_wp2
      go_ret
      exact ⟨ret_bool (by rw [HB.out]), b0⟩
  -- kind 10
  · by_cases h : 0 ≤ on ∧ on < v.nr
    · have HC : Hid ((decide (0 ≤ on) && decide (on < v.nr)) = true) := Lib.hid (by rw [decide_eq_true h.1, decide_eq_true h.2]; rfl)
      have HO : Hid (opValid p ⟨10, on, ar⟩ = argOk p ⟨10, on, ar⟩) := Lib.hid (opValid_on (by show (1 : Int) ≤ 10 ∧ (10 : Int) ≤ 10; decide) (by show 0 ≤ on ∧ on < (shared p 10 : Int); rw [show shared p 10 = v.nr from lr.out]; exact h))
      clear kP kO h
      go_enter Try.func48, Try.ntmps48
      go_wp2_with fail
      refine (onFn_any v.r v.nr v.cr on _ _ zr k0).mono ?_
      rintro e w1 ⟨rfl, rfl⟩
      rw [HC.out]
      go_wp2
      go_ret
      exact ⟨ret_bool (by rw [HO.out]; rfl), b0⟩
    · have HC : Hid ((decide (0 ≤ on) && decide (on < v.nr)) = false) := Lib.hid (by rw [← Bool.decide_and]; exact decide_eq_false h)
      have HB : Hid (opValid p ⟨10, on, ar⟩ = false) := Lib.hid (opValid_off (by show ¬ (0 ≤ on ∧ on < (shared p 10 : Int)); rw [show shared p 10 = v.nr from lr.out]; exact h))
      clear kP kO h
      go_enter Try.func48, Try.ntmps48
      go_wp2_with fail
      refine (onFn_any v.r v.nr v.cr on _ _ zr k0).mono ?_
      rintro e w1 ⟨rfl, rfl⟩
      rw [HC.out]
      go_wp2
      go_ret
      exact ⟨ret_bool (by rw [HB.out]), b0⟩

end Go.Proofs.Ytnobkdkfhgjeeab
