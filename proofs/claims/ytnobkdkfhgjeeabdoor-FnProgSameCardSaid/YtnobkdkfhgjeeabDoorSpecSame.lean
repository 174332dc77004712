/- ProgSame of the reference. -/
import Derived.Test.YtnobkdkfhgjeeabDoorBaseE
import Derived.Test.YtnobkdkfhgjeeabDoorWkInts
namespace Go.Proofs.YtnobkdkfhgjeeabDoor
open Go.RowKit

set_option maxHeartbeats 400000 in
theorem l2Ints_n (a1 a2 : Option Addr) (n c1 c2 : Nat) (xs ys : List Int) (w : World) (hn : n ≤ 1099511627776) (hl : xs.length = n) (hl2 : ys.length = n) (h1 : Rd w a1 (ints xs)) (h2 : Rd w a2 (ints ys)) :
    Calls Tryd.prog 39 #[.slice a1 n c1, .slice a2 n c2] w fun e w' => e = .returned (.bool (decide (xs = ys))) ∧ ∃ n, w' = w.drewN n := by
  have HL := Lib.hid hl
  have HL2 := Lib.hid hl2
  clear hl hl2
  go_enter Tryd.func39, Tryd.ntmps39
  go_wp2
  go_loopw [5] (fun i wr => ∃ k : Nat, k ≤ n ∧ i = .int .i64 k ∧ Hid (∀ j, j < k → xs.getD j 0 = ys.getD j 0) ∧ ∃ d, wr = w.drewN d) (fun i _ => n - (intOf i).toNat)
  case atStart => exact ⟨0, by omega, rfl, Lib.hid (by omega), 0, rfl⟩
  case round =>
    obtain ⟨k, hk, rfl, hall, d, rfl⟩ := hrel
    by_cases hlt : k < n
    · obtain ⟨b1, o1, rfl, g1'⟩ := h1.int (by have := HL.out; omega)
      obtain ⟨b2, o2, rfl, g2'⟩ := h2.int (by have := HL2.out; omega)
      have g1a := g1' k (by have := HL.out; omega)
      have g2a := g2' k (by have := HL2.out; omega)
      obtain ⟨x, hx⟩ : ∃ x, x = xs.getD k 0 := ⟨_, rfl⟩
      obtain ⟨y, hy⟩ : ∃ y, y = ys.getD k 0 := ⟨_, rfl⟩
      rw [← hx] at g1a
      rw [← hy] at g2a
      have HX := Lib.hid hx
      have HY := Lib.hid hy
      clear g1' g2' hx hy
      go_wp2
      go_quiet (fail)
      go_wp2
      · go_ret
        refine ⟨?_, d + nq, World.drewN_drewN _ _ _⟩
        have hne : (x != y) = true := by assumption
        refine ret_bool (decide_eq_false ?_).symm
        intro e
        rw [HX.out, HY.out, e] at hne
        simp at hne
      · have hne : (x != y) = false := by assumption
        have he : x = y := by simpa using hne
        refine ⟨⟨k + 1, by omega, by go_num, Lib.hid ?_, d + nq, rfl⟩, by simp [intOf]; omega⟩
        intro j hj
        by_cases hjk : j = k
        · rw [hjk, ← HX.out, ← HY.out, he]
        · exact hall.out j (by omega)
    · have hkm : k = n := by omega
      subst hkm
      go_wp2
      go_ret
      exact ⟨ret_bool (decide_eq_true (ext_getD_of 0 (by rw [HL.out, HL2.out]) (fun j hj => hall.out j (by rw [HL.out] at hj; exact hj)))).symm, d, rfl⟩
set_option maxHeartbeats 400000 in
theorem l2Ints_no (a1 a2 : Option Addr) (n m c1 c2 : Nat) (w : World) (hnm : n ≠ m) :
    Calls Tryd.prog 39 #[.slice a1 n c1, .slice a2 m c2] w fun e w' => e = .returned (.bool false) ∧ ∃ n, w' = w.drewN n := by
  have hd : ((n : Int) != (m : Int)) = true := by simp; omega
  clear hnm
  go_enter Tryd.func39, Tryd.ntmps39
  go_wp2
  go_ret
  exact ⟨rfl, 0, rfl⟩
theorem l2Ints_any (a1 a2 : Option Addr) (n m c1 c2 : Nat) (xs ys : List Int) (w : World) (hn : n ≤ 1099511627776) (hl : xs.length = n) (hl2 : ys.length = m) (h1 : Rd w a1 (ints xs)) (h2 : Rd w a2 (ints ys)) :
    Calls Tryd.prog 39 #[.slice a1 n c1, .slice a2 m c2] w fun e w' => e = .returned (.bool (decide (xs = ys))) ∧ ∃ n, w' = w.drewN n := by
  by_cases hnm : n = m
  · subst hnm
    exact l2Ints_n a1 a2 n c1 c2 xs ys w hn hl hl2 h1 h2
  · rw [decide_eq_false (fun e => hnm (by rw [← hl, ← hl2, e]))]
    exact l2Ints_no a1 a2 n m c1 c2 w hnm

set_option maxHeartbeats 400000 in
theorem l6Ops_n (a1 a2 : Option Addr) (n c1 c2 : Nat) (xs ys : List OpD) (w : World) (hn : n ≤ 1099511627776) (hl : xs.length = n) (hl2 : ys.length = n) (h1 : Rd w a1 (opsV xs)) (h2 : Rd w a2 (opsV ys)) :
    Calls Tryd.prog 40 #[.slice a1 n c1, .slice a2 n c2] w fun e w' => e = .returned (.bool (decide (xs = ys))) ∧ ∃ n, w' = w.drewN n := by
  have HL := Lib.hid hl
  have HL2 := Lib.hid hl2
  clear hl hl2
  have kn := neq_op
  have kg := guard_op
  go_enter Tryd.func40, Tryd.ntmps40
  go_wp2
  go_loopw [5] (fun i wr => ∃ k : Nat, k ≤ n ∧ i = .int .i64 k ∧ Hid (∀ j, j < k → xs.getD j noOp = ys.getD j noOp) ∧ ∃ d, wr = w.drewN d) (fun i _ => n - (intOf i).toNat)
  case atStart => exact ⟨0, by omega, rfl, Lib.hid (by omega), 0, rfl⟩
  case round =>
    obtain ⟨k, hk, rfl, hall, d, rfl⟩ := hrel
    by_cases hlt : k < n
    · obtain ⟨b1, o1, rfl, g1'⟩ := h1.op (by have := HL.out; omega)
      obtain ⟨b2, o2, rfl, g2'⟩ := h2.op (by have := HL2.out; omega)
      obtain ⟨g1a, g1b, g1c⟩ := g1' k (by have := HL.out; omega)
      obtain ⟨g2a, g2b, g2c⟩ := g2' k (by have := HL2.out; omega)
      obtain ⟨x, hx⟩ : ∃ x, x = xs.getD k noOp := ⟨_, rfl⟩
      obtain ⟨y, hy⟩ : ∃ y, y = ys.getD k noOp := ⟨_, rfl⟩
      rw [← hx] at g1a g1b g1c
      rw [← hy] at g2a g2b g2c
      have HX := Lib.hid hx
      have HY := Lib.hid hy
      clear g1' g2' hx hy
      go_wp2
      go_quiet (fail)
      go_wp2
      · go_ret
        refine ⟨?_, d + nq, World.drewN_drewN _ _ _⟩
        have hne : (((!x.kind == y.kind) = true) ∨ (!x.on == y.on) = true) ∨ (!x.arg == y.arg) = true := by assumption
        refine ret_bool (decide_eq_false ?_).symm
        intro e
        rw [HX.out, HY.out, e] at hne
        simp at hne
      · have hne : (((!x.kind == y.kind) = false) ∧ (!x.on == y.on) = false) ∧ (!x.arg == y.arg) = false := by assumption
        have he : x = y := by cases x; cases y; simp at hne; simp only [OpD.mk.injEq]; omega
        refine ⟨⟨k + 1, by omega, by go_num, Lib.hid ?_, d + nq, rfl⟩, by simp [intOf]; omega⟩
        intro j hj
        by_cases hjk : j = k
        · rw [hjk, ← HX.out, ← HY.out, he]
        · exact hall.out j (by omega)
    · have hkm : k = n := by omega
      subst hkm
      go_wp2
      go_ret
      exact ⟨ret_bool (decide_eq_true (ext_getD_of noOp (by rw [HL.out, HL2.out]) (fun j hj => hall.out j (by rw [HL.out] at hj; exact hj)))).symm, d, rfl⟩
set_option maxHeartbeats 400000 in
theorem l6Ops_no (a1 a2 : Option Addr) (n m c1 c2 : Nat) (w : World) (hnm : n ≠ m) :
    Calls Tryd.prog 40 #[.slice a1 n c1, .slice a2 m c2] w fun e w' => e = .returned (.bool false) ∧ ∃ n, w' = w.drewN n := by
  have hd : ((n : Int) != (m : Int)) = true := by simp; omega
  clear hnm
  go_enter Tryd.func40, Tryd.ntmps40
  go_wp2
  go_ret
  exact ⟨rfl, 0, rfl⟩
theorem l6Ops_any (a1 a2 : Option Addr) (n m c1 c2 : Nat) (xs ys : List OpD) (w : World) (hn : n ≤ 1099511627776) (hl : xs.length = n) (hl2 : ys.length = m) (h1 : Rd w a1 (opsV xs)) (h2 : Rd w a2 (opsV ys)) :
    Calls Tryd.prog 40 #[.slice a1 n c1, .slice a2 m c2] w fun e w' => e = .returned (.bool (decide (xs = ys))) ∧ ∃ n, w' = w.drewN n := by
  by_cases hnm : n = m
  · subst hnm
    exact l6Ops_n a1 a2 n c1 c2 xs ys w hn hl hl2 h1 h2
  · rw [decide_eq_false (fun e => hnm (by rw [← hl, ← hl2, e]))]
    exact l6Ops_no a1 a2 n m c1 c2 w hnm


set_option maxRecDepth 100000 in
set_option maxHeartbeats 4000000 in
theorem specProgSame_any (v1 v2 : PV) (p1 p2 : Pg) (w : World) (h1 : RdP w v1 p1) (h2 : RdP w v2 p2) (hz : Small v1 p1) (_hz2 : Small v2 p2) :
    Calls Tryd.prog 14 #[.agg #[.slice v1.s v1.ns v1.cs, .slice v1.g v1.ng v1.cg, .slice v1.b v1.nb v1.cb, .slice v1.r v1.nr v1.cr, .slice v1.t v1.nt v1.ct], .agg #[.slice v2.s v2.ns v2.cs, .slice v2.g v2.ng v2.cg, .slice v2.b v2.nb v2.cb, .slice v2.r v2.nr v2.cr, .slice v2.t v2.nt v2.ct]] w fun e w' => e = .returned (.bool (decide (p1 = p2))) ∧ Below w.heap.size w w' := by
  have hq1 : v1.ns ≤ 1099511627776 ∧ v1.ng ≤ 1099511627776 ∧ v1.nb ≤ 1099511627776 ∧ v1.nr ≤ 1099511627776 := by obtain ⟨z1, z2, z3, z4, z5, z6⟩ := hz; omega
  obtain ⟨q1, q2, q3, q4⟩ := hq1
  have qt := hz.lt
  have HZ := Lib.hid hz
  have kA : Blk ((w.alloc (.cells #[.slice v1.s v1.ns v1.cs, .slice v1.g v1.ng v1.cg, .slice v1.b v1.nb v1.cb, .slice v1.r v1.nr v1.cr, .slice v1.t v1.nt v1.ct] 30)).alloc (.cells #[.slice v2.s v2.ns v2.cs, .slice v2.g v2.ng v2.cg, .slice v2.b v2.nb v2.cb, .slice v2.r v2.nr v2.cr, .slice v2.t v2.nt v2.ct] 30)) w.heap.size #[.slice v1.s v1.ns v1.cs, .slice v1.g v1.ng v1.cg, .slice v1.b v1.nb v1.cb, .slice v1.r v1.nr v1.cr, .slice v1.t v1.nt v1.ct] 30 := (Blk.new _ _ _).alloc _
  have kB : Blk ((w.alloc (.cells #[.slice v1.s v1.ns v1.cs, .slice v1.g v1.ng v1.cg, .slice v1.b v1.nb v1.cb, .slice v1.r v1.nr v1.cr, .slice v1.t v1.nt v1.ct] 30)).alloc (.cells #[.slice v2.s v2.ns v2.cs, .slice v2.g v2.ng v2.cg, .slice v2.b v2.nb v2.cb, .slice v2.r v2.nr v2.cr, .slice v2.t v2.nt v2.ct] 30)) (w.heap.size + 1) #[.slice v2.s v2.ns v2.cs, .slice v2.g v2.ng v2.cg, .slice v2.b v2.nb v2.cb, .slice v2.r v2.nr v2.cr, .slice v2.t v2.nt v2.ct] 30 := by have := Blk.new (w.alloc (.cells #[.slice v1.s v1.ns v1.cs, .slice v1.g v1.ng v1.cg, .slice v1.b v1.nb v1.cb, .slice v1.r v1.nr v1.cr, .slice v1.t v1.nt v1.ct] 30)) #[.slice v2.s v2.ns v2.cs, .slice v2.g v2.ng v2.cg, .slice v2.b v2.nb v2.cb, .slice v2.r v2.nr v2.cr, .slice v2.t v2.nt v2.ct] 30; simpa using this
  have b0 : Below w.heap.size w ((w.alloc (.cells #[.slice v1.s v1.ns v1.cs, .slice v1.g v1.ng v1.cg, .slice v1.b v1.nb v1.cb, .slice v1.r v1.nr v1.cr, .slice v1.t v1.nt v1.ct] 30)).alloc (.cells #[.slice v2.s v2.ns v2.cs, .slice v2.g v2.ng v2.cg, .slice v2.b v2.nb v2.cb, .slice v2.r v2.nr v2.cr, .slice v2.t v2.nt v2.ct] 30)) := ((Below.refl _ _).alloc (Nat.le_refl _) _).alloc (by simp) _
  have H1 := Lib.hid (h1.below b0)
  have H2 := Lib.hid (h2.below b0)
  have HB := Lib.hid b0
  clear b0 h1 h2 hz
  obtain ⟨W0, hW0⟩ : ∃ W0, W0 = ((w.alloc (.cells #[.slice v1.s v1.ns v1.cs, .slice v1.g v1.ng v1.cg, .slice v1.b v1.nb v1.cb, .slice v1.r v1.nr v1.cr, .slice v1.t v1.nt v1.ct] 30)).alloc (.cells #[.slice v2.s v2.ns v2.cs, .slice v2.g v2.ng v2.cg, .slice v2.b v2.nb v2.cb, .slice v2.r v2.nr v2.cr, .slice v2.t v2.nt v2.ct] 30)) := ⟨_, rfl⟩
  rw [← hW0] at kA kB H1 H2 HB
  have HW0 := Lib.hid hW0
  clear hW0
  obtain ⟨d0, hd0⟩ : ∃ d, d = decide (p1.sems = p2.sems) := ⟨_, rfl⟩
  obtain ⟨d1, hd1⟩ : ∃ d, d = decide (p1.groups = p2.groups) := ⟨_, rfl⟩
  obtain ⟨d2, hd2⟩ : ∃ d, d = decide (p1.barriers = p2.barriers) := ⟨_, rfl⟩
  obtain ⟨d3, hd3⟩ : ∃ d, d = decide (p1.rooms = p2.rooms) := ⟨_, rfl⟩
  have D0 := Lib.hid hd0
  have D1 := Lib.hid hd1
  have D2 := Lib.hid hd2
  have D3 := Lib.hid hd3
  clear hd0 hd1 hd2 hd3
  go_enter Tryd.func14, Tryd.ntmps14
  go_wp2_with fail
  rw [← HW0.out]
  refine (l2Ints_any v1.s v2.s v1.ns v2.ns v1.cs v2.cs p1.sems p2.sems _ q1 H1.out.ls H2.out.ls H1.out.rs H2.out.rs).mono ?_
  rintro e w1 ⟨rfl, d⟩
  rw [← D0.out]
  have bd := below_of_drewN (B := W0.heap.size) d
  replace kA := kA.below bd
  replace kB := kB.below bd
  replace H1 := Lib.hid (H1.out.below bd)
  replace H2 := Lib.hid (H2.out.below bd)
  replace HB := Lib.hid (HB.out.trans (bd.mono HB.out.size))
  clear bd d
  have e0 := kA.cell 0 rfl
  have e1 := kA.cell 1 rfl
  have e2 := kA.cell 2 rfl
  have e3 := kA.cell 3 rfl
  have e4 := kA.cell 4 rfl
  have z0 := kB.cell 0 rfl
  have z1 := kB.cell 1 rfl
  have z2 := kB.cell 2 rfl
  have z3 := kB.cell 3 rfl
  have z4 := kB.cell 4 rfl
  cases d0 with
  | false =>
    go_wp2
    go_ret
    exact ⟨ret_bool (decide_eq_false (fun e => by rw [e] at D0; exact absurd D0.out (by simp))).symm, HB.out⟩
  | true =>
    go_wp2_with fail
    refine (l2Ints_any v1.g v2.g v1.ng v2.ng v1.cg v2.cg p1.groups p2.groups _ q2 H1.out.lg H2.out.lg H1.out.rg H2.out.rg).mono ?_
    rintro e w2 ⟨rfl, d⟩
    rw [← D1.out]
    have bd := below_of_drewN (B := w1.heap.size) d
    replace kA := kA.below bd
    replace kB := kB.below bd
    replace H1 := Lib.hid (H1.out.below bd)
    replace H2 := Lib.hid (H2.out.below bd)
    replace HB := Lib.hid (HB.out.trans (bd.mono HB.out.size))
    clear bd d
    clear e0 e1 e2 e3 e4 z0 z1 z2 z3 z4
    have e0 := kA.cell 0 rfl
    have e1 := kA.cell 1 rfl
    have e2 := kA.cell 2 rfl
    have e3 := kA.cell 3 rfl
    have e4 := kA.cell 4 rfl
    have z0 := kB.cell 0 rfl
    have z1 := kB.cell 1 rfl
    have z2 := kB.cell 2 rfl
    have z3 := kB.cell 3 rfl
    have z4 := kB.cell 4 rfl
    cases d1 with
    | false =>
      go_wp2
      go_ret
      exact ⟨ret_bool (decide_eq_false (fun e => by rw [e] at D1; exact absurd D1.out (by simp))).symm, HB.out⟩
    | true =>
      go_wp2_with fail
      refine (l2Ints_any v1.b v2.b v1.nb v2.nb v1.cb v2.cb p1.barriers p2.barriers _ q3 H1.out.lb H2.out.lb H1.out.rb H2.out.rb).mono ?_
      rintro e w3 ⟨rfl, d⟩
      rw [← D2.out]
      have bd := below_of_drewN (B := w2.heap.size) d
      replace kA := kA.below bd
      replace kB := kB.below bd
      replace H1 := Lib.hid (H1.out.below bd)
      replace H2 := Lib.hid (H2.out.below bd)
      replace HB := Lib.hid (HB.out.trans (bd.mono HB.out.size))
      clear bd d
      clear e0 e1 e2 e3 e4 z0 z1 z2 z3 z4
      have e0 := kA.cell 0 rfl
      have e1 := kA.cell 1 rfl
      have e2 := kA.cell 2 rfl
      have e3 := kA.cell 3 rfl
      have e4 := kA.cell 4 rfl
      have z0 := kB.cell 0 rfl
      have z1 := kB.cell 1 rfl
      have z2 := kB.cell 2 rfl
      have z3 := kB.cell 3 rfl
      have z4 := kB.cell 4 rfl
      cases d2 with
      | false =>
        go_wp2
        go_ret
        exact ⟨ret_bool (decide_eq_false (fun e => by rw [e] at D2; exact absurd D2.out (by simp))).symm, HB.out⟩
      | true =>
        go_wp2_with fail
        refine (l2Ints_any v1.r v2.r v1.nr v2.nr v1.cr v2.cr p1.rooms p2.rooms _ q4 H1.out.lr H2.out.lr H1.out.rr H2.out.rr).mono ?_
        rintro e w4 ⟨rfl, d⟩
        rw [← D3.out]
        have bd := below_of_drewN (B := w3.heap.size) d
        replace kA := kA.below bd
        replace kB := kB.below bd
        replace H1 := Lib.hid (H1.out.below bd)
        replace H2 := Lib.hid (H2.out.below bd)
        replace HB := Lib.hid (HB.out.trans (bd.mono HB.out.size))
        clear bd d
        clear e0 e1 e2 e3 e4 z0 z1 z2 z3 z4
        have e0 := kA.cell 0 rfl
        have e1 := kA.cell 1 rfl
        have e2 := kA.cell 2 rfl
        have e3 := kA.cell 3 rfl
        have e4 := kA.cell 4 rfl
        have z0 := kB.cell 0 rfl
        have z1 := kB.cell 1 rfl
        have z2 := kB.cell 2 rfl
        have z3 := kB.cell 3 rfl
        have z4 := kB.cell 4 rfl
        cases d3 with
        | false =>
          go_wp2
          go_ret
          exact ⟨ret_bool (decide_eq_false (fun e => by rw [e] at D3; exact absurd D3.out (by simp))).symm, HB.out⟩
        | true =>
          have lt1 := Lib.hid H1.out.lt
          have lt2 := Lib.hid H2.out.lt
          by_cases hnt : v1.nt = v2.nt
          · obtain ⟨n, hn⟩ : ∃ n, n = v1.nt := ⟨_, rfl⟩
            have hn2 : v2.nt = n := by omega
            have t0 : ((v1.nt : Int) != (v2.nt : Int)) = false := by rw [hnt]; simp
            have KA := Lib.hid kA
            have KB := Lib.hid kB
            clear hn hn2 n
            go_wp2
            clear e0 e1 e2 e3 e4 z0 z1 z2 z3 z4
            go_loopw [5] (fun vi wr => ∃ k : Nat, k ≤ v1.nt ∧ vi = .int .i64 k ∧ Hid (∀ j, j < k → p1.threads.getD j [] = p2.threads.getD j []) ∧ Hid (Below w4.heap.size w4 wr)) (fun vi _ => v1.nt - (intOf vi).toNat)
            case atStart => exact ⟨0, by omega, rfl, Lib.hid (by omega), Lib.hid (Below.refl _ _)⟩
            case round =>
              obtain ⟨k, hk, rfl, HALL, HBW⟩ := hrel
              have e4 := (KA.out.below HBW.out).cell 4 rfl
              have z4 := (KB.out.below HBW.out).cell 4 rfl
              by_cases hlt : k < v1.nt
              · obtain ⟨vs1, hT1⟩ := (H1.out.below HBW.out).rt
                obtain ⟨vs2, hT2⟩ := (H2.out.below HBW.out).rt
                obtain ⟨b1, o1, ea1, g1'⟩ := hT1.thread (by have := lt1.out; omega)
                obtain ⟨b2, o2, ea2, g2'⟩ := hT2.thread (by have := lt2.out; omega)
                obtain ⟨a1, c1, g1, r1⟩ := g1' k (by have := lt1.out; omega)
                obtain ⟨a2, c2, g2, r2⟩ := g2' k (by have := lt2.out; omega)
                rw [ea1] at e4
                rw [ea2] at z4
                obtain ⟨t1, ht1⟩ : ∃ t, t = p1.threads.getD k [] := ⟨_, rfl⟩
                obtain ⟨t2, ht2⟩ : ∃ t, t = p2.threads.getD k [] := ⟨_, rfl⟩
                have hin := HZ.out.inn k
                rw [← ht1] at g1 r1 hin
                rw [← ht2] at g2 r2
                obtain ⟨m1, hm1⟩ : ∃ m, t1.length = m := ⟨_, rfl⟩
                obtain ⟨m2, hm2⟩ : ∃ m, t2.length = m := ⟨_, rfl⟩
                rw [hm1] at g1 hin
                rw [hm2] at g2
                have HT1 := Lib.hid ht1
                have HT2 := Lib.hid ht2
                have R1 := Lib.hid r1
                have R2 := Lib.hid r2
                have HM1 := Lib.hid hm1
                have HM2 := Lib.hid hm2
                have i0 : (k : Int) < (v2.nt : Int) := by omega
                have cL : Hid (∀ d, Calls Tryd.prog 40 #[.slice a1 m1 c1, .slice a2 m2 c2] (wr.drewN d) fun e w'' => e = .returned (.bool (decide (t1 = t2))) ∧ ∃ q, w'' = wr.drewN q) := Lib.hid (fun d => (l6Ops_any a1 a2 m1 m2 c1 c2 t1 t2 (wr.drewN d) (by omega) HM1.out HM2.out (R1.out.drewN d) (R2.out.drewN d)).mono fun _ _ ⟨h, q, e⟩ => ⟨h, d + q, by rw [e, World.drewN_drewN]⟩)
                clear g1' g2' ea1 ea2 hT1 hT2 ht1 ht2 r1 r2 hm1 hm2
                by_cases ht : t1 = t2
                · rw [decide_eq_true ht] at cL
                  have HTT := Lib.hid ht
                  clear ht
                  go_wp2
                  go_quiet (with_reducible exact cL.out _)
                  go_wp2
                  go_roundw
                  case rel =>
                    refine ⟨k + 1, by omega, by go_num, Lib.hid (fun j hj => ?_), Lib.hid (HBW.out.trans (below_drewN' _ _))⟩
                    by_cases hjk : j = k
                    · rw [hjk, ← HT1.out, ← HT2.out, HTT.out]
                    · exact HALL.out j (by omega)
                  case measure => simp [intOf]; omega
                · rw [decide_eq_false ht] at cL
                  have HTT := Lib.hid ht
                  clear ht
                  go_wp2
                  go_quiet (with_reducible exact cL.out _)
                  go_wp2
                  go_ret
                  exact ⟨ret_bool (decide_eq_false (fun e => HTT.out (by rw [HT1.out, HT2.out, e]))).symm, HB.out.trans ((HBW.out.trans (below_drewN' _ _)).mono HB.out.size)⟩
              · obtain rfl : k = v1.nt := by omega
                go_wp2
                go_ret
                refine ⟨ret_bool (decide_eq_true ?_).symm, HB.out.trans (HBW.out.mono HB.out.size)⟩
                have hth : p1.threads = p2.threads := ext_getD_of [] (by rw [lt1.out, lt2.out, hnt]) (fun j hj => HALL.out j (by have := lt1.out; omega))
                have a0 := of_decide_eq_true D0.out.symm
                have a1 := of_decide_eq_true D1.out.symm
                have a2 := of_decide_eq_true D2.out.symm
                have a3 := of_decide_eq_true D3.out.symm
                cases p1; cases p2
                simp only at a0 a1 a2 a3 hth
                subst a0 a1 a2 a3 hth
                rfl
          · have t0 : ((v1.nt : Int) != (v2.nt : Int)) = true := by simp; omega
            go_wp2
            go_ret
            exact ⟨ret_bool (decide_eq_false (fun e => hnt (by rw [← lt1.out, ← lt2.out, e]))).symm, HB.out⟩

end Go.Proofs.YtnobkdkfhgjeeabDoor
