/- Which operations are valid: the reference's own text. -/
import Derived.Test.YtnobkdkfhgjeeabSpecValid
namespace Go.Proofs.Ytnobkdkfhgjeeab
open Go.RowKit

set_option maxHeartbeats 1000000 in
theorem l6Arg_any (v : PV) (p : Pg) (o : OpD) (w : World) (hr : RdP w v p) (hs : v.ns ≤ maxLen) (hon : 0 ≤ o.on ∧ o.on < shared p o.kind) :
    Calls Try.prog 90 #[.agg #[.slice v.s v.ns v.cs, .slice v.g v.ng v.cg, .slice v.b v.nb v.cb, .slice v.r v.nr v.cr, .slice v.t v.nt v.ct], .agg #[.int .i64 o.kind, .int .i64 o.on, .int .i64 o.arg]] w fun e w' => e = .returned (.bool (argOk p o)) ∧ Below w.heap.size w w' := by
  unfold maxLen at hs
  have b0 : Below w.heap.size w ((w.alloc (.cells #[.slice v.s v.ns v.cs, .slice v.g v.ng v.cg, .slice v.b v.nb v.cb, .slice v.r v.nr v.cr, .slice v.t v.nt v.ct] 26)).alloc (.cells #[.int .i64 o.kind, .int .i64 o.on, .int .i64 o.arg] 44)) := ((Below.refl _ _).alloc (Nat.le_refl _) _).alloc (by simp) _
  by_cases hk : o.kind = 2 ∨ o.kind = 3
  · have hn : shared p o.kind = v.ns := by
      unfold shared
      rw [if_neg (by omega), if_pos hk]; exact hr.ls
    rw [hn] at hon
    obtain ⟨on0, on1⟩ := hon
    obtain ⟨b, q, hsa, hc⟩ := (hr.rs.below b0).int (by rw [hr.ls]; omega)
    have hcell := hc o.on.toNat (by rw [hr.ls]; omega)
    obtain ⟨x, hx⟩ : ∃ x, x = p.sems.getD o.on.toNat 0 := ⟨_, rfl⟩
    rw [← hx] at hcell
    have HR : Hid (argOk p o = (decide (1 ≤ o.arg) && decide (o.arg ≤ x))) := Lib.hid (by unfold argOk; rw [if_pos hk, hx])
    obtain ⟨vs, vns, vcs, vg, vng, vcg, vb, vnb, vcb, vr, vnr, vcr, vt, vnt, vct⟩ := v
    simp only at hsa hs hn hcell on1 b0
    subst hsa
    clear hr hc hx hn
    by_cases ha : 1 ≤ o.arg
    · have hd : decide (1 ≤ o.arg) = true := by simpa using ha
      rcases hk with h2 | h2
      all_goals
        have t2 : (o.kind == 2) = _ := congrArg (· == (2 : Int)) h2
        have t3 : (o.kind == 3) = _ := congrArg (· == (3 : Int)) h2
        simp only [Int.reduceBEq] at t2 t3
        clear h2
        go_enter Try.func90, Try.ntmps90
        go_wp2
        go_quiet (fail)
        go_wp2
        go_ret
        exact ⟨ret_bool (by rw [HR.out, hd]; rfl), below_drewN b0 _⟩
    · have hd : decide (1 ≤ o.arg) = false := by simpa using ha
      rcases hk with h2 | h2
      all_goals
        have t2 : (o.kind == 2) = _ := congrArg (· == (2 : Int)) h2
        have t3 : (o.kind == 3) = _ := congrArg (· == (3 : Int)) h2
        simp only [Int.reduceBEq] at t2 t3
        clear h2
        go_enter Try.func90, Try.ntmps90
        go_wp2
        go_quiet (fail)
        go_wp2
        go_ret
        exact ⟨ret_bool (by rw [HR.out, hd]; rfl), below_drewN b0 _⟩
  · have t2 : (o.kind == 2) = false := by simp; omega
    have t3 : (o.kind == 3) = false := by simp; omega
    by_cases h5 : o.kind = 5
    · have t5 : (o.kind == 5) = true := by simpa using h5
      have HR : Hid (argOk p o = (decide (-9 ≤ o.arg) && decide (o.arg ≤ 9))) := Lib.hid (by unfold argOk; rw [if_neg hk, if_pos h5])
      clear h5 hk hr
      by_cases ha : -9 ≤ o.arg
      · have hd : decide (-9 ≤ o.arg) = true := by simpa using ha
        go_enter Try.func90, Try.ntmps90
        go_wp2
        go_ret
        exact ⟨ret_bool (by rw [HR.out, hd]; rfl), b0⟩
      · have hd : decide (-9 ≤ o.arg) = false := by simpa using ha
        go_enter Try.func90, Try.ntmps90
        go_wp2
        go_ret
        exact ⟨ret_bool (by rw [HR.out, hd]; rfl), b0⟩
    · have t5 : (o.kind == 5) = false := by simpa using h5
      by_cases h1 : o.kind = 1 ∨ o.kind = 4 ∨ o.kind = 8
      · have HR : Hid (argOk p o = isVal o.arg) := Lib.hid (by unfold argOk; rw [if_neg hk, if_neg h5, if_pos h1])
        clear h5 hk hr
        rcases h1 with h1 | h1 | h1
        all_goals
          have t1 : (o.kind == 1) = _ := congrArg (· == (1 : Int)) h1
          have t4 : (o.kind == 4) = _ := congrArg (· == (4 : Int)) h1
          have t8 : (o.kind == 8) = _ := congrArg (· == (8 : Int)) h1
          simp only [Int.reduceBEq] at t1 t4 t8
          clear h1
          go_enter Try.func90, Try.ntmps90
          go_wp2_with fail
          refine (l2Value_any o.arg _).mono ?_
          rintro e w1 ⟨rfl, rfl⟩
          go_wp2
          go_ret
          exact ⟨ret_bool (by rw [HR.out]), b0⟩
      · have t1 : (o.kind == 1) = false := by simp; omega
        have t4 : (o.kind == 4) = false := by simp; omega
        have t8 : (o.kind == 8) = false := by simp; omega
        have HR : Hid (argOk p o = decide (o.arg = 0)) := Lib.hid (by unfold argOk; rw [if_neg hk, if_neg h5, if_neg h1])
        clear h5 hk hr h1
        go_enter Try.func90, Try.ntmps90
        go_wp2
        go_ret
        exact ⟨ret_bool (by rw [HR.out]; rfl), b0⟩

end Go.Proofs.Ytnobkdkfhgjeeab
