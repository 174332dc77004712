/- Which operations are valid: the reference's own text. -/
import Derived.Test.YtnobkdkfhgjeeabSpecValid2
import Derived.Lib.QuietBelow
import Derived.BigQuiet
namespace Go.Proofs.Ytnobkdkfhgjeeab
open Go.RowKit Go.Sort

/-- A text with no letter, and one with a first letter. -/
def noneE : ByteArray := ⟨#[]⟩
def someE (c : UInt8) (cs : List UInt8) : ByteArray := ⟨(c :: cs).toArray⟩
@[simp] theorem noneE_isEmpty : noneE.toList.isEmpty = true := by
  have : noneE.toList = [] := by unfold noneE ByteArray.toList ByteArray.toList.loop; simp [ByteArray.size]
  rw [this]; rfl
@[simp] theorem someE_isEmpty (c : UInt8) (cs : List UInt8) : (someE c cs).toList.isEmpty = false := by
  have h : (someE c cs).toList ≠ [] := by
    intro h
    have := congrArg List.length h
    simp [someE, ByteArray.toList_eq] at this
  cases h' : (someE c cs).toList with
  | nil => exact absurd h' h
  | cons a l => rfl

/-- A callee that touches nothing, met in a world of the class. -/
theorem regrown_same {P : Program} {f : FuncId} {args : Array Value} {w : World} {d : Nat} {os : Array Obj} {v : Value}
    (h : Calls P f args (grow (redrawn w d) os) fun e w' => e = .returned v ∧ w' = grow (redrawn w d) os) : Calls P f args (grow (redrawn w d) os) fun e w'' => e = .returned v ∧ ∃ p : Regrown, w'' = grow (redrawn w p.d) p.os :=
  h.mono fun _ _ ⟨he, hw⟩ => ⟨he, ⟨⟨d, os⟩, hw⟩⟩
/-- A cell that is there is as it was where nothing is touched. -/
theorem keepc {w w' : World} {q : Addr} {x : Value} (hb : Below w.heap.size w w') (g : w.cell? q = some x) : w'.cell? q = some x :=
  (hb.cell (World.block_lt_of_cell? _ _ g)).trans g
theorem keepb {u w w' : World} {C : Prop} (hb : Below w.heap.size w w') (h : C ∧ Below u.heap.size u w) : Below u.heap.size u w' := h.2.trans (hb.mono h.2.size)

set_option maxRecDepth 100000 in
set_option maxHeartbeats 1000000 in
theorem specOpValid_any (v : PV) (p : Pg) (o : OpD) (w : World) (hr : RdP w v p) (hs : v.ns ≤ maxLen ∧ v.ng ≤ maxLen ∧ v.nb ≤ maxLen ∧ v.nr ≤ maxLen) :
    Calls Try.prog 51 #[.agg #[.slice v.s v.ns v.cs, .slice v.g v.ng v.cg, .slice v.b v.nb v.cb, .slice v.r v.nr v.cr, .slice v.t v.nt v.ct], .agg #[.int .i64 o.kind, .int .i64 o.on, .int .i64 o.arg]] w fun e w' => e = .returned (.bool (opValid p o)) ∧ Below w.heap.size w w' := by
  have kP : Blk ((w.alloc (.cells #[.slice v.s v.ns v.cs, .slice v.g v.ng v.cg, .slice v.b v.nb v.cb, .slice v.r v.nr v.cr, .slice v.t v.nt v.ct] 26)).alloc (.cells #[.int .i64 o.kind, .int .i64 o.on, .int .i64 o.arg] 44)) w.heap.size #[.slice v.s v.ns v.cs, .slice v.g v.ng v.cg, .slice v.b v.nb v.cb, .slice v.r v.nr v.cr, .slice v.t v.nt v.ct] 26 := (Blk.new _ _ _).alloc _
  have kO : Blk ((w.alloc (.cells #[.slice v.s v.ns v.cs, .slice v.g v.ng v.cg, .slice v.b v.nb v.cb, .slice v.r v.nr v.cr, .slice v.t v.nt v.ct] 26)).alloc (.cells #[.int .i64 o.kind, .int .i64 o.on, .int .i64 o.arg] 44)) (w.heap.size + 1) #[.int .i64 o.kind, .int .i64 o.on, .int .i64 o.arg] 44 := by simpa using Blk.new (w.alloc (.cells #[.slice v.s v.ns v.cs, .slice v.g v.ng v.cg, .slice v.b v.nb v.cb, .slice v.r v.nr v.cr, .slice v.t v.nt v.ct] 26)) #[.int .i64 o.kind, .int .i64 o.on, .int .i64 o.arg] 44
  have hB : Below w.heap.size w ((w.alloc (.cells #[.slice v.s v.ns v.cs, .slice v.g v.ng v.cg, .slice v.b v.nb v.cb, .slice v.r v.nr v.cr, .slice v.t v.nt v.ct] 26)).alloc (.cells #[.int .i64 o.kind, .int .i64 o.on, .int .i64 o.arg] 44)) := ((Below.refl _ _).alloc (Nat.le_refl _) _).alloc (by simp) _
  obtain ⟨W0, hW0⟩ : ∃ W0 : World, W0 = ((w.alloc (.cells #[.slice v.s v.ns v.cs, .slice v.g v.ng v.cg, .slice v.b v.nb v.cb, .slice v.r v.nr v.cr, .slice v.t v.nt v.ct] 26)).alloc (.cells #[.int .i64 o.kind, .int .i64 o.on, .int .i64 o.arg] 44)) := ⟨_, rfl⟩
  rw [← hW0] at kP kO hB
  have HW0 := Lib.hid hW0
  clear hW0
  have c1 : W0.cell? ⟨w.heap.size, 0, none⟩ = some (.slice v.s v.ns v.cs) := kP.cell 0 rfl
  have c2 : W0.cell? ⟨w.heap.size, 1, none⟩ = some (.slice v.g v.ng v.cg) := kP.cell 1 rfl
  have c3 : W0.cell? ⟨w.heap.size, 2, none⟩ = some (.slice v.b v.nb v.cb) := kP.cell 2 rfl
  have c4 : W0.cell? ⟨w.heap.size, 3, none⟩ = some (.slice v.r v.nr v.cr) := kP.cell 3 rfl
  have c5 : W0.cell? ⟨w.heap.size, 4, none⟩ = some (.slice v.t v.nt v.ct) := kP.cell 4 rfl
  have c6 : W0.cell? ⟨w.heap.size + 1, 0, none⟩ = some (.int .i64 o.kind) := kO.cell 0 rfl
  have c7 : W0.cell? ⟨w.heap.size + 1, 1, none⟩ = some (.int .i64 o.on) := kO.cell 1 rfl
  have c8 : W0.cell? ⟨w.heap.size + 1, 2, none⟩ = some (.int .i64 o.arg) := kO.cell 2 rfl
  have k1 := cell_regrown c1
  have k2 := cell_regrown c2
  have k3 := cell_regrown c3
  have k4 := cell_regrown c4
  have k5 := cell_regrown c5
  have k6 := cell_regrown c6
  have k7 := cell_regrown c7
  have k8 := cell_regrown c8
  clear kP kO
  by_cases hk : 1 ≤ o.kind ∧ o.kind ≤ 10
  · obtain ⟨c, cs, hW⟩ : ∃ c cs, wordB o.kind = someE c cs := by
      have hk : o.kind = 1 ∨ o.kind = 2 ∨ o.kind = 3 ∨ o.kind = 4 ∨ o.kind = 5 ∨ o.kind = 6 ∨ o.kind = 7 ∨ o.kind = 8 ∨ o.kind = 9 ∨ o.kind = 10 := by omega
      rcases hk with h | h | h | h | h | h | h | h | h | h <;> rw [h] <;> exact ⟨_, _, rfl⟩
    have cW : Hid (∀ d os, Calls Try.prog 88 #[.int .i64 o.kind] (grow (redrawn W0 d) os) fun e w'' => e = .returned (.string (someE c cs)) ∧ ∃ p : Regrown, w'' = grow (redrawn W0 p.d) p.os) := Lib.hid (fun d os => Calls.regrown_of (by
      have := l6Word_any o.kind (grow (redrawn W0 d) os); rw [hW] at this; exact this))
    have cS : Hid (∀ d os, Calls Try.prog 89 #[.agg #[.slice v.s v.ns v.cs, .slice v.g v.ng v.cg, .slice v.b v.nb v.cb, .slice v.r v.nr v.cr, .slice v.t v.nt v.ct], .int .i64 o.kind] (grow (redrawn W0 d) os) fun e w'' => e = .returned (.int .i64 (shared p o.kind)) ∧ ∃ p : Regrown, w'' = grow (redrawn W0 p.d) p.os) := Lib.hid (fun d os => Calls.regrown_of
      (l6Shared_any v p o.kind _ ((hr.below hB).below (below_regrown W0 d os)) hs))
    have e1 : decide (1 ≤ o.kind) = true := by simpa using hk.1
    have e2 : decide (o.kind ≤ 10) = true := by simpa using hk.2
    clear hW
    by_cases hn : o.on < 0
    · have t1 : decide (o.on < 0) = true := by simpa using hn
      have HR : Hid (opValid p o = false) := Lib.hid (by unfold opValid; rw [show decide (0 ≤ o.on) = false by simpa using hn]; simp)
      clear e1 e2
      go_enter Try.func51, Try.ntmps51
      go_wp2_with fail
      rw [← HW0.out]
      refine wp_region_quiet_below (by kernel_rfl) (by kernel_rfl) ?_
      repeat (go_big_quiet_step (first | exact cW.out _ _ | exact cS.out _ _))
      refine wpQuiet_nil ?_
      intro w6 hw6
      have hbq : Below W0.heap.size W0 w6 := by
        obtain ⟨pq, rfl⟩ := hw6
        exact below_regrown _ _ _
      clear hw6
      go_wp2
      go_ret
      exact ⟨ret_bool (by rw [HR.out]), hB.trans (hbq.mono hB.size)⟩
    · have t1 : decide (o.on < 0) = false := by simpa using hn
      have e3 : decide (0 ≤ o.on) = true := by simpa using hn
      by_cases hn2 : (shared p o.kind : Int) ≤ o.on
      · have t2 : decide ((shared p o.kind : Int) ≤ o.on) = true := by simpa using hn2
        have HR : Hid (opValid p o = false) := Lib.hid (by unfold opValid; rw [show decide (o.on < shared p o.kind) = false by simpa using hn2]; simp)
        clear e1 e2 e3
        go_enter Try.func51, Try.ntmps51
        go_wp2_with fail
        rw [← HW0.out]
        refine wp_region_quiet_below (by kernel_rfl) (by kernel_rfl) ?_
        repeat (go_big_quiet_step (first | exact cW.out _ _ | exact cS.out _ _))
        refine wpQuiet_nil ?_
        intro w6 hw6
        have hbq : Below W0.heap.size W0 w6 := by
          obtain ⟨pq, rfl⟩ := hw6
          exact below_regrown _ _ _
        clear hw6
        go_wp2
        go_ret
        exact ⟨ret_bool (by rw [HR.out]), hB.trans (hbq.mono hB.size)⟩
      · have t2 : decide ((shared p o.kind : Int) ≤ o.on) = false := by simpa using hn2
        have hon : 0 ≤ o.on ∧ o.on < shared p o.kind := by omega
        have HR : Hid (opValid p o = argOk p o) := Lib.hid (by unfold opValid; rw [e1, e2, e3, show decide (o.on < shared p o.kind) = true by simpa using hn2]; simp)
        clear e1 e2 e3
        go_enter Try.func51, Try.ntmps51
        go_wp2_with fail
        rw [← HW0.out]
        refine wp_region_quiet_below (by kernel_rfl) (by kernel_rfl) ?_
        repeat (go_big_quiet_step (first | exact cW.out _ _ | exact cS.out _ _))
        refine wpQuiet_nil ?_
        intro w6 hw6
        have hbq : Below W0.heap.size W0 w6 := by
          obtain ⟨pq, rfl⟩ := hw6
          exact below_regrown _ _ _
        clear hw6
        clear k1 k2 k3 k4 k5 k6 k7 k8
        replace c1 := keepc hbq c1
        replace c2 := keepc hbq c2
        replace c3 := keepc hbq c3
        replace c4 := keepc hbq c4
        replace c5 := keepc hbq c5
        replace c6 := keepc hbq c6
        replace c7 := keepc hbq c7
        replace c8 := keepc hbq c8
        have hB2 := hB.trans (hbq.mono hB.size)
        go_wp2_with fail
        refine (l6Arg_any v p o _ (hr.below hB2) hs.1 hon).mono ?_
        rintro e w' ⟨rfl, hb2⟩
        go_wp2
        go_ret
        exact ⟨ret_bool (by rw [HR.out]), hB2.trans (hb2.mono hB2.size)⟩
  · have hW : wordB o.kind = noneE := by unfold wordB noneE; repeat (rw [if_neg (by omega)])
    have cW : Hid (∀ d os, Calls Try.prog 88 #[.int .i64 o.kind] (grow (redrawn W0 d) os) fun e w'' => e = .returned (.string noneE) ∧ ∃ p : Regrown, w'' = grow (redrawn W0 p.d) p.os) := Lib.hid (fun d os => Calls.regrown_of (by
      have := l6Word_any o.kind (grow (redrawn W0 d) os); rw [hW] at this; exact this))
    have HR : Hid (opValid p o = false) := Lib.hid (by unfold opValid; rw [← Bool.decide_and, show decide (1 ≤ o.kind ∧ o.kind ≤ 10) = false by simpa using hk]; simp)
    clear hW hk
    go_enter Try.func51, Try.ntmps51
    go_wp2_with fail
    rw [← HW0.out]
    refine wp_region_quiet_below (by kernel_rfl) (by kernel_rfl) ?_
    repeat (go_big_quiet_step (exact cW.out _ _))
    refine wpQuiet_nil ?_
    intro w6 hw6
    have hbq : Below W0.heap.size W0 w6 := by
      obtain ⟨pq, rfl⟩ := hw6
      exact below_regrown _ _ _
    clear hw6
    go_wp2
    go_ret
    exact ⟨ret_bool (by rw [HR.out]), hB.trans (hbq.mono hB.size)⟩

end Go.Proofs.Ytnobkdkfhgjeeab
