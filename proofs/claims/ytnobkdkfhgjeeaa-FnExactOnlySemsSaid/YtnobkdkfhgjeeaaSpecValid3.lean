/- Which operations are valid: the reference's own text. -/
import Derived.Test.YtnobkdkfhgjeeaaSpecValid2
import Derived.Test.YtnobkdkfhgjeeaaRegionG
namespace Go.Proofs.Ytnobkdkfhgjeeaa
open Go.RowKit

/-- A program, and an operation, as values. -/
macro "pv%" v:term:max : term => `(Value.agg #[Value.slice (PV.s $v) (PV.ns $v) (PV.cs $v), Value.slice (PV.g $v) (PV.ng $v) (PV.cg $v), Value.slice (PV.b $v) (PV.nb $v) (PV.cb $v), Value.slice (PV.r $v) (PV.nr $v) (PV.cr $v), Value.slice (PV.t $v) (PV.nt $v) (PV.ct $v)])
macro "op%" o:term:max : term => `(Value.agg #[Value.int .i64 (OpD.kind $o), Value.int .i64 (OpD.on $o), Value.int .i64 (OpD.arg $o)])

/-- What the test of an operation reads. -/
macro "opS%" v:term:max o:term:max n:term:max w:term:max : term => `(World.cell? $w ⟨$n, 0, none⟩ = some (Value.slice (PV.s $v) (PV.ns $v) (PV.cs $v)) ∧ World.cell? $w ⟨$n, 1, none⟩ = some (Value.slice (PV.g $v) (PV.ng $v) (PV.cg $v)) ∧ World.cell? $w ⟨$n, 2, none⟩ = some (Value.slice (PV.b $v) (PV.nb $v) (PV.cb $v)) ∧ World.cell? $w ⟨$n, 3, none⟩ = some (Value.slice (PV.r $v) (PV.nr $v) (PV.cr $v)) ∧ World.cell? $w ⟨$n, 4, none⟩ = some (Value.slice (PV.t $v) (PV.nt $v) (PV.ct $v)) ∧ World.cell? $w ⟨$n + 1, 0, none⟩ = some (Value.int .i64 (OpD.kind $o)) ∧ World.cell? $w ⟨$n + 1, 1, none⟩ = some (Value.int .i64 (OpD.on $o)) ∧ World.cell? $w ⟨$n + 1, 2, none⟩ = some (Value.int .i64 (OpD.arg $o)))
theorem opS_below {v : PV} {o : OpD} {n : Nat} {w w' : World} (h : opS% v o n w) (hb : Below w.heap.size w w') : opS% v o n w' := by
  obtain ⟨a1, a2, a3, a4, a5, a6, a7, a8⟩ := h
  have l1 : n < w.heap.size := World.block_lt_of_cell? _ _ a1
  have l2 : n + 1 < w.heap.size := World.block_lt_of_cell? _ _ a6
  exact ⟨(hb.cell l1).trans a1, (hb.cell l1).trans a2, (hb.cell l1).trans a3, (hb.cell l1).trans a4, (hb.cell l1).trans a5, (hb.cell l2).trans a6, (hb.cell l2).trans a7, (hb.cell l2).trans a8⟩
/-- The same, and nothing else is touched. -/
theorem opS_keep {v : PV} {o : OpD} {n : Nat} {u w w' : World} (hb : Below w.heap.size w w') (h : (opS% v o n w) ∧ Below u.heap.size u w) : (opS% v o n w') ∧ Below u.heap.size u w' :=
  ⟨opS_below h.1 hb, h.2.trans (hb.mono h.2.size)⟩
theorem opS_new (v : PV) (o : OpD) (t1 t2 : TypeId) (u : World) : let w := (u.alloc (.cells #[.slice v.s v.ns v.cs, .slice v.g v.ng v.cg, .slice v.b v.nb v.cb, .slice v.r v.nr v.cr, .slice v.t v.nt v.ct] t1)).alloc (.cells #[.int .i64 o.kind, .int .i64 o.on, .int .i64 o.arg] t2)
    (opS% v o u.heap.size w) ∧ Below u.heap.size u w := by
  intro w
  have kP : Blk w u.heap.size #[.slice v.s v.ns v.cs, .slice v.g v.ng v.cg, .slice v.b v.nb v.cb, .slice v.r v.nr v.cr, .slice v.t v.nt v.ct] t1 := (Blk.new _ _ _).alloc _
  have kO : Blk w (u.heap.size + 1) #[.int .i64 o.kind, .int .i64 o.on, .int .i64 o.arg] t2 := by simpa using Blk.new (u.alloc (.cells #[.slice v.s v.ns v.cs, .slice v.g v.ng v.cg, .slice v.b v.nb v.cb, .slice v.r v.nr v.cr, .slice v.t v.nt v.ct] t1)) #[.int .i64 o.kind, .int .i64 o.on, .int .i64 o.arg] t2
  exact ⟨⟨kP.cell 0 rfl, kP.cell 1 rfl, kP.cell 2 rfl, kP.cell 3 rfl, kP.cell 4 rfl, kO.cell 0 rfl, kO.cell 1 rfl, kO.cell 2 rfl⟩, ((Below.refl _ _).alloc (Nat.le_refl _) _).alloc (by simp) _⟩
theorem opS_drew {v : PV} {o : OpD} {n : Nat} {u w : World} (h : (opS% v o n w) ∧ Below u.heap.size u w) : (opS% v o n w.drew) ∧ Below u.heap.size u w.drew :=
  ⟨opS_below h.1 ((Below.refl _ _).drew), h.2.drew⟩

/-- A text with no letter, and one with a first letter. -/
def noneE : ByteArray := ⟨#[]⟩
def someE (c : UInt8) (cs : List UInt8) : ByteArray := ⟨(c :: cs).toArray⟩
@[simp] theorem noneE_isEmpty : noneE.toList.isEmpty = true := by
  have : noneE.toList = [] := by unfold noneE ByteArray.toList ByteArray.toList.loop; simp [ByteArray.size]
  rw [this]; rfl
@[simp] theorem someE_isEmpty (c : UInt8) (cs : List UInt8) : (someE c cs).toList.isEmpty = false := by
  have h : (someE c cs).toList ≠ [] := by
    intro h
    have := congrArg List.length h
    simp [someE, ByteArray.toList_eq] at this
  cases h' : (someE c cs).toList with
  | nil => exact absurd h' h
  | cons a l => rfl

set_option maxRecDepth 100000 in
set_option maxHeartbeats 1000000 in
theorem specOpValid_any (v : PV) (p : Pg) (o : OpD) (w : World) (hr : RdP w v p) (hs : v.ns ≤ maxLen ∧ v.ng ≤ maxLen ∧ v.nb ≤ maxLen ∧ v.nr ≤ maxLen) :
    Calls Try.prog 86 #[pv% v, op% o] w fun e w' => e = .returned (.bool (opValid p o)) ∧ Below w.heap.size w w' := by
  have h0 := opS_drew (opS_new v o 30 53 w)
  by_cases hk : 1 ≤ o.kind ∧ o.kind ≤ 10
  · obtain ⟨c, cs, hW⟩ : ∃ c cs, wordB o.kind = someE c cs := by
      have hk : o.kind = 1 ∨ o.kind = 2 ∨ o.kind = 3 ∨ o.kind = 4 ∨ o.kind = 5 ∨ o.kind = 6 ∨ o.kind = 7 ∨ o.kind = 8 ∨ o.kind = 9 ∨ o.kind = 10 := by omega
      rcases hk with h | h | h | h | h | h | h | h | h | h <;> rw [h] <;> exact ⟨_, _, rfl⟩
    have HW := Lib.hid hW
    have e1 : decide (1 ≤ o.kind) = true := by simpa using hk.1
    have e2 : decide (o.kind ≤ 10) = true := by simpa using hk.2
    clear hW
    by_cases hn : o.on < 0
    · have t1 : decide (o.on < 0) = true := by simpa using hn
      have HR : Hid (opValid p o = false) := Lib.hid (by unfold opValid; rw [show decide (0 ≤ o.on) = false by simpa using hn]; simp)
      clear e1 e2
      go_enter Try.func86, Try.ntmps86
      go_wp2_with fail
      region_g (fun w' => (opS% v o w.heap.size w') ∧ Below w.heap.size w w') (first | exact h0 | exact opS_keep (by assumption) (by assumption)) (first | (go_at_call 103; refine (l6Word_any o.kind _).mono ?_; rintro e w' ⟨rfl, hb⟩; rw [HW.out]))
      go_wp2
      go_ret
      rename_i hS
      exact ⟨ret_bool (by rw [HR.out]), hS.2⟩
    · have t1 : decide (o.on < 0) = false := by simpa using hn
      have e3 : decide (0 ≤ o.on) = true := by simpa using hn
      by_cases hn2 : (shared p o.kind : Int) ≤ o.on
      · have t2 : decide ((shared p o.kind : Int) ≤ o.on) = true := by simpa using hn2
        have HR : Hid (opValid p o = false) := Lib.hid (by unfold opValid; rw [show decide (o.on < shared p o.kind) = false by simpa using hn2]; simp)
        clear e1 e2 e3
        go_enter Try.func86, Try.ntmps86
        go_wp2_with fail
        region_g (fun w' => (opS% v o w.heap.size w') ∧ Below w.heap.size w w') (first | exact h0 | exact opS_keep (by assumption) (by assumption)) (first | (go_at_call 103; refine (l6Word_any o.kind _).mono ?_; rintro e w' ⟨rfl, hb⟩; rw [HW.out]) | (go_at_call 104; refine (l6Shared_any v p o.kind _ (hr.below (by assumption : (opS% v o w.heap.size _) ∧ Below w.heap.size w _).2) hs).mono ?_; rintro e w' ⟨rfl, hb⟩))
        go_wp2
        go_ret
        rename_i hS
        exact ⟨ret_bool (by rw [HR.out]), hS.2⟩
      · have t2 : decide ((shared p o.kind : Int) ≤ o.on) = false := by simpa using hn2
        have hon : 0 ≤ o.on ∧ o.on < shared p o.kind := by omega
        have HR : Hid (opValid p o = argOk p o) := Lib.hid (by unfold opValid; rw [e1, e2, e3, show decide (o.on < shared p o.kind) = true by simpa using hn2]; simp)
        clear e1 e2 e3
        go_enter Try.func86, Try.ntmps86
        go_wp2_with fail
        region_g (fun w' => (opS% v o w.heap.size w') ∧ Below w.heap.size w w') (first | exact h0 | exact opS_keep (by assumption) (by assumption)) (first | (go_at_call 103; refine (l6Word_any o.kind _).mono ?_; rintro e w' ⟨rfl, hb⟩; rw [HW.out]) | (go_at_call 104; refine (l6Shared_any v p o.kind _ (hr.below (by assumption : (opS% v o w.heap.size _) ∧ Below w.heap.size w _).2) hs).mono ?_; rintro e w' ⟨rfl, hb⟩))
        rename_i hS
        obtain ⟨⟨c1, c2, c3, c4, c5, c6, c7, c8⟩, hB⟩ := hS
        go_wp2_with fail
        refine (l6Arg_any v p o _ (hr.below hB) hs.1 hon).mono ?_
        rintro e w' ⟨rfl, hb2⟩
        go_wp2
        go_ret
        exact ⟨ret_bool (by rw [HR.out]), hB.trans (hb2.mono hB.size)⟩
  · have hW : wordB o.kind = noneE := by unfold wordB noneE; repeat (rw [if_neg (by omega)])
    have HW := Lib.hid hW
    have HR : Hid (opValid p o = false) := Lib.hid (by unfold opValid; rw [← Bool.decide_and, show decide (1 ≤ o.kind ∧ o.kind ≤ 10) = false by simpa using hk]; simp)
    clear hW hk
    go_enter Try.func86, Try.ntmps86
    go_wp2_with fail
    region_g (fun w' => (opS% v o w.heap.size w') ∧ Below w.heap.size w w') (first | exact h0 | exact opS_keep (by assumption) (by assumption)) (first | (go_at_call 103; refine (l6Word_any o.kind _).mono ?_; rintro e w' ⟨rfl, hb⟩; rw [HW.out]))
    go_wp2
    go_ret
    rename_i hS
    exact ⟨ret_bool (by rw [HR.out]), hS.2⟩

end Go.Proofs.Ytnobkdkfhgjeeaa
