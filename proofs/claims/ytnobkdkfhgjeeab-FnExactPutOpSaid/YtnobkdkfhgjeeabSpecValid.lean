/- Which operations, and which programs, are valid: the reference's own text. -/
import Derived.Test.YtnobkdkfhgjeeabPgmTo
import Derived.Deep.RegionHeld3
namespace Go.Proofs.Ytnobkdkfhgjeeab
open Go.RowKit

/-- The words of the kinds. -/
def wordB (k : Int) : ByteArray :=
  if k = 1 then ⟨#[115, 97, 121]⟩
  else if k = 2 then ⟨#[97, 99, 113, 117, 105, 114, 101]⟩
  else if k = 3 then ⟨#[114, 101, 108, 101, 97, 115, 101]⟩
  else if k = 4 then ⟨#[111, 110, 99, 101]⟩
  else if k = 5 then ⟨#[97, 100, 100]⟩
  else if k = 6 then ⟨#[119, 97, 105, 116]⟩
  else if k = 7 then ⟨#[97, 114, 114, 105, 118, 101]⟩
  else if k = 8 then ⟨#[115, 101, 110, 100]⟩
  else if k = 9 then ⟨#[103, 101, 116]⟩
  else if k = 10 then ⟨#[99, 108, 111, 115, 101]⟩
  else ⟨#[]⟩

def isVal (n : Int) : Bool := decide (0 ≤ n) && decide (n ≤ 99)
/-- How many things an operation of this kind can be on. -/
def shared (p : Pg) (k : Int) : Nat :=
  if k = 1 then 1 else if k = 2 ∨ k = 3 then p.sems.length else if k = 4 then 3 else if k = 5 ∨ k = 6 then p.groups.length else if k = 7 then p.barriers.length else p.rooms.length
/-- Is the second number one of this kind? -/
def argOk (p : Pg) (o : OpD) : Bool :=
  if o.kind = 2 ∨ o.kind = 3 then decide (1 ≤ o.arg) && decide (o.arg ≤ p.sems.getD o.on.toNat 0)
  else if o.kind = 5 then decide (-9 ≤ o.arg) && decide (o.arg ≤ 9)
  else if o.kind = 1 ∨ o.kind = 4 ∨ o.kind = 8 then isVal o.arg
  else decide (o.arg = 0)
def opValid (p : Pg) (o : OpD) : Bool :=
  decide (1 ≤ o.kind) && decide (o.kind ≤ 10) && decide (0 ≤ o.on) && decide (o.on < shared p o.kind) && argOk p o
def within (l : List Int) (lo hi : Int) : Bool := decide (l.length ≤ 3) && l.all (fun n => decide (lo ≤ n) && decide (n ≤ hi))
def progValid (p : Pg) : Bool :=
  within p.sems 1 9 && within p.groups 0 9 && within p.barriers 1 6 && within p.rooms 0 4 && decide (1 ≤ p.threads.length) && decide (p.threads.length ≤ 4) &&
    p.threads.all (fun t => decide (t.length ≤ 8) && t.all (opValid p))

theorem l2Value_any (n : Int) (w : World) :
    Calls Try.prog 108 #[.int .i64 n] w fun e w' => e = .returned (.bool (isVal n)) ∧ w' = w := by
  by_cases h : 0 ≤ n
  · have h' : isVal n = decide (n ≤ 99) := by simp [isVal, h]
    rw [h']
    go_enter Try.func108, Try.ntmps108
    go_wp2
    go_ret
    exact ⟨rfl, rfl⟩
  · have h' : isVal n = false := by simp [isVal, h]
    have hd : decide (0 ≤ n) = false := by simpa using h
    rw [h']
    go_enter Try.func108, Try.ntmps108
    go_wp2
    go_ret
    exact ⟨rfl, rfl⟩

set_option maxHeartbeats 1000000 in
theorem l6Word_any (k : Int) (w : World) :
    Calls Try.prog 88 #[.int .i64 k] w fun e w' => e = .returned (.string (wordB k)) ∧ Below w.heap.size w w' := by
  by_cases h1 : k < 1
  · have e : wordB k = ⟨#[]⟩ := by unfold wordB; repeat (rw [if_neg (by omega)])
    rw [e]
    go_enter Try.func88, Try.ntmps88
    go_wp2
    go_ret
    exact ⟨rfl, (Below.refl _ _).alloc (Nat.le_refl _) _⟩
  · have hd1 : decide (k < 1) = false := by simpa using h1
    by_cases h2 : 10 < k
    · have e : wordB k = ⟨#[]⟩ := by unfold wordB; repeat (rw [if_neg (by omega)])
      rw [e]
      go_enter Try.func88, Try.ntmps88
      go_wp2
      go_ret
      exact ⟨rfl, (Below.refl _ _).alloc (Nat.le_refl _) _⟩
    · have hk : k = 1 ∨ k = 2 ∨ k = 3 ∨ k = 4 ∨ k = 5 ∨ k = 6 ∨ k = 7 ∨ k = 8 ∨ k = 9 ∨ k = 10 := by omega
      clear h1 h2 hd1
      rcases hk with rfl | rfl | rfl | rfl | rfl | rfl | rfl | rfl | rfl | rfl
      all_goals
        go_enter Try.func88, Try.ntmps88
        go_wp2
        go_ret
        exact ⟨rfl, (Below.refl _ _).alloc (Nat.le_refl _) _⟩

set_option maxHeartbeats 1000000 in
theorem l6Shared_any (v : PV) (p : Pg) (k : Int) (w : World) (hr : RdP w v p) (h : v.ns ≤ maxLen ∧ v.ng ≤ maxLen ∧ v.nb ≤ maxLen ∧ v.nr ≤ maxLen) :
    Calls Try.prog 89 #[.agg #[.slice v.s v.ns v.cs, .slice v.g v.ng v.cg, .slice v.b v.nb v.cb, .slice v.r v.nr v.cr, .slice v.t v.nt v.ct], .int .i64 k] w fun e w' => e = .returned (.int .i64 (shared p k)) ∧ Below w.heap.size w w' := by
  unfold maxLen at h
  obtain ⟨z1, z2, z3, z4⟩ := h
  have l1 := Lib.hid hr.ls
  have l2 := Lib.hid hr.lg
  have l3 := Lib.hid hr.lb
  have l4 := Lib.hid hr.lr
  have hk : k = 1 ∨ k = 2 ∨ k = 3 ∨ k = 4 ∨ k = 5 ∨ k = 6 ∨ k = 7 ∨ (k ≠ 1 ∧ k ≠ 2 ∧ k ≠ 3 ∧ k ≠ 4 ∧ k ≠ 5 ∧ k ≠ 6 ∧ k ≠ 7) := by omega
  clear hr
  rcases hk with rfl | rfl | rfl | rfl | rfl | rfl | rfl | ⟨h1, h2, h3, h4, h5, h6, h7⟩
  rotate_left 7
  · have t1 : (k == 1) = false := by simpa using h1
    have t2 : (k == 2) = false := by simpa using h2
    have t3 : (k == 3) = false := by simpa using h3
    have t4 : (k == 4) = false := by simpa using h4
    have t5 : (k == 5) = false := by simpa using h5
    have t6 : (k == 6) = false := by simpa using h6
    have t7 : (k == 7) = false := by simpa using h7
    have HS : Hid (shared p k = v.nr) := Lib.hid (by unfold shared; rw [if_neg h1, if_neg (by omega), if_neg h4, if_neg (by omega), if_neg h7]; exact l4.out)
    clear h1 h2 h3 h4 h5 h6 h7
    go_enter Try.func89, Try.ntmps89
    go_wp2
    go_ret
    exact ⟨ret_int (by rw [HS.out]), (Below.refl _ _).alloc (Nat.le_refl _) _⟩
  all_goals
    go_enter Try.func89, Try.ntmps89
    go_wp2
    go_ret
    exact ⟨ret_int (by simp [shared, l1.out, l2.out, l3.out]), (Below.refl _ _).alloc (Nat.le_refl _) _⟩

end Go.Proofs.Ytnobkdkfhgjeeab
