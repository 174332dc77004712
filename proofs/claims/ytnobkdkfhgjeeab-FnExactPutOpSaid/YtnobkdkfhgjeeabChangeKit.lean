/- What the changes leave of a program's copy: rows of threads that are written; the changes as plain functions. -/
import Derived.Test.YtnobkdkfhgjeeabChange
namespace Go.Proofs.Ytnobkdkfhgjeeab
open Go.RowKit

theorem getD_len {ts : List (List OpD)} {i : Nat} (hi : i < ts.length) : (ts.map opsV).getD i [] = opsV (ts.getD i []) := by simp [List.getD, hi]

/-- The threads of an owned program read, over a step that writes the outer row alone. -/
theorem OwnP.inner_rd {w w' : World} {u : PV} {us : List Value} {p : Pg} (hO : OwnP w u us p.cells) (hg : w.grownBy w' (rowOf u.t)) :
    ∀ j, j < p.threads.length → ∃ a c, us.getD j undef = .slice a (p.threads.getD j []).length c ∧ Rd w' a (opsV (p.threads.getD j [])) := by
  intro j hj
  have hin := hO.ot.inner
  have hl : p.threads.length = u.nt := by have := hO.ot.len; simpa [Pg.cells] using this
  obtain ⟨a', m, c', e, ho⟩ := hO.ot.inn j (by omega)
  have er : (p.cells).t.getD j [] = opsV (p.threads.getD j []) := getD_len hj
  rw [er] at ho
  have hm : m = (p.threads.getD j []).length := by
    have := ho.1
    rw [opsV_len] at this; omega
  subst hm
  refine ⟨a', c', e, Rd.of_owns (owns_grown ho hg (fun k h1 h2 => ?_))⟩
  exact owns_owns ho hO.ot.out types_ne.2.1 k h1 h2

theorem rdp_threads {w w' : World} {u : PV} {us : List Value} {p : Pg} (hO : OwnP w u us p.cells) (hg : w.grownBy w' (rowOf u.t)) {B n' c' : Nat} {a' : Option Addr} {us' : List Value} (ho' : w'.ownsRow B 34 1 (.slice a' n' c') n' us')
    {ts' : List (List OpD)} (hl : ts'.length = n') (hin : ∀ i, i < ts'.length → ∃ a c, us'.getD i undef = .slice a (ts'.getD i []).length c ∧ Rd w' a (opsV (ts'.getD i []))) :
    RdP w' (u.thr a' n' c') ⟨p.sems, p.groups, p.barriers, p.rooms, ts'⟩ := by
  have t1 := types_ne.1
  have h1 := owns_grown hO.os hg (owns_owns hO.os hO.ot.out t1)
  have h2 := owns_grown hO.og hg (owns_owns hO.og hO.ot.out t1)
  have h3 := owns_grown hO.ob hg (owns_owns hO.ob hO.ot.out t1)
  have h4 := owns_grown hO.orr hg (owns_owns hO.orr hO.ot.out t1)
  have r := hO.rd
  exact ⟨r.ls, r.lg, r.lb, r.lr, hl, Rd.of_owns h1, Rd.of_owns h2, Rd.of_owns h3, Rd.of_owns h4, ⟨us', ⟨by show us'.length = ts'.length; have := ho'.1; omega, Rd.of_owns ho', hin⟩⟩⟩

def Pg.thr (p : Pg) (ts : List (List OpD)) : Pg := ⟨p.sems, p.groups, p.barriers, p.rooms, ts⟩
theorem SmallP.thr {p : Pg} (h : SmallP p) {ts : List (List OpD)} (hl : ts.length ≤ 1048576) (hin : ∀ i, (ts.getD i []).length ≤ 1048576) : SmallP (p.thr ts) := ⟨h.ls, h.lg, h.lb, h.lr, hl, hin⟩

/-- Two exchanged. -/
def swapTs {α : Type} (d : α) (l : List α) (i j : Nat) : List α := (l.set i (l.getD j d)).set j (l.getD i d)
theorem swapTs_len {α : Type} (d : α) (l : List α) (i j : Nat) : (swapTs d l i j).length = l.length := by simp [swapTs]
theorem swapTs_get {α : Type} (d : α) (l : List α) (i j k : Nat) (hi : i < l.length) (hj : j < l.length) : (swapTs d l i j).getD k d = if k = j then l.getD i d else if k = i then l.getD j d else l.getD k d := by
  unfold swapTs
  simp only [List.getD, List.getElem?_set, List.length_set]
  by_cases h1 : j = k
  · subst h1; simp [hj]
  · have h1' : ¬ k = j := fun e => h1 e.symm
    by_cases h2 : i = k
    · subst h2; simp [h1, h1', hi]
    · have h2' : ¬ k = i := fun e => h2 e.symm
      simp [h1, h1', h2, h2']
def swapRes (p : Pg) (a b : Int) : Option Pg := if 0 ≤ b ∧ b < p.threads.length then some (p.thr (swapTs [] p.threads a.toNat b.toNat)) else none
def swapThreads (p : Pg) (a b : Int) : Option Pg := changeP p a (swapRes p a b)

end Go.Proofs.Ytnobkdkfhgjeeab
