/- A copy whose threads are changed, owned still. -/
import Derived.Test.YtnobkdkfhgjeeabChangeKit
namespace Go.Proofs.Ytnobkdkfhgjeeab
open Go.RowKit

theorem OwnP.inner_own {w w' : World} {u : PV} {us : List Value} {p : Pg} (hO : OwnP w u us p.cells) (hg : w.grownBy w' (rowOf u.t)) :
    ∀ j, j < p.threads.length → ∃ a m c, us.getD j undef = .slice a m c ∧ w'.ownsRow 0 44 3 (.slice a m c) m (opsV (p.threads.getD j [])) := by
  intro j hj
  have hl : p.threads.length = u.nt := by have := hO.ot.len; simpa [Pg.cells] using this
  obtain ⟨a', m, c', e, ho⟩ := hO.ot.inn j (by omega)
  have er : (p.cells).t.getD j [] = opsV (p.threads.getD j []) := getD_len hj
  rw [er] at ho
  refine ⟨a', m, c', e, owns_grown ho hg (fun k h1 h2 => ?_)⟩
  exact owns_owns ho hO.ot.out types_ne.2.1 k h1 h2

theorem ownP_threads {w w' : World} {u : PV} {us : List Value} {p : Pg} (hO : OwnP w u us p.cells) (hg : w.grownBy w' (rowOf u.t)) {n' c' : Nat} {a' : Option Addr} {us' : List Value} (ho' : w'.ownsRow 0 34 1 (.slice a' n' c') n' us')
    {ts' : List (List OpD)} (hl : ts'.length = n') (hin : ∀ i, i < ts'.length → ∃ a m c, us'.getD i undef = .slice a m c ∧ w'.ownsRow 0 44 3 (.slice a m c) m (opsV (ts'.getD i []))) :
    OwnP w' (u.thr a' n' c') us' (p.thr ts').cells := by
  have t1 := types_ne.1
  refine ⟨owns_grown hO.os hg (owns_owns hO.os hO.ot.out t1), owns_grown hO.og hg (owns_owns hO.og hO.ot.out t1), owns_grown hO.ob hg (owns_owns hO.ob hO.ot.out t1), owns_grown hO.orr hg (owns_owns hO.orr hO.ot.out t1), ⟨ho', by simpa [Pg.cells, Pg.thr, PV.thr] using hl, fun i hi => ?_⟩⟩
  have hi' : i < ts'.length := by rw [hl]; exact hi
  have er : (p.thr ts').cells.t.getD i [] = opsV (ts'.getD i []) := getD_len hi'
  rw [er]
  exact hin i hi'

theorem fp_thr {B : Nat} {u : PV} {us us' : List Value} {a' : Option Addr} {n' c' : Nat} (hfr : ∀ k ∈ fpP u us, B ≤ k) (ha : ∀ k, rowOf a' = some k → B ≤ k) (hin : ∀ x ∈ us', ∀ k, x.ownBlock = some k → B ≤ k) :
    ∀ k ∈ fpP (u.thr a' n' c') us', B ≤ k := by
  intro k hk
  unfold fpP fpT at hk hfr
  simp only [PV.thr, List.mem_append, Option.mem_toList, List.mem_filterMap] at hk hfr
  rcases hk with hk | hk | hk | hk | hk | ⟨x, hx, hk⟩
  · exact hfr k (.inl hk)
  · exact hfr k (.inr (.inl hk))
  · exact hfr k (.inr (.inr (.inl hk)))
  · exact hfr k (.inr (.inr (.inr (.inl hk))))
  · exact ha k hk
  · exact hin x hx k hk

/-- The reference's last line: the result's slot, in a block of its own, is written. -/
theorem rd_after {w w' : World} {u : PV} {us : List Value} {p : Pg} {R B : Nat} (hO : OwnP w u us p.cells) (hg : Touch [R] w w') (hR : R < B) (hfr : ∀ k ∈ fpP u us, B ≤ k) : RdP w' u p :=
  (hO.touch hg (fun k hk hm => by have := hfr k hk; simp at hm; omega)).rd

theorem mem_fp_row {u : PV} {us : List Value} {x : Value} (hx : x ∈ us) {k : Nat} (hk : x.ownBlock = some k) : k ∈ fpP u us := by
  unfold fpP fpT
  simp only [List.mem_append, Option.mem_toList, List.mem_filterMap]
  exact .inr (.inr (.inr (.inr (.inr ⟨x, hx, hk⟩))))

/-- A store into the program's own block leaves what it owns. -/
theorem OwnP.head {w w' : World} {u : PV} {us : List Value} {C : Cells} {G : Nat} {cs : Array Value} (hO : OwnP w u us C) (hk : Blk w G cs 26) (hg : w.grownBy w' (some G)) : OwnP w' u us C := by
  have T := types_ne
  have P : ∀ {a : Option Addr}, rowOf a ≠ some G → ∀ k, rowOf a = some k → (some G : Option Nat) = some k → False := fun h k h1 h2 => h (h1.trans h2.symm)
  refine ⟨owns_grown hO.os hg (P (blk_owns hk hO.os T.2.2.1)), owns_grown hO.og hg (P (blk_owns hk hO.og T.2.2.1)), owns_grown hO.ob hg (P (blk_owns hk hO.ob T.2.2.1)), owns_grown hO.orr hg (P (blk_owns hk hO.orr T.2.2.1)), ⟨owns_grown hO.ot.out hg (P (blk_owns hk hO.ot.out T.2.2.2.1)), hO.ot.len, fun i hi => ?_⟩⟩
  obtain ⟨a, m, c, e, ho⟩ := hO.ot.inn i hi
  exact ⟨a, m, c, e, owns_grown ho hg (P (blk_owns hk ho T.2.2.2.2.1))⟩

end Go.Proofs.Ytnobkdkfhgjeeab
