/- Words that the walks of the laws use. -/
import Derived.Test.YtnobkdkfhgjeeabPgmTo2
import Derived.Test.YtnobkdkfhgjeeabPgmMark2
import Derived.Test.YtnobkdkfhgjeeabSmall
import Derived.Test.YtnobkdkfhgjeeabLib2
namespace Go.Proofs.Ytnobkdkfhgjeeab
open Go.RowKit

theorem flen_ops : ∀ ts : List (List OpD), flen (ts.map opsV) = 3 * (ts.map List.length).sum
  | [] => rfl
  | t :: ts => by
    simp only [List.map_cons, List.sum_cons]
    rw [show flen (opsV t :: ts.map opsV) = (opsV t).length + flen (ts.map opsV) from rfl, flen_ops ts, opsV_len]
    omega

/-- How many cells a program has. -/
theorem cells_size {v : PV} {p : Pg} {w : World} (hr : RdP w v p) (h : ¬ 1048576 < total v p) : p.cells.size ≤ 3145728 ∧ ∀ i, (p.cells.t.getD i []).length ≤ 3145728 := by
  unfold total at h
  have e : tlen p.threads v.nt = (p.threads.map List.length).sum := by unfold tlen; rw [← hr.lt, List.take_length]
  refine ⟨?_, fun i => ?_⟩
  · unfold Cells.size Pg.cells
    simp only [List.length_map]
    rw [flen_ops, hr.ls, hr.lg, hr.lb, hr.lr]
    omega
  · unfold Pg.cells
    by_cases hi : i < p.threads.length
    · have e : (p.threads.map opsV).getD i [] = opsV (p.threads.getD i []) := by simp [List.getD, hi]
      show ((p.threads.map opsV).getD i []).length ≤ _
      rw [e, opsV_len]
      have := len_tlen p.threads i
      rw [hr.lt] at this
      omega
    · have e : (p.threads.map opsV).getD i [] = [] := by simp [List.getD, Nat.le_of_not_lt hi]
      show ((p.threads.map opsV).getD i []).length ≤ _
      rw [e]; simp

theorem cell_touch {S : List Nat} {w w' : World} {q : Addr} {x : Value} (T : Touch S w w') (g : w.cell? q = some x) (hne : q.block ∉ S) : w'.cell? q = some x := by
  have hlt := World.block_lt_of_cell? w _ g
  rw [World.cell?_of_block (w := w) (w' := w') (a := q) (T.block q.block hlt hne)]
  exact g

end Go.Proofs.Ytnobkdkfhgjeeab
