/- DropOp: plain words. -/
import Derived.Test.YtnobkdkfhgjeeabCutFit
namespace Go.Proofs.Ytnobkdkfhgjeeab
open Go.RowKit

def dropRes (p : Pg) (t a : Int) : Option Pg :=
  if 0 ≤ a ∧ a < (p.threads.getD t.toNat []).length then some (p.thr (p.threads.set t.toNat ((p.threads.getD t.toNat []).eraseIdx a.toNat))) else none
def dropOp (p : Pg) (t a : Int) : Option Pg := changeP p t (dropRes p t a)

theorem opsV_erase : ∀ (l : List OpD) (i : Nat), opsV (l.eraseIdx i) = (opsV l).take (i * 3) ++ (opsV l).drop ((i + 1) * 3)
  | [], i => by simp [opsV]
  | o :: l, 0 => by
    show opsV l = [] ++ (opv o ++ opsV l).drop 3
    rw [List.nil_append, List.drop_left' (by rfl)]
  | o :: l, i + 1 => by
    have h := opsV_erase l i
    have e1 : (i + 1) * 3 = 3 + i * 3 := by omega
    have e2 : (i + 1 + 1) * 3 = 3 + (i + 1) * 3 := by omega
    rw [List.eraseIdx_cons_succ, e2]
    show opv o ++ opsV (l.eraseIdx i) = (opv o ++ opsV l).take ((i + 1) * 3) ++ (opv o ++ opsV l).drop (3 + (i + 1) * 3)
    have ho : (opv o).length = 3 := rfl
    rw [h, e1, ← ho, List.take_length_add_append, List.drop_length_add_append, ho, List.append_assoc]

end Go.Proofs.Ytnobkdkfhgjeeab
