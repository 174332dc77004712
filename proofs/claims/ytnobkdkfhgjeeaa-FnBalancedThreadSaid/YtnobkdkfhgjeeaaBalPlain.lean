/- Plain facts: a program is balanced if its threads are. -/
import Derived.Test.YtnobkdkfhgjeeaaLeftPlain
import Derived.Test.YtnobkdkfhgjeeaaBaseB
namespace Go.Proofs.Ytnobkdkfhgjeeaa
open Go.RowKit

theorem bal_one {p : Pg} (h : progValid p = true) (i : Nat) (hi : i < p.threads.length) : isBalanced (p.thr ((p.threads.drop i).take 1)) = balThread p.sems.length (p.threads.getD i []) := by
  have e : (p.threads.drop i).take 1 = [p.threads.getD i []] := by
    rw [List.drop_eq_getElem_cons hi, List.take_succ_cons, List.take_zero, List.getD_eq_getElem?_getD, List.getElem?_eq_getElem hi]
    rfl
  have hv := valid_ops h
  have hvt : progValid (p.thr [p.threads.getD i []]) = true := valid_thr_of h (by simp) (by simp) (fun t ht => by
    obtain rfl := List.mem_singleton.1 ht
    exact hv.2.2 _ (getD_mem0 [] _ i hi))
  rw [e]
  unfold isBalanced
  rw [hvt]
  show (true && List.all [p.threads.getD i []] (balThread p.sems.length)) = _
  simp
theorem bal_take {p : Pg} (i : Nat) (hi : i < p.threads.length) : (p.threads.take (i + 1)).all (balThread p.sems.length) = ((p.threads.take i).all (balThread p.sems.length) && balThread p.sems.length (p.threads.getD i [])) := by
  rw [List.take_add_one, List.getElem?_eq_getElem hi, List.getD_eq_getElem?_getD, List.getElem?_eq_getElem hi, List.all_append]
  simp only [Option.toList_some, List.all_cons, List.all_nil, Bool.and_true, Option.getD_some]
theorem bal_all {p : Pg} (h : progValid p = true) : isBalanced p = p.threads.all (balThread p.sems.length) := by
  unfold isBalanced; rw [h]; simp
theorem bal_inv {p : Pg} (h : progValid p = false) : isBalanced p = false := by
  unfold isBalanced; rw [h]; simp
end Go.Proofs.Ytnobkdkfhgjeeaa
