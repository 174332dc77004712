/- slices.Insert of one operation: the walk. -/
import Derived.Test.YtnobkdkfhgjeeaaInsKit
namespace Go.Proofs.Ytnobkdkfhgjeeaa
open Go.RowKit

theorem over_shift (i n : Nat) (hi : i < n) (cur X D : List Value) (hX : X.length = 3) (hD : D.length = (n - i) * 3) (hc : (n + 1) * 3 ≤ cur.length) :
    (over (i * 3) X (over ((i + 1) * 3) D cur)).take ((n + 1) * 3) = cur.take (i * 3) ++ X ++ D := by
  have e1 : (cur.take ((i + 1) * 3)).length = (i + 1) * 3 := by rw [List.length_take]; omega
  have h : over ((i + 1) * 3) D cur = cur.take ((i + 1) * 3) ++ (D ++ cur.drop ((i + 1) * 3 + D.length)) := by unfold over; rw [List.append_assoc]
  have e2 : i * 3 + X.length = (cur.take ((i + 1) * 3)).length := by omega
  have A1 : (over ((i + 1) * 3) D cur).take (i * 3) = cur.take (i * 3) := by rw [h, List.take_append_of_le_length (by omega), List.take_take, Nat.min_eq_left (by omega)]
  have A2 : (over ((i + 1) * 3) D cur).drop (i * 3 + X.length) = D ++ cur.drop ((i + 1) * 3 + D.length) := by rw [h, e2, List.drop_left' rfl]
  have e3 : (cur.take (i * 3)).length = i * 3 := by rw [List.length_take]; omega
  show ((over ((i + 1) * 3) D cur).take (i * 3) ++ X ++ (over ((i + 1) * 3) D cur).drop (i * 3 + X.length)).take _ = _
  rw [A1, A2, ← List.append_assoc, List.take_left' (by rw [List.length_append, List.length_append, e3, hX, hD]; omega)]
theorem over_grow (i n : Nat) (hi : i < n) (cs X D : List Value) (hX : X.length = 3) (hD : D.length = (n - i) * 3) (hc : cs.length = (n + 1) * 3) :
    over ((i + 1) * 3) D (over (i * 3) X cs) = cs.take (i * 3) ++ X ++ D := by
  have e3 : (cs.take (i * 3)).length = i * 3 := by rw [List.length_take]; omega
  have e4 : (cs.take (i * 3) ++ X).length = (i + 1) * 3 := by rw [List.length_append, e3, hX]; omega
  have h : over (i * 3) X cs = (cs.take (i * 3) ++ X) ++ cs.drop (i * 3 + X.length) := rfl
  rw [h]
  unfold over
  rw [List.take_left' e4, List.drop_eq_nil_of_le (by rw [List.length_append, e4, List.length_drop]; omega), List.append_nil]

/-- What the insertion leaves. -/
def Inserted (a : Option Addr) (l : List OpD) (i n : Nat) (x : OpD) (w : World) (e : Ending) (w' : World) : Prop :=
  ∃ a' c', e = .returned (.slice a' (n + 1) c') ∧ w'.ownsRow 0 53 3 (.slice a' (n + 1) c') (n + 1) (opsV (l.insertIdx i x)) ∧ w.grownBy w' (rowOf a)

end Go.Proofs.Ytnobkdkfhgjeeaa
