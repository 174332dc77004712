/- slices.Insert of one operation: the runs of its builtins. -/
import Derived.Test.YtnobkdkfhgjeeabRowKit
import Derived.Test.YtnobkdkfhgjeeabBaseD
import Derived.Laws.IdiomCopy
import Derived.Laws.Externs
import Derived.Lib.Overlaps
import Derived.Lib.AppendZerosOnto
namespace Go.Proofs.Ytnobkdkfhgjeeab
open Go.RowKit

theorem run_copy_wide {P : Program} (w : World) (dT sT ty elem : TypeId) (size : Nat) (b o dLen dCap : Nat) (a : Addr) (sLen sCap k : Nat) (cs : List Value)
    (hu : P.underlying dT = some (.slice elem)) (hs : (P.info? elem).map (·.size) = some size) (hk : Nat.min sLen dLen = k) (hn : cs.length = k * size)
    (hsrc : ∀ j v, cs[j]? = some v → w.cell? (a.add j) = some v) (hc : ∀ j, j < cs.length → (w.cell? ⟨b, o + j, none⟩).isSome = true) (hf : ∀ j, j < cs.length → w.frozen? ⟨b, o + j, none⟩ = false) (h1 : ∀ v ∈ cs, v.oneCell' = true) :
    (Builtin.copy_ #[dT, sT] ty #[.slice (some ⟨b, o, none⟩) dLen dCap, .slice (some a) sLen sCap]).run P w = .ok (goInt k) (w.setCells b o cs) := by
  have hl := run_loadCells_list (P := P) w a cs hsrc
  have hst := run_storeCells_cells (P := P) b o cs 0 w (by simpa using hc) (by simpa using hf) h1
  cases hq : P.info? elem with
  | none => simp [hq] at hs
  | some i =>
    have hi : i.size = size := by simpa [hq] using hs
    simp [Builtin.copy_, run_underlying hu, Builtin.lenOf, Builtin.firstCells, sizeOf, typeInfo, hq, hi, hk, ← hn, hl, hst]

theorem wp_copy_at {P : Program} {wr w1 : World} {o : Oper} {ac : Act} {K : Act → World → Prop} {Q : Exit → Act → World → Prop} (s x : Operand) (t t' : TypeId)
    (ho : o.op = .call { callee := .builtin .copy, args := #[s, x], argTypes := #[t, t'] }) {vs vx r : Value} (hs : ac.eval s = vs) (hx : ac.eval x = vx)
    (hr : ∀ ty, (Builtin.copy_ #[t, t'] ty #[vs, vx]).run P wr = .ok r w1) (h : K (ac.put o.dst r) w1) : o.wp P ac wr K Q := by
  unfold Oper.wp execOp
  simp only [ho, resolve, invoke, builtin, Sem.run_bind, Sem.run_pure, Result.andThen_ok, List.map_toArray, List.map_cons, List.map_nil, hs, hx, hr]
  exact h
theorem wpList_copy_at {P : Program} {wr w1 : World} {ops : Array Oper} {rest : List Oper} {o : Oper} {ac : Act} {Q : Exit → Act → World → Prop} (hgd : o.guard = none) (s x : Operand) (t t' : TypeId)
    (ho : o.op = .call { callee := .builtin .copy, args := #[s, x], argTypes := #[t, t'] }) {vs vx r : Value} (hs : ac.eval s = vs) (hx : ac.eval x = vx)
    (hr : ∀ ty, (Builtin.copy_ #[t, t'] ty #[vs, vx]).run P wr = .ok r w1) (h : wpList P ops Q rest (ac.put o.dst r) w1) : wpList P ops Q (o :: rest) ac wr := by
  have hw : Region.wanted o (yielded ops ac.tmps) = true := by simp [Region.wanted, hgd]
  unfold wpList
  rw [if_pos hw]
  exact .inl (wp_copy_at s x t t' ho hs hx hr h)
theorem wp_append_at2 {P : Program} {wr w1 : World} {o : Oper} {ac : Act} {K : Act → World → Prop} {Q : Exit → Act → World → Prop} (s x : Operand) (t t' : TypeId)
    (ho : o.op = .call { callee := .builtin .append, args := #[s, x], argTypes := #[t, t'] }) {vs vx r : Value} (hs : ac.eval s = vs) (hx : ac.eval x = vx)
    (hr : ∀ ty, (Builtin.append_ #[t, t'] ty #[vs, vx]).run P wr = .ok r w1) (h : K (ac.put o.dst r) w1) : o.wp P ac wr K Q := by
  unfold Oper.wp execOp
  simp only [ho, resolve, invoke, builtin, Sem.run_bind, Sem.run_pure, Result.andThen_ok, List.map_toArray, List.map_cons, List.map_nil, hs, hx, hr]
  exact h
theorem wpList_append_at2 {P : Program} {wr w1 : World} {ops : Array Oper} {rest : List Oper} {o : Oper} {ac : Act} {Q : Exit → Act → World → Prop} (hgd : o.guard = none) (s x : Operand) (t t' : TypeId)
    (ho : o.op = .call { callee := .builtin .append, args := #[s, x], argTypes := #[t, t'] }) {vs vx r : Value} (hs : ac.eval s = vs) (hx : ac.eval x = vx)
    (hr : ∀ ty, (Builtin.append_ #[t, t'] ty #[vs, vx]).run P wr = .ok r w1) (h : wpList P ops Q rest (ac.put o.dst r) w1) : wpList P ops Q (o :: rest) ac wr := by
  have hw : Region.wanted o (yielded ops ac.tmps) = true := by simp [Region.wanted, hgd]
  unfold wpList
  rw [if_pos hw]
  exact .inl (wp_append_at2 s x t t' ho hs hx hr h)

theorem insert_take_drop {α : Type} : ∀ (l : List α) (i : Nat) (x : α), i ≤ l.length → l.insertIdx i x = l.take i ++ x :: l.drop i
  | l, 0, x, _ => by simp
  | [], i + 1, x, h => by simp at h
  | y :: l, i + 1, x, h => by
    have := insert_take_drop l i x (by simpa using h)
    simp [this]
/-- The cells with one operation more. -/
theorem opsV_insert (l : List OpD) (i : Nat) (x : OpD) (hi : i ≤ l.length) : opsV (l.insertIdx i x) = (opsV l).take (i * 3) ++ opv x ++ (opsV l).drop (i * 3) := by
  have h1 := insert_take_drop l i x hi
  have h2 : (opsV l) = opsV (l.take i) ++ opsV (l.drop i) := by rw [← List.flatMap_append, List.take_append_drop]
  have h3 : (opsV (l.take i)).length = i * 3 := by rw [opsV_len, List.length_take]; omega
  rw [h1, h2, List.take_left' h3, ← h3, List.drop_left' rfl]
  simp [opsV, List.flatMap_append, List.flatMap_cons]

end Go.Proofs.Ytnobkdkfhgjeeab
