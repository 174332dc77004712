/- More words of this proof, with no program in sight: facts over steps that write one row; 'append' of whatever slice that reads. -/
import Derived.Test.YtnobkdkfhgjeeabLib
namespace Go.Proofs.Ytnobkdkfhgjeeab
open Go.RowKit

section
variable {P : Program} {w : World}
theorem run_append_owned_none' (base : Nat) (t ty e : TypeId) (i : TypeInfo) (size : Nat) (ht : P.underlying t = some (.slice e)) (hi : P.info? e = some i)
    (v : Value) (n : Nat) (xs : List Value) (hown : w.ownsRow base e size v n xs) (c : Nat) :
    (Builtin.append_ #[t, t] ty #[v, .slice none 0 c]).run P w = .ok v w := by
  rcases hown.2 with ⟨rfl, rfl⟩ | ⟨g, cap, cur, rfl, _, _, hnc, _⟩
  · simp [Builtin.append_, run_underlying ht, sizeOf, typeInfo, hi, Builtin.lenOf, Builtin.firstCells]
  · simp [Builtin.append_, run_underlying ht, sizeOf, typeInfo, hi, Builtin.lenOf, Builtin.firstCells, hnc, storeCells]
end

/-- 'append(out, src...)': 'out' is owned, 'src' reads (nil of whatever capacity too). -/
theorem wpList_append_rd {P : Program} {wr : World} {ops : Array Oper} {rest : List Oper} {o : Oper} {ac : Act} {Q : Exit → Act → World → Prop} (hgd : o.guard = none) (s x : Operand) (t : TypeId)
    (ho : o.op = .call { callee := .builtin .append, args := #[s, x], argTypes := #[t, t] })
    {B : Nat} {e : TypeId} {z : Value} {size bytes : Nat} (ht : P.underlying t = some (.slice e)) (hinfo : (P.info? e).map (fun i => (i.zero, i.size, i.bytes)) = some (some z, size, bytes))
    (hzs : z.cells.size = size) (hsz : 0 < size)
    {a : Option Addr} {n c : Nat} {xs : List Value} (hs : ac.eval s = .slice a n c) (hown : wr.ownsRow B e size (.slice a n c) n xs)
    {a2 : Option Addr} {m c2 : Nat} {news : List Value} (hx : ac.eval x = .slice a2 m c2) (hl : news.length = m * size) (hsrc : Rd wr a2 news) (h1 : ∀ u ∈ news, u.oneCell' = true)
    (hbytes : (n + m) * bytes ≤ 140737488355328) (hby : 0 < bytes) (hbase : B ≤ wr.heap.size)
    (h : ∀ a' c' w', w'.ownsRow B e size (.slice a' (n + m) c') (n + m) (xs ++ news) → wr.grownBy w' (rowOf a) → wpList P ops Q rest (ac.put o.dst (.slice a' (n + m) c')) w') : wpList P ops Q (o :: rest) ac wr := by
  obtain ⟨i, hi, hz0, hz1, hz2⟩ := info_parts hinfo
  have h63 : n + m ≤ maxLen := by
    have := Nat.le_trans (Nat.le_mul_of_pos_right (n + m) hby) hbytes
    simp only [maxLen]; omega
  cases a2 with
  | none =>
    have hm : m = 0 := by
      rcases hsrc with e0 | ⟨b, o', e0, _⟩
      · rw [e0] at hl
        rcases Nat.mul_eq_zero.1 hl.symm with h0 | h0
        · exact h0
        · omega
      · cases e0
    subst hm
    obtain rfl : news = [] := List.eq_nil_of_length_eq_zero (by simpa using hl)
    refine wpList_plain hgd fun K hK' => ?_
    have hrun := run_append_owned_none' (P := P) (w := wr) B t o.type e i size ht hi _ n xs hown c2
    unfold Oper.wp
    simp [execOp, ho, resolve, invoke, builtin, hs, hx, hrun, Result.andThen]
    exact hK' _ _ (by simpa using h a c wr (by simpa using hown) (World.grownBy.refl _ _))
  | some ad =>
    refine wpList_append_own wr hgd s x t ho B e i z size bytes ht hi hz0 hz1 hz2 hzs hsz _ n xs hs hown ad m c2 news hx hl ?_ h1 h63 hbytes hbase ?_
    · intro j u hj
      have hjl : j < news.length := (List.getElem?_eq_some_iff.1 hj).1
      obtain ⟨b, o', e', hc⟩ := hsrc.at (by omega)
      cases e'
      rw [Addr.add_lit, hc j hjl]
      rw [List.getD_eq_getElem?_getD, hj]; rfl
    · intro v' w' hown' hgr _
      obtain ⟨a', c', rfl⟩ := owns_slice hown'
      rw [ownBlock_slice] at hgr
      exact h a' c' w' hown' hgr

/-- A cell over a step that writes one row alone. -/
theorem keepg {w w' : World} {row : Option Nat} {q : Addr} {x : Value} (hg : w.grownBy w' row) (g : w.cell? q = some x) (hne : row ≠ some q.block) : w'.cell? q = some x := by
  have hlt := World.block_lt_of_cell? w _ g
  rw [World.cell?_of_block (w := w) (w' := w') (a := q) (hg.block q.block hlt (fun e => hne e.symm))]
  exact g

/-- A whole copy of what reads: 'append(nil, src...)'. -/
theorem owns_none (w : World) (B : Nat) (e : TypeId) (sz : Nat) : w.ownsRow B e sz (.slice none 0 0) 0 [] := World.ownsRow_nil _ _ _ _

end Go.Proofs.Ytnobkdkfhgjeeab
