/- 'append' of whatever slice that reads, at the operation and as a step of a region that draws its order. No program in sight. -/
import Derived.Test.YtnobkdkfhgjeeabLib2
import Derived.Maps.AppendAt
namespace Go.Proofs.Ytnobkdkfhgjeeab
open Go.RowKit

/-- What lies in a block that is known whole reads. -/
theorem Rd.of_blk {w : World} {b : Nat} {cs : Array Value} {t : TypeId} (h : Blk w b cs t) : Rd w (some ⟨b, 0, none⟩) cs.toList :=
  .inr ⟨b, 0, rfl, fun j hj => by
    rw [Nat.zero_add]
    exact h.cell j (by simp only [Array.length_toList] at hj; simp [List.getD, hj])⟩

/-- 'append(out, src...)' at the operation: 'out' is owned, 'src' reads. -/
theorem wp_append_rd {P : Program} {wr : World} {o : Oper} {ac : Act} {K : Act → World → Prop} {Q : Exit → Act → World → Prop} (s x : Operand) (t : TypeId)
    (ho : o.op = .call { callee := .builtin .append, args := #[s, x], argTypes := #[t, t] })
    {B : Nat} {e : TypeId} {z : Value} {size bytes : Nat} (ht : P.underlying t = some (.slice e)) (hinfo : (P.info? e).map (fun i => (i.zero, i.size, i.bytes)) = some (some z, size, bytes))
    (hzs : z.cells.size = size) (hsz : 0 < size)
    {a : Option Addr} {n c : Nat} {xs : List Value} (hs : ac.eval s = .slice a n c) (hown : wr.ownsRow B e size (.slice a n c) n xs)
    {a2 : Option Addr} {m c2 : Nat} {news : List Value} (hx : ac.eval x = .slice a2 m c2) (hl : news.length = m * size) (hsrc : Rd wr a2 news) (h1 : ∀ u ∈ news, u.oneCell' = true)
    (hbytes : (n + m) * bytes ≤ 140737488355328) (hby : 0 < bytes) (hbase : B ≤ wr.heap.size)
    (h : ∀ a' c' w', w'.ownsRow B e size (.slice a' (n + m) c') (n + m) (xs ++ news) → wr.grownBy w' (rowOf a) → K (ac.put o.dst (.slice a' (n + m) c')) w') : o.wp P ac wr K Q := by
  obtain ⟨i, hi, hz0, hz1, hz2⟩ := info_parts hinfo
  have h63 : n + m ≤ maxLen := by
    have := Nat.le_trans (Nat.le_mul_of_pos_right (n + m) hby) hbytes
    simp only [maxLen]; omega
  have key : ∃ a' c' w', (Builtin.append_ #[t, t] o.type #[.slice a n c, .slice a2 m c2]).run P wr = .ok (.slice a' (n + m) c') w' ∧ w'.ownsRow B e size (.slice a' (n + m) c') (n + m) (xs ++ news) ∧ wr.grownBy w' (rowOf a) := by
    cases a2 with
    | none =>
      have hm : m = 0 := by
        rcases hsrc with e0 | ⟨b, o', e0, _⟩
        · rw [e0] at hl
          rcases Nat.mul_eq_zero.1 hl.symm with h0 | h0
          · exact h0
          · omega
        · cases e0
      subst hm
      obtain rfl : news = [] := List.eq_nil_of_length_eq_zero (by simpa using hl)
      exact ⟨a, c, wr, run_append_owned_none' (P := P) (w := wr) B t o.type e i size ht hi _ n xs hown c2, by simpa using hown, World.grownBy.refl _ _⟩
    | some ad =>
      obtain ⟨v', w', hr, h2, h3, _⟩ := run_append_own_at (P := P) wr B t o.type e i z size bytes ht hi hz0 hz1 hz2 hzs hsz (.slice a n c) n xs hown ad m c2 news hl (by
        intro j u hj
        have hjl : j < news.length := (List.getElem?_eq_some_iff.1 hj).1
        obtain ⟨b, o', e', hc⟩ := hsrc.at (by omega)
        cases e'
        rw [Addr.add_lit, hc j hjl]
        rw [List.getD_eq_getElem?_getD, hj]; rfl) h1 h63 hbytes hbase
      obtain ⟨a', c', rfl⟩ := owns_slice h2
      rw [ownBlock_slice] at h3
      exact ⟨a', c', w', hr, h2, h3⟩
  obtain ⟨a', c', w', hr, h2, h3⟩ := key
  unfold Oper.wp execOp
  simp only [ho, resolve, invoke, builtin, Sem.run_bind, Sem.run_pure, Result.andThen_ok, List.map_toArray, List.map_cons, List.map_nil, hs, hx, hr]
  exact h a' c' w' h2 h3

/-- .. and as one step of a region that draws its order. -/
theorem step_append_rd {P : Program} {wr : World} {ops : Array Oper} {o : Oper} {ac : Act} {K : Act → World → Prop} {Q : Exit → Act → World → Prop} {E : Prop} (hgd : o.guard = none) (s x : Operand) (t : TypeId)
    (ho : o.op = .call { callee := .builtin .append, args := #[s, x], argTypes := #[t, t] })
    {B : Nat} {e : TypeId} {z : Value} {size bytes : Nat} (ht : P.underlying t = some (.slice e)) (hinfo : (P.info? e).map (fun i => (i.zero, i.size, i.bytes)) = some (some z, size, bytes))
    (hzs : z.cells.size = size) (hsz : 0 < size)
    {a : Option Addr} {n c : Nat} {xs : List Value} (hs : ac.eval s = .slice a n c) (hown : wr.ownsRow B e size (.slice a n c) n xs)
    {a2 : Option Addr} {m c2 : Nat} {news : List Value} (hx : ac.eval x = .slice a2 m c2) (hl : news.length = m * size) (hsrc : Rd wr a2 news) (h1 : ∀ u ∈ news, u.oneCell' = true)
    (hbytes : (n + m) * bytes ≤ 140737488355328) (hby : 0 < bytes) (hbase : B ≤ wr.heap.size)
    (h : ∀ a' c' w', w'.ownsRow B e size (.slice a' (n + m) c') (n + m) (xs ++ news) → wr.grownBy w' (rowOf a) → K (ac.put o.dst (.slice a' (n + m) c')) w') :
    if Region.wanted o (yielded ops ac.tmps) = true then Oper.wp P o ac wr K Q else E := by
  have hw : Region.wanted o (yielded ops ac.tmps) = true := by simp [Region.wanted, hgd]
  rw [if_pos hw]
  exact wp_append_rd s x t ho ht hinfo hzs hsz hs hown hx hl hsrc h1 hbytes hby hbase h

theorem keepa {u w : World} {C : Prop} (h : C ∧ Below u.heap.size u w) (o : Obj) : Below u.heap.size u (w.alloc o) := h.2.alloc h.2.size o
theorem keept {u w w' : World} {C : Prop} {row : Option Nat} (h : C ∧ Below u.heap.size u w) (hg : w.grownBy w' row) (hr : ∀ k, row = some k → u.heap.size ≤ k) : Below u.heap.size u w' := h.2.trans (below_of_grown hg h.2.size hr)

end Go.Proofs.Ytnobkdkfhgjeeab
