/- 'append' onto an owned row: the row that it gives is the old one or a new one. No program in sight. -/
import Derived.Test.YthamndmfenpniaaGreatDoorBaseD
namespace Go.Proofs.YthamndmfenpniaaGreatDoor
open Go.RowKit

theorem run_append_hn {P : Program} {w : World} (t ty : TypeId) {B : Nat} {e : TypeId} {z : Value} {size bytes : Nat} (ht : P.underlying t = some (.slice e)) (hinfo : (P.info? e).map (fun i => (i.zero, i.size, i.bytes)) = some (some z, size, bytes))
    (hzs : z.cells.size = size) (hsz : 0 < size) {a : Option Addr} {n c : Nat} {xs : List Value} (hown : w.ownsRow B e size (.slice a n c) n xs)
    {a2 : Option Addr} {m c2 : Nat} {news : List Value} (hl : news.length = m * size) (hsrc : Rd w a2 news) (h1 : ∀ u ∈ news, u.oneCell' = true) (hbytes : (n + m) * bytes ≤ 140737488355328) (hby : 0 < bytes) (hbase : B ≤ w.heap.size) :
    ∃ a' c' w', (Builtin.append_ #[t, t] ty #[.slice a n c, .slice a2 m c2]).run P w = .ok (.slice a' (n + m) c') w' ∧ w'.ownsRow B e size (.slice a' (n + m) c') (n + m) (xs ++ news) ∧ w.grownBy w' (rowOf a) ∧ (∀ k, rowOf a' = some k → rowOf a = some k ∨ w.heap.size ≤ k) := by
  obtain ⟨i, hi, hz0, hz1, hz2⟩ := info_parts hinfo
  have h63 : n + m ≤ maxLen := by
    have := Nat.le_trans (Nat.le_mul_of_pos_right (n + m) hby) hbytes
    simp only [maxLen]; omega
  cases a2 with
  | none =>
    have hn0 : news = [] := by
      rcases hsrc with h | ⟨b, o, e', _⟩
      · exact h
      · cases e'
    subst hn0
    have hm : m = 0 := by
      simp only [List.length_nil] at hl
      rcases Nat.mul_eq_zero.1 hl.symm with h | h
      · exact h
      · omega
    subst hm
    refine ⟨a, c, w, run_append_owned_none' (P := P) (w := w) B t ty e i size ht hi _ n xs hown c2, by simpa using hown, World.grownBy.refl _ _, fun k hk => .inl hk⟩
  | some ad =>
    have hnews : ∀ j u, news[j]? = some u → w.cell? (ad.add j) = some u := by
      intro j u hj
      have hjl : j < news.length := (List.getElem?_eq_some_iff.1 hj).1
      obtain ⟨b, o', e', hc⟩ := hsrc.at (by omega)
      cases e'
      rw [Addr.add_lit, hc j hjl]
      rw [List.getD_eq_getElem?_getD, hj]; rfl
    have grew : ∀ v' w', (Builtin.append_ #[t, t] ty #[.slice a n c, .slice (some ad) m c2]).run P w = .ok v' w' → w'.ownsRow w.heap.size e size v' (n + m) (xs ++ news) → w.grownBy w' none → ∃ a' c' w', (Builtin.append_ #[t, t] ty #[.slice a n c, .slice (some ad) m c2]).run P w = .ok (.slice a' (n + m) c') w' ∧ w'.ownsRow B e size (.slice a' (n + m) c') (n + m) (xs ++ news) ∧ w.grownBy w' (rowOf a) ∧ (∀ k, rowOf a' = some k → rowOf a = some k ∨ w.heap.size ≤ k) := by
      intro v' w' hrun r1 r2
      obtain ⟨a', c', rfl⟩ := owns_slice r1
      exact ⟨a', c', w', hrun, owns_mono r1 hbase, ⟨r2.os, r2.tape, r2.output, r2.size, fun k hk _ => r2.block k hk (by simp)⟩, fun k hk => .inr (owns_row r1 k hk).1⟩
    rcases hown.2 with ⟨h', h0⟩ | ⟨g, cap, cur, h', hb, hg, hnc, hcm, hcs, htake⟩
    · simp only [Value.slice.injEq] at h'
      obtain ⟨rfl, rfl, rfl⟩ := h'
      obtain ⟨v', w', hrun, r1, r2, _⟩ := run_append_own (P := P) w w.heap.size t ty e i z size bytes ht hi hz0 hz1 hz2 hzs hsz (.slice none 0 0) 0 xs (by have := hown.1; simp only [Nat.zero_mul] at this; rw [List.eq_nil_of_length_eq_zero this]; exact World.ownsRow_nil w _ e size) ad m c2 news hl hnews h1 h63 hbytes (Nat.le_refl _)
      exact grew v' w' hrun r1 r2
    · simp only [Value.slice.injEq, true_and] at h'
      obtain ⟨rfl, rfl⟩ := h'
      by_cases hroom : n + m ≤ c
      · obtain ⟨curL, hfull, htk, -, -, hcl⟩ := owns_full hown
        have hmul : n * size + news.length ≤ c * size := by
          rw [hl, ← Nat.add_mul]; exact Nat.mul_le_mul_right size hroom
        have hrun := run_append_room_cells (P := P) (w := w) t ty e i ht hi g 0 n c ad m c2 news (by rw [hz1]; exact hl) hnews h1 hroom
          (fun j hj => by rw [hz1, Nat.zero_add, hfull.cellAt _ (by omega), List.getElem?_eq_getElem (by omega)]; rfl) (fun j _ => hfull.frozenAt _)
        rw [hz1, Nat.zero_add] at hrun
        have R := owns_setCells news (n * size) w curL hfull (by omega)
        have R2 := owns_cut R.1 hroom
        have e5 : (over (n * size) news curL).take ((n + m) * size) = xs ++ news := by
          unfold over
          have hx : xs.length = n * size := hown.1
          rw [htk, Nat.add_mul, ← hl, ← hx, ← List.length_append, List.take_left' rfl]
        rw [e5] at R2
        exact ⟨_, _, _, hrun, R2, R.2, fun k hk => .inl hk⟩
      · obtain ⟨v', w', hrun, r1, r2⟩ := run_append_arg_grows (P := P) w t ty e i z size bytes ht hi hz0 hz1 hz2 hzs hsz ⟨g, 0, none⟩ n c xs hown.1 (fun j u hj => by
          have hjl : j < xs.length := (List.getElem?_eq_some_iff.1 hj).1
          rw [Addr.add_lit, Nat.zero_add, hown.cellAt j (by have := hown.1; omega)]; exact hj) ad m c2 news hl hnews (by omega) h63 hbytes
        exact grew v' w' hrun r1 r2

theorem wpList_append_hn {P : Program} {wr : World} {ops : Array Oper} {rest : List Oper} {o : Oper} {ac : Act} {Q : Exit → Act → World → Prop} (hgd : o.guard = none) (s x : Operand) (t : TypeId)
    (ho : o.op = .call { callee := .builtin .append, args := #[s, x], argTypes := #[t, t] })
    {B : Nat} {e : TypeId} {z : Value} {size bytes : Nat} (ht : P.underlying t = some (.slice e)) (hinfo : (P.info? e).map (fun i => (i.zero, i.size, i.bytes)) = some (some z, size, bytes))
    (hzs : z.cells.size = size) (hsz : 0 < size)
    {a : Option Addr} {n c : Nat} {xs : List Value} (hs : ac.eval s = .slice a n c) (hown : wr.ownsRow B e size (.slice a n c) n xs)
    {a2 : Option Addr} {m c2 : Nat} {news : List Value} (hx : ac.eval x = .slice a2 m c2) (hl : news.length = m * size) (hsrc : Rd wr a2 news) (h1 : ∀ u ∈ news, u.oneCell' = true)
    (hbytes : (n + m) * bytes ≤ 140737488355328) (hby : 0 < bytes) (hbase : B ≤ wr.heap.size)
    (h : ∀ a' c' w', w'.ownsRow B e size (.slice a' (n + m) c') (n + m) (xs ++ news) → wr.grownBy w' (rowOf a) → (∀ k, rowOf a' = some k → rowOf a = some k ∨ wr.heap.size ≤ k) → wpList P ops Q rest (ac.put o.dst (.slice a' (n + m) c')) w') : wpList P ops Q (o :: rest) ac wr := by
  obtain ⟨a', c', w', hrun, k1, k2, k3⟩ := run_append_hn (P := P) (c2 := c2) t o.type ht hinfo hzs hsz hown hl hsrc h1 hbytes hby hbase
  refine wpList_plain hgd fun K hK' => ?_
  unfold Oper.wp
  simp [execOp, ho, resolve, invoke, builtin, hs, hx, hrun, Result.andThen]
  exact hK' _ _ (h a' c' w' k1 k2 k3)

end Go.Proofs.YthamndmfenpniaaGreatDoor
